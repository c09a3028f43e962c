/- What a task's begin, step and access leave; the manager's making. For every such manager in memory. -/
import Derived.Test.YtpekoejdnhaohaaGreatDoorQ
namespace Go.Proofs.YtpekoejdnhaohaaGreatDoor
open Go.RowKit Tryz
set_option maxRecDepth 100000
set_option maxHeartbeats 40000000
set_option linter.all false
variable {s:AE} {q:Bool} {v:Bx} {k:Int} {l:List DX} {H d:Nat} {lab lab':Nat->Lb} {w w':World} {Q:World->Prop}
theorem Ju (x:Tk) (d:Nat) (hd:d<6):(Ia x)[7+d]?=some (.int .i64 (x.h d:Int)):=by
 match d,hd with
 | 0,_ | 1,_ | 2,_ | 3,_ | 4,_ | 5,_=>rfl
theorem Th (H F C:Nat) (s:AE) (b:Rb) (y:Rm) (t d v:Nat) (ht:t=0∨t=1∨t=2) (hd:d<6):
 (Ew H F C s b y).set (10+t*13+7+d) (.int .i64 v)=Ew H F C s b { y with tk:=upd y.tk t { y.tk t with h:=upd (y.tk t).h d v } }:=by
 rcases ht with rfl | rfl | rfl
 all_goals (match d,hd with
  | 0,_ | 1,_ | 2,_ | 3,_ | 4,_ | 5,_=>rfl)
section
variable {w:World} {lab:Nat->Lb} {s:AE} {H F:Nat} {b:Rb} {y:Rm} {cb:Cb} {n:Nat} {cnt:Nat->Nat}
def MN (w:World) (lab:Nat->Lb) (s:AE) (H F:Nat) (cb:Cb) (b:Rb) (y':Rm) (n':Nat) (cnt':Nat->Nat) (asl':Bool) (e:Ending) (w':World):Prop:=
 e= .returned (.int .i64 0)∧AD (fun j=>j=b.R∨j=cb.C∨j=cb.M) w w'∧∃b',b'.R=b.R∧Ac w' lab s H F cb.C b' y'∧A7 w' lab s cb n' cnt' asl'
theorem Nz (h:Ac w lab s H F cb.C b y) (hc:A7 w lab s cb n cnt q) (k:AD (fun j=>j=cb.C∨j=cb.M) w w'):Ac w' lab s H F cb.C b y:=
 h.keep k fun j e c=>by rcases c with c | c <;> rcases e with e | e <;> (rw [c] at e;first | (rw [hc.lC] at e;cases e) | (rw [hc.lM] at e;cases e))
def Rm.hand (y:Rm) (t d v:Nat):Rm:={ y with tk:=upd y.tk t { y.tk t with h:=upd (y.tk t).h d v } }
theorem WQ (h:Ac w lab s H F cb.C b y) (hc:A7 w lab s cb n cnt false) (hs:s.Ok) (hfr:∀j,w.heap.size<=j->lab j= .obj 0) (hn:n<=1000) (t:Nat) (ht:t=0∨t=1∨t=2) (hd:(y.tk t).c.dev=d) (hdv:d<s.nv) (hcd:cnt d<7) (hh:(y.tk t).h d<=1000):
 Calls prog 338 #[.agg #[], .pointer (some (b.R 0)), .pointer (some (b.R (10+t*13)))] w
  (MN w lab s H F cb b ((y.hand t d ((y.tk t).h d+1)).want s (upd cnt d (cnt d+1)) false) (n+1) (upd cnt d (cnt d+1)) false):=by
 have cd:w.cell? (b.R (10+t*13+1+1))=some (.int .i64 ((y.tk t).c.dev:Int)):=h.tkc t 2 ht (by omega);have cC:=cv_ (.pointer (some (cb.C 0))) (h.r.cell 6);have cV:=cv_ (.slice (some (b.v.vb 0)) s.nv b.v.vc) (h.r.cell 5);rw [hd] at cd;have n4:=hs.v2;have lR:=h.r.lt;obtain⟨nh,hhv⟩:=ex ((y.tk t).h d);rw [hhv] at hh;have HV:=Ae hhv;have HS:=Ae hs;have HH:=Ae h;have HC:=Ae hc;have HL:=Ae hfr;have HT:=Ae ht;have HD:=Ae hd;clear h hc hs hfr ht hd hhv;go_in;go_wp2_with fail;have kb:=(nr w).alloc (.cells #[] 268);have BB:=Ae (HC.out.new kb);have HB:=Ae (HH.out.new kb);have KB:=Ae kb;obtain⟨W0,hW0⟩:=ex (w.alloc (.cells #[] 268));rw [hW0] at BB HB KB ⊢;clear kb hW0 cd cC cV;refine(N5 BB.out hn d hdv hcd).mono ?_;rintro e W1 ⟨rfl,k1,c1⟩;have H1:=Ae (Nz HB.out BB.out (k1.mono fun j e=> .inr e));have C1:=Ae c1;have K1:AG (AD (fun j=>j=b.R∨j=cb.C∨j=cb.M) w W1):=⟨(KB.out.mono fun _ e=>e.elim).then_ (k1.mono fun j e=> .inr (.inr e))⟩;clear k1 c1;go_wp2_with fail;have hdi:(d:Int)<6:=by omega
 refine rh_ (fun _=>True) trivial (fun hE=>?_);obtain⟨Y,hY⟩:=ex W1.drew;have KY:AG (AD (fun j=>j=b.R∨j=cb.C∨j=cb.M) w Y):=⟨by rw [<-hY];exact K1.out.drew⟩;have hR:=Ae (show Ac Y lab s H F cb.C b y from by rw [<-hY];exact H1.out.new (AD.drew (kx_)));have hC:=Ae (show A7 Y lab s cb (n+1) (upd cnt d (cnt d+1)) false from by rw [<-hY];exact C1.out.new (AD.drew (kx_)));have xh:Y.cell? (b.R (10+t*13+7+d))=some (.int .i64 nh):=by
  have h:=hR.out.tkc t (7+d) HT.out (by omega);rw [<-Nat.add_assoc] at h;rw [h, <-HV.out];exact Ju _ d (by omega)
 have fh:Y.frozen? (b.R (10+t*13+7+d))=false:=hR.out.r.frozen _;rw [hY];clear hY K1 H1 C1;change wpAnyH _ _ _ _ _ (([0,1,2,3,4,5,6,7,8]:List Nat).length+2) _ _ Y;refine wl_ [0,1,2,3,4,5,6,7,8] (fun i vals _=>vals i=([.pointer (some (b.R (10+t*13))), .int .i64 d, .pointer (some (b.R (10+t*13))), .pointer (some (b.R (10+t*13+7))), .pointer (some (b.R (10+t*13+7+d))), .int .i64 nh, .int .i64 ((nh:Int)+1), .pointer (some (b.R (10+t*13))), .pointer (some (b.R (10+t*13+7)))]:List Value).getD i undef) (fun w=>w=Y) (fun _ _ _=>True) rfl ?lstep ?lfin;case lstep=>
  intro i hi oo ho vals ρ w' hw hd hf;subst hw;simp only [m1,m0,or_false] at hi;rcases hi with rfl | rfl | rfl | rfl | rfl | rfl | rfl | rfl | rfl
  . cases ho;intro a' K Q ha hK;have e2:=th_ (.pointer (some (b.R (10+t*13)))) ha hf 2;clear ha;go_simp;exact hK _ _ ⟨trivial,rfl,trivial,Ap⟩
  . cases ho;intro a' K Q ha hK;have e7:=th_ (.int .i64 d) ha hf 7;clear ha;go_simp;exact hK _ _ ⟨trivial,rfl,trivial,Ap⟩
  . cases ho;intro a' K Q ha hK;have e23:=td (.pointer (some (b.R (10+t*13)))) ha 23 (he_ hd 0);clear ha;go_simp;exact hK _ _ ⟨trivial,rfl,trivial,Ap⟩
  . cases ho;intro a' K Q ha hK;have e25:=td (.pointer (some (b.R (10+t*13)))) ha 25 (he_ hd 2);clear ha;go_simp;exact hK _ _ ⟨trivial,rfl,trivial,Ap⟩
  . cases ho;intro a' K Q ha hK;have e26:=td (.pointer (some (b.R (10+t*13+7)))) ha 26 (he_ hd 3);have e24:=td (.int .i64 (d:Int)) ha 24 (he_ hd 1);clear ha;go_simp;exact hK _ _ ⟨trivial,rfl,trivial,Ap⟩
  . cases ho;intro a' K Q ha hK;have e27:=td (.pointer (some (b.R (10+t*13+7+d)))) ha 27 (he_ hd 4);clear ha;go_simp;exact hK _ _ ⟨trivial,rfl,trivial,Ap⟩
  . cases ho;intro a' K Q ha hK;have e28:=td (.int .i64 (nh:Int)) ha 28 (he_ hd 5);clear ha;go_simp;have hwr:IntKind.i64.wrap ((nh:Int)+1)=(nh:Int)+1:=by simp [IntKind.wrap,IntKind.bits,IntKind.signed];omega
    rw [hwr];exact hK _ _ ⟨trivial,rfl,trivial,Ap⟩
  . cases ho;intro a' K Q ha hK;have e23:=td (.pointer (some (b.R (10+t*13)))) ha 23 (he_ hd 0);clear ha;go_simp;exact hK _ _ ⟨trivial,rfl,trivial,Ap⟩
  . cases ho;intro a' K Q ha hK;have e30:=td (.pointer (some (b.R (10+t*13)))) ha 30 (he_ hd 7);clear ha;go_simp;exact hK _ _ ⟨trivial,rfl,trivial,Ap⟩
 case lfin=>
 rintro vals w' hw hv;subst hw;have v0:=Jh hv 0;have v1:=Jh hv 1;have v2:=Jh hv 2;have v3:=Jh hv 3;have v4:=Jh hv 4;have v5:=Jh hv 5;have v6:=Jh hv 6;have v7:=Jh hv 7;have v8:=Jh hv 8;clear hv;simp only [Am,AR,dstOf,De,Bl,Bk,CM,pu,s0,s1,if_true,v0,v1,v2,v3,v4,v5,v6,v7,v8];clear v0 v1 v2 v3 v4 v5 v6 v7 v8;refine tk 9 trivial ?_;refine oN_ 10 (fun wz=>wz=w'.setCell (b.R (10+t*13+7+d)) (.int .i64 ((nh:Int)+1))) ?g_g10 ?g_n10;case g_g10=>
  intro a' K Q ha hK;have e0:=te ha 32;have e1:=te ha 29;clear ha;go_simp;exact hK undef _ rfl
 case g_n10=>
 rintro w2 rfl;refine⟨trivial,?_⟩;refine⟨by kernel_rfl,?_⟩;have ks:AD (fun j=>j=b.R) w' (w'.setCell (b.R (10+t*13+7+d)) (.int .i64 ((nh:Int)+1))):=keeps_set _;have hv2:((nh+1:Nat):Int)=(nh:Int)+1:=by omega
 have BZ:=hR.out.r.set (10+t*13+7+d) (.int .i64 ((nh+1:Nat):Int));rw [Th H F cb.C s b y t d (nh+1) HT.out (by omega),hv2] at BZ;have H2:=Ae (hR.out.turn0 (y':={ y with tk:=upd y.tk t { y.tk t with h:=upd (y.tk t).h d (nh+1) } }) ks rfl rfl BZ);have C2:=Ae (hC.out.keep ks fun j e c=>by rcases e with e | e | e <;> (rw [show j=b.R from c,hR.out.lR] at e;cases e));have KZ:=Ae (KY.out.then_ (ks.mono fun j e=> .inl e));obtain⟨Z,hZ⟩:=ex (w'.setCell (b.R (10+t*13+7+d)) (.int .i64 ((nh:Int)+1)));rw [hZ] at H2 C2 KZ ⊢;clear hZ ks BZ xh fh hR hC KY hv2;go_wp2_with fail;refine(Ic H2.out C2.out HS.out (fun j hj=>HL.out j (by have:=KZ.out.size;omega))).mono ?_;rintro e W5 ⟨rfl,k5,b5,hb5,r5⟩;have C5:=Ae (C2.out.keep k5 fun j e c=>by rcases e with e | e | e <;> (rw [show j=b.R from c,H2.out.lR] at e;cases e));have K5:=Ae (KZ.out.then_ (k5.mono fun j e=> .inl e));have R5:=Ae r5;clear k5 r5;go_wp2;go_ret;exact⟨rfl,K5.out,b5,hb5,by rw [HV.out];exact R5.out,C5.out⟩
theorem WO (h:Ac w lab s H F cb.C b y) (hc:A7 w lab s cb n cnt false) (hs:s.Ok) (hfr:∀j,w.heap.size<=j->lab j= .obj 0) (hn:n<=1000) (t:Nat) (ht:t=0∨t=1∨t=2) (hd:(y.tk t).c.dev=d) (hdv:d<s.nv) (hcd:0<cnt d∧cnt d<=7) (hh:0<(y.tk t).h d∧(y.tk t).h d<=1000):
 Calls prog 356 #[.agg #[], .pointer (some (b.R 0)), .pointer (some (b.R (10+t*13)))] w
  (MN w lab s H F cb b ((y.hand t d ((y.tk t).h d - 1)).want s (upd cnt d (cnt d - 1)) false) (n+1) (upd cnt d (cnt d - 1)) false):=by
 have cd:w.cell? (b.R (10+t*13+1+1))=some (.int .i64 ((y.tk t).c.dev:Int)):=h.tkc t 2 ht (by omega);have cC:=cv_ (.pointer (some (cb.C 0))) (h.r.cell 6);have cV:=cv_ (.slice (some (b.v.vb 0)) s.nv b.v.vc) (h.r.cell 5);rw [hd] at cd;have n4:=hs.v2;have lR:=h.r.lt;obtain⟨nh,hhv⟩:=ex ((y.tk t).h d);rw [hhv] at hh;have HV:=Ae hhv;have HS:=Ae hs;have HH:=Ae h;have HC:=Ae hc;have HL:=Ae hfr;have HT:=Ae ht;have HD:=Ae hd;have ch:w.cell? (b.R (10+t*13+7+d))=some (.int .i64 nh):=by
  have g:=h.tkc t (7+d) ht (by omega);rw [<-Nat.add_assoc] at g;rw [g, <-hhv];exact Ju _ d (by omega)
 have hnz:¬(nh:Int)=0:=by omega
 have hd6:d<6:=by omega
 clear h hc hs hfr ht hd hhv;go_in;go_wp2_with fail;have kb:=(nr w).alloc (.cells #[] 269);have BB:=Ae (HC.out.new kb);have HB:=Ae (HH.out.new kb);have KB:=Ae kb;have ch2:=(kb.cell (p:=⟨b.R,_,none⟩) lR id).trans ch;have cC2:=(kb.cell (p:=⟨b.R,_,none⟩) lR id).trans cC;obtain⟨W0,hW0⟩:=ex (w.alloc (.cells #[] 269));rw [hW0] at BB HB KB ch2 cC2 ⊢;clear kb hW0 cd cC cV ch;refine mn_ (LU HB.out d hdv) ?_;go_wp2_with fail;refine(Vu BB.out hn d hdv hcd).mono ?_;rintro e W1 ⟨rfl,k1,c1⟩;have H1:=Ae (Nz HB.out BB.out (k1.mono fun j e=> .inr e));have C1:=Ae c1;have K1:AG (AD (fun j=>j=b.R∨j=cb.C∨j=cb.M) w W1):=⟨(KB.out.mono fun _ e=>e.elim).then_ (k1.mono fun j e=> .inr (.inr e))⟩;clear k1 c1 ch2 cC2 hnz;go_wp2_with fail;have hdi:(d:Int)<6:=by omega
 refine rh_ (fun _=>True) trivial (fun hE=>?_);obtain⟨Y,hY⟩:=ex W1.drew;have KY:AG (AD (fun j=>j=b.R∨j=cb.C∨j=cb.M) w Y):=⟨by rw [<-hY];exact K1.out.drew⟩;have hR:=Ae (show Ac Y lab s H F cb.C b y from by rw [<-hY];exact H1.out.new (AD.drew (kx_)));have hC:=Ae (show A7 Y lab s cb (n+1) (upd cnt d (cnt d - 1)) false from by rw [<-hY];exact C1.out.new (AD.drew (kx_)));have xh:Y.cell? (b.R (10+t*13+7+d))=some (.int .i64 nh):=by
  have h:=hR.out.tkc t (7+d) HT.out (by omega);rw [<-Nat.add_assoc] at h;rw [h, <-HV.out];exact Ju _ d (by omega)
 have fh:Y.frozen? (b.R (10+t*13+7+d))=false:=hR.out.r.frozen _;rw [hY];clear hY K1 H1 C1;change wpAnyH _ _ _ _ _ (([0,1,2,3,4,5,6,7,8]:List Nat).length+2) _ _ Y;refine wl_ [0,1,2,3,4,5,6,7,8] (fun i vals _=>vals i=([.pointer (some (b.R (10+t*13))), .int .i64 d, .pointer (some (b.R (10+t*13))), .pointer (some (b.R (10+t*13+7))), .pointer (some (b.R (10+t*13+7+d))), .int .i64 nh, .int .i64 ((nh:Int) - 1), .pointer (some (b.R (10+t*13))), .pointer (some (b.R (10+t*13+7)))]:List Value).getD i undef) (fun w=>w=Y) (fun _ _ _=>True) rfl ?lstep ?lfin;case lstep=>
  intro i hi oo ho vals ρ w' hw hd hf;subst hw;simp only [m1,m0,or_false] at hi;rcases hi with rfl | rfl | rfl | rfl | rfl | rfl | rfl | rfl | rfl
  . cases ho;intro a' K Q ha hK;have e2:=th_ (.pointer (some (b.R (10+t*13)))) ha hf 2;clear ha;go_simp;exact hK _ _ ⟨trivial,rfl,trivial,Ap⟩
  . cases ho;intro a' K Q ha hK;have e7:=th_ (.int .i64 d) ha hf 7;clear ha;go_simp;exact hK _ _ ⟨trivial,rfl,trivial,Ap⟩
  . cases ho;intro a' K Q ha hK;have e36:=td (.pointer (some (b.R (10+t*13)))) ha 36 (he_ hd 0);clear ha;go_simp;exact hK _ _ ⟨trivial,rfl,trivial,Ap⟩
  . cases ho;intro a' K Q ha hK;have e38:=td (.pointer (some (b.R (10+t*13)))) ha 38 (he_ hd 2);clear ha;go_simp;exact hK _ _ ⟨trivial,rfl,trivial,Ap⟩
  . cases ho;intro a' K Q ha hK;have e39:=td (.pointer (some (b.R (10+t*13+7)))) ha 39 (he_ hd 3);have e37:=td (.int .i64 (d:Int)) ha 37 (he_ hd 1);clear ha;go_simp;exact hK _ _ ⟨trivial,rfl,trivial,Ap⟩
  . cases ho;intro a' K Q ha hK;have e40:=td (.pointer (some (b.R (10+t*13+7+d)))) ha 40 (he_ hd 4);clear ha;go_simp;exact hK _ _ ⟨trivial,rfl,trivial,Ap⟩
  . cases ho;intro a' K Q ha hK;have e41:=td (.int .i64 (nh:Int)) ha 41 (he_ hd 5);clear ha;go_simp;have hwr:IntKind.i64.wrap ((nh:Int) - 1)=(nh:Int) - 1:=by simp [IntKind.wrap,IntKind.bits,IntKind.signed];omega
    rw [hwr];exact hK _ _ ⟨trivial,rfl,trivial,Ap⟩
  . cases ho;intro a' K Q ha hK;have e36:=td (.pointer (some (b.R (10+t*13)))) ha 36 (he_ hd 0);clear ha;go_simp;exact hK _ _ ⟨trivial,rfl,trivial,Ap⟩
  . cases ho;intro a' K Q ha hK;have e43:=td (.pointer (some (b.R (10+t*13)))) ha 43 (he_ hd 7);clear ha;go_simp;exact hK _ _ ⟨trivial,rfl,trivial,Ap⟩
 case lfin=>
 rintro vals w' hw hv;subst hw;have v0:=Jh hv 0;have v1:=Jh hv 1;have v2:=Jh hv 2;have v3:=Jh hv 3;have v4:=Jh hv 4;have v5:=Jh hv 5;have v6:=Jh hv 6;have v7:=Jh hv 7;have v8:=Jh hv 8;clear hv;simp only [Am,AR,dstOf,De,Bl,Bk,CM,pu,s0,s1,if_true,v0,v1,v2,v3,v4,v5,v6,v7,v8];clear v0 v1 v2 v3 v4 v5 v6 v7 v8;refine tk 9 trivial ?_;refine oN_ 10 (fun wz=>wz=w'.setCell (b.R (10+t*13+7+d)) (.int .i64 ((nh:Int) - 1))) ?g_g10 ?g_n10;case g_g10=>
  intro a' K Q ha hK;have e0:=te ha 45;have e1:=te ha 42;clear ha;go_simp;exact hK undef _ rfl
 case g_n10=>
 rintro w2 rfl;refine⟨trivial,?_⟩;refine⟨by kernel_rfl,?_⟩;have ks:AD (fun j=>j=b.R) w' (w'.setCell (b.R (10+t*13+7+d)) (.int .i64 ((nh:Int) - 1))):=keeps_set _;have hv2:((nh - 1:Nat):Int)=(nh:Int) - 1:=by omega
 have BZ:=hR.out.r.set (10+t*13+7+d) (.int .i64 ((nh - 1:Nat):Int));rw [Th H F cb.C s b y t d (nh - 1) HT.out (by omega),hv2] at BZ;have H2:=Ae (hR.out.turn0 (y':={ y with tk:=upd y.tk t { y.tk t with h:=upd (y.tk t).h d (nh - 1) } }) ks rfl rfl BZ);have C2:=Ae (hC.out.keep ks fun j e c=>by rcases e with e | e | e <;> (rw [show j=b.R from c,hR.out.lR] at e;cases e));have KZ:=Ae (KY.out.then_ (ks.mono fun j e=> .inl e));obtain⟨Z,hZ⟩:=ex (w'.setCell (b.R (10+t*13+7+d)) (.int .i64 ((nh:Int) - 1)));rw [hZ] at H2 C2 KZ ⊢;clear hZ ks BZ xh fh hR hC KY hv2;go_wp2_with fail;refine(Ic H2.out C2.out HS.out (fun j hj=>HL.out j (by have:=KZ.out.size;omega))).mono ?_;rintro e W5 ⟨rfl,k5,b5,hb5,r5⟩;have C5:=Ae (C2.out.keep k5 fun j e c=>by rcases e with e | e | e <;> (rw [show j=b.R from c,H2.out.lR] at e;cases e));have K5:=Ae (KZ.out.then_ (k5.mono fun j e=> .inl e));have R5:=Ae r5;clear k5 r5;go_wp2;go_ret;exact⟨rfl,K5.out,b5,hb5,by rw [HV.out];exact R5.out,C5.out⟩
theorem Mi (h:Ac w lab s H F cb.C b y) (hc:A7 w lab s cb n cnt false) (hs:s.Ok) (hfr:∀j,w.heap.size<=j->lab j= .obj 0) (p:Value):
 Calls prog 364 #[.agg #[], .pointer b.R,p] w (MN w lab s H F cb b (y.want s cnt true) n cnt true):=by
 have cC:=cv_ (.pointer (some (cb.C 0))) (h.r.cell 6);have lR:=h.r.lt;have HS:=Ae hs;have HL:=Ae hfr;have HH:=Ae h;have HC:=Ae hc;clear h hc hs hfr;go_in;go_wp2_with fail;have kb:=(nr w).alloc (.cells #[] 272);have BB:=Ae (HC.out.new kb);have HB:=Ae (HH.out.new kb);have KB:=Ae kb;obtain⟨W0,hW0⟩:=ex (w.alloc (.cells #[] 272));rw [hW0] at BB HB KB ⊢;clear kb hW0 cC;refine(Mc BB.out).mono ?_;rintro e W1 ⟨rfl,k1,c1⟩;have H1:=Ae (Nz HB.out BB.out (k1.mono fun j e=> .inl e));have C1:=Ae c1;have KZ:AG (AD (fun j=>j=b.R∨j=cb.C∨j=cb.M) w W1):=⟨(KB.out.mono fun _ e=>e.elim).then_ (k1.mono fun j e=> .inr (.inl e))⟩;clear k1 c1;go_wp2_with fail;refine(Ic H1.out C1.out HS.out (fun j hj=>HL.out j (by have:=KZ.out.size;omega))).mono ?_;rintro e W5 ⟨rfl,k5,b5,hb5,r5⟩;have C5:=Ae (C1.out.keep k5 fun j e c=>by rcases e with e | e | e <;> (rw [show j=b.R from c,H1.out.lR] at e;cases e));have K5:=Ae (KZ.out.then_ (k5.mono fun j e=> .inl e));have R5:=Ae r5;clear k5 r5;go_wp2;go_ret;exact⟨rfl,K5.out,b5,hb5,R5.out,C5.out⟩
theorem Oo (h:Ac w lab s H F cb.C b y) (hc:A7 w lab s cb n cnt true) (hs:s.Ok) (hfr:∀j,w.heap.size<=j->lab j= .obj 0) (p:Value):
 Calls prog 365 #[.agg #[], .pointer b.R,p] w (MN w lab s H F cb b (y.want s cnt false) n cnt false):=by
 have cC:=cv_ (.pointer (some (cb.C 0))) (h.r.cell 6);have lR:=h.r.lt;have HS:=Ae hs;have HL:=Ae hfr;have HH:=Ae h;have HC:=Ae hc;clear h hc hs hfr;go_in;go_wp2_with fail;have kb:=(nr w).alloc (.cells #[] 273);have BB:=Ae (HC.out.new kb);have HB:=Ae (HH.out.new kb);have KB:=Ae kb;obtain⟨W0,hW0⟩:=ex (w.alloc (.cells #[] 273));rw [hW0] at BB HB KB ⊢;clear kb hW0 cC;refine(Of BB.out).mono ?_;rintro e W1 ⟨rfl,k1,c1⟩;have H1:=Ae (Nz HB.out BB.out (k1.mono fun j e=> .inl e));have C1:=Ae c1;have KZ:AG (AD (fun j=>j=b.R∨j=cb.C∨j=cb.M) w W1):=⟨(KB.out.mono fun _ e=>e.elim).then_ (k1.mono fun j e=> .inr (.inl e))⟩;clear k1 c1;go_wp2_with fail;refine(Ic H1.out C1.out HS.out (fun j hj=>HL.out j (by have:=KZ.out.size;omega))).mono ?_;rintro e W5 ⟨rfl,k5,b5,hb5,r5⟩;have C5:=Ae (C1.out.keep k5 fun j e c=>by rcases e with e | e | e <;> (rw [show j=b.R from c,H1.out.lR] at e;cases e));have K5:=Ae (KZ.out.then_ (k5.mono fun j e=> .inl e));have R5:=Ae r5;clear k5 r5;go_wp2;go_ret;exact⟨rfl,K5.out,b5,hb5,R5.out,C5.out⟩
end
section
variable {w:World} {lab:Nat->Lb} {s:AE} {H F C:Nat} {b:Rb} {y:Rm}
def effF (k:Int):Nat:=if k=103 then 338 else if k=112 then 356 else if k=114 then 358 else if k=119 then 358 else if k=115 then 364 else 365
def Rm.works (y:Rm) (t:Nat):Rm:={ y with holder:=(t:Int),tk:=upd y.tk t { y.tk t with st:=2 } }
def Rm.over (y:Rm) (t:Nat) (er x:Int):Rm:={ y with tk:=upd y.tk t { y.tk t with st:=3,err:=er,res:=x },holder:= -1,steps:=[],sent:=false,posted:=false }
theorem SE (hk:JA k) (W:World):Sem.run prog (method 535 (effT k) (Vf k) "catnap/rpm.begin") W= .ok (effF k,Vf k) W:=by
 rcases hk with rfl | rfl | rfl | rfl | rfl | rfl <;> kernel_rfl
theorem TC (hk:JA k) (args:Array Value) (W:World):Sem.run prog (callFunc (effF k) args) W= .ok (.enter (effF k) args) W:=by
 rcases hk with rfl | rfl | rfl | rfl | rfl | rfl
 . exact enters_of func338 (by kernel_rfl) rfl args W
 . exact enters_of func356 (by kernel_rfl) rfl args W
 . exact enters_of func358 (by kernel_rfl) rfl args W
 . exact enters_of func358 (by kernel_rfl) rfl args W
 . exact enters_of func364 (by kernel_rfl) rfl args W
 . exact enters_of func365 (by kernel_rfl) rfl args W
theorem Uq (h:Ac w lab s H F C b y) (t:Nat) (ht:t=0∨t=1∨t=2) (hk:JA (y.tk t).c.kind) (y2:Rm) (Q2:World->(Nat->Lb)->Rb->Prop)
 (act:∀W,AD (fun j=>j=b.R) w W->Ac W lab s H F C b (y.works t)->Calls prog (effF (y.tk t).c.kind) #[Vf (y.tk t).c.kind, .pointer b.R, .pointer (some (b.R (10+t*13)))] W fun e w'=>e= .returned (.int .i64 0)∧∃lab' b2,Q2 w' lab' b2)
 (has:∀W lab' b2,Q2 W lab' b2->b2.R=b.R∧Ac W lab' s H F C b2 y2) (hho:y2.holder=(t:Int)):
 Calls prog 136 #[.pointer b.R, .int .i64 t] w fun e w'=>e= .returned (.tuple #[])∧
  ((y2.posted=true∨y2.steps≠[])->∃lab' b2,Q2 w' lab' b2)∧(y2.posted=false->y2.steps=[]->∃W lab' b2,Q2 W lab' b2∧b2.R=b.R∧WZ W lab' s H F C b2 (y2.over t 0 0) (.tuple #[]) e w'):=by
 have c0:w.cell? (b.R (10+t*13))=some (.int .i64 (y.tk t).st):=h.tkc t 0 ht (by omega);have c1:w.cell? (b.R (10+t*13+1))=some (.int .u8 (y.tk t).c.kind):=h.tkc t 1 ht (by omega);have c49:=cv_ (.int .i64 y.holder) (h.r.cell 49);have fr:=fun i=>h.r.frozen i;have ht3:t<3:=by omega
 have ne49:¬49=10+t*13:=by omega
 have ne49':¬49=10+t*13+1:=by omega
 have HH:=Ae h;have HT:=Ae ht;obtain⟨k,hkk⟩:∃k,(y.tk t).c.kind=k:=⟨_,rfl⟩;rw [hkk] at c1 hk act;have ks:AD (fun j=>j=b.R) w ((w.setCell (b.R 49) (.int .i64 t)).setCell (b.R (10+t*13)) (.int .i64 2)):=(keeps_set _).t (keeps_set _);have BZ:AF ((w.setCell (b.R 49) (.int .i64 t)).setCell (b.R (10+t*13)) (.int .i64 2)) b.R 138 (Ew H F C s b (y.works t)):=by
  have g:=(h.r.set 49 (.int .i64 t)).set (10+t*13) (.int .i64 2);rcases ht with rfl | rfl | rfl
  all_goals exact g
 have R2:=Ae (h.turn0 (y':=y.works t) ks rfl rfl BZ);have AC:=Ae (act _ ks R2.out);have HA:=Ae has;have HO:=Ae hho;have hk2:=Ae hk;clear h ht hkk act has hho ks BZ;have hm:=fun W=>SE hk W;have hcf:=fun args W=>TC hk args W;have HE:=Ae (fun W=>LK hk W);obtain⟨T,hT⟩:∃T,effT k=T:=⟨_,rfl⟩;obtain⟨V,hV⟩:∃V,Vf k=V:=⟨_,rfl⟩;obtain⟨f,hf⟩:∃f,effF k=f:=⟨_,rfl⟩;rw [hT,hV] at HE hm;rw [hV,hf] at AC;rw [hf] at hm hcf;clear hT hV hf hk hk2;go_enter func136,ntmps136;go_wp2_with fail;refine mn_ (HE.out _) ?_;go_wp2_with fail;refine AC.out.mono ?_;rintro e W2 ⟨rfl,lab',b2,q2⟩;obtain⟨hb2,r2⟩:=HA.out W2 lab' b2 q2;have Q:=Ae q2;have RR:=Ae r2;have HB2:=Ae hb2;have p52:W2.cell? (b.R 52)=some (.bool y2.posted):=by rw [<-hb2];exact r2.r.cell 52
 obtain⟨a3,c3,e3,_⟩:=r2.st;have p50:W2.cell? (b.R 50)=some (.slice a3 y2.steps.length c3):=by rw [<-hb2, <-e3];exact r2.r.cell 50
 obtain⟨z,hz⟩:=ex y2.posted;obtain⟨m,hm2⟩:=ex y2.steps.length;have HZ:=Ae hz;have HM:=Ae hm2;rw [hz] at p52;rw [hm2] at p50;clear q2 r2 hb2 hz hm2 e3 AC HA hm hcf;cases z
 . by_cases hm0:m=0
   . subst hm0;go_wp2_with fail;have en:=OA (y:=y2) RR.out t HT.out HO.out 0 0;rw [HB2.out] at en;refine en.mono ?_;rintro e W3 ⟨rfl,p3⟩;have P3:=Ae p3;clear p3 en;go_wp2;go_end0;refine⟨rfl,fun c=>?_,fun _ _=>⟨W2,lab',b2,Q.out,HB2.out,rfl,?_⟩⟩
     . rcases c with c | c
       . rw [HZ.out] at c;cases c
       . exact absurd (Gc HM.out) c
     . exact P3.out
   . have hm1:¬(m:Int)=0:=by omega
     go_wp2;go_end0;exact⟨rfl,fun _=>⟨_,_,Q.out⟩,fun _ c=>absurd (by rw [<-HM.out,c];rfl) hm0⟩
 . go_wp2;go_end0;exact⟨rfl,fun _=>⟨_,_,Q.out⟩,fun c _=>by rw [HZ.out] at c;cases c⟩
end
section
variable {w:World} {lab:Nat->Lb} {s:AE} {H C:Nat} {b:Rb} {y:Rm} {fb:Fb} {yf:Fm}
theorem Ac.firm (h:Ac w lab s H fb.F C b y) (hf:AP w lab s H fb yf) (k:AD (fun j=>j=fb.F) w w'):Ac w' lab s H fb.F C b y:=
 h.keep k fun j e c=>by rw [show j=fb.F from c,hf.lF] at e;rcases e with e | e <;> cases e
theorem AP.rpm (hf:AP w lab s H fb yf) (h:Ac w lab s H fb.F C b y) (k:AD (fun j=>j=b.R) w w'):AP w' lab s H fb yf:=
 hf.keep k fun j e c=>by rw [show j=b.R from c,h.lR] at e;rcases e with e | e <;> cases e
def ZY (w:World) (lab:Nat->Lb) (s:AE) (H C:Nat) (b:Rb) (y':Rm) (fb:Fb) (yf:Fm) (q:DX) (tok:Nat) (e:Ending) (w':World):Prop:=
 e= .returned (.tuple #[])∧AD (fun j=>j=b.R∨j=fb.F) w w'∧Ac w' lab s H fb.F C b y'∧∃k c,AP w' lab s H { fb with q:=k,qn:=3,qc:=c } { yf with box:=1 }∧An w' k q.p tok q.i q.x∧w.heap.size<=k
theorem Yy (h:Ac w lab s H fb.F C b y) (hf:AP w lab s H fb yf) (hb:yf.box=0) {q:DX} (hst:y.steps=q::l) (hse:y.sent=false) (hp:q.p<=255) {tok:Nat} (htok:y.many=tok) (ht:tok<=1023):
 Calls prog 137 #[.pointer b.R] w (ZY w lab s H C b { y with sent:=true,many:=(tok+1) % 1024 } fb yf q tok):=by
 obtain⟨a,c,e1,hh⟩:=h.st;obtain⟨g,o,e2,e3,e4,e5,e6⟩:=hh (by rw [hst];exact List.cons_ne_nil _ _);rw [hst] at e1 e5 e6;rw [e2] at e1;have SK:AG (∀w',AJ w w'->w'.cell? (b.R 50)=some (.slice (some (g o)) (l.length+1) c)∧w'.cell? (b.R 54)=some (.int .i64 tok)∧w'.cell? (g o)=some (.int .i64 q.p)∧w'.cell? (g (o+1))=some (.int .i64 (msgOf q.p:Int))∧w'.cell? (g (o+2))=some (.int .u32 q.i)∧w'.cell? (g (o+3))=some (.int .u32 q.x)):=⟨fun w' k=>by
  have r:=h.r.keep k id;have cc:∀j u,q.cells[j]?=some u->w'.cell? (g (o+j))=some u:=fun j u hu=>(k.cell (p:=(g (o+j))) e4 id).trans (by have:=e6 0 q rfl j u hu;simpa using this);refine⟨(r.cell 50).trans (congrArg some e1),(r.cell 54).trans (by rw [<-htok];rfl),cc 0 _ rfl,cc 1 _ rfl,cc 2 _ rfl,cc 3 _ rfl⟩⟩
 have c51:=h.r.z 51;rw [hse] at c51;have cF:=h.r.z 1;have HH:=Ae h;have HF:=Ae hf;have HT:=Ae htok;have e5':l.length+1<=c:=by simpa using e5
 clear h hf hst hse htok e1 e2 e3 e4 e5 e6 hh;go_in;go_wp2_with fail;refine rh_ (fun w'=>w'.cell? (b.R 50)=some (.slice (some (g o)) (l.length+1) c)∧w'.cell? (b.R 54)=some (.int .i64 tok)∧w'.cell? (g o)=some (.int .i64 q.p)∧w'.cell? (g (o+1))=some (.int .i64 (msgOf q.p:Int))∧w'.cell? (g (o+2))=some (.int .u32 q.i)∧w'.cell? (g (o+3))=some (.int .u32 q.x)) (SK.out _ (AD.drew (kx_))) (fun hE=>?_);refine tk 0 hE ?_;refine tk 1 hE ?_;refine tk 2 hE ?_;refine tk 3 hE ?_;refine tk 4 hE ?_;refine tk 5 hE ?_;refine tk 6 hE ?_;refine tk 7 hE ?_;refine tk 8 hE ?_;refine tk 9 hE ?_;clear hE;refine oA_ 10 24 (fun u w'=>∃k,u= .tuple #[.slice (some ⟨k,0,none⟩) 3 3, .int .i64 0]∧AJ w w'∧An w' k q.p tok q.i q.x∧w.heap.size<=k) ?v_g10 ?v_n10;case v_g10=>
  intro a' K Q ha hK;have e0:=te ha 19;have e1:=te ha 23;clear ha;go_simp;refine(Rt q tok hp ht).mono ?_;rintro e w4 ⟨k,rfl,k4,sw,lk⟩;exact hK _ _ ⟨k,rfl,(AD.drew (nr w)).then_ k4,sw,lk⟩
 case v_n10=>
 rintro u W1 ⟨k,rfl,k1,sw,lk⟩;refine⟨SK.out _ k1,?_⟩;simp only [pu,s0,s1];have S1:=SK.out _ k1;have K1:=Ae k1;have SW:=Ae sw;clear k1 sw;refine tk 11 S1 ?_;refine tk 12 S1 ?_;refine tk 13 S1 ?_;refine tk 14 S1 ?_;refine tk 15 S1 ?_;refine⟨by kernel_rfl,?_⟩;clear S1;have cF1:=(HH.out.r.keep K1.out id).z 1;go_wp2_with fail;refine(Va (HF.out.new K1.out) hb SW.out).mono ?_;rintro e W2 ⟨k2,c2,rfl,kk,f2,s2,l2⟩;have R2:=Ae ((HH.out.new K1.out).firm (HF.out.new K1.out) kk);have F2:=Ae f2;have S2:=Ae s2;have K2:=Ae kk;have d51:=R2.out.r.z 51;have d54:W2.cell? (b.R 54)=some (.int .i64 tok):=(R2.out.r.cell 54).trans (by rw [<-HT.out];rfl);have fr:=fun i=>R2.out.r.frozen i;clear kk f2 s2 cF1 c51 cF;go_wp2_with fail;have hm:((tok+1) % 1024:Int)=(((tok+1) % 1024:Nat):Int):=by omega
 go_end0;rw [hm];have ks:AD (fun j=>j=b.R) W2 ((W2.setCell (b.R 51) (.bool true)).setCell (b.R 54) (.int .i64 (((tok+1) % 1024:Nat):Int))):=(keeps_set _).t (keeps_set _);have z1:=K1.out.size;have zr:=HH.out.r.lt;exact⟨rfl,((K1.out.mono fun _ e=>e.elim).then_ (K2.out.mono fun j e=> .inr e)).then_ (ks.mono fun j e=> .inl e),R2.out.turn0 ks rfl rfl ((R2.out.r.set 51 (.bool true)).set 54 (.int .i64 (((tok+1) % 1024:Nat):Int))),k2,c2,
  F2.out.keep ks (fun j e c=>by rw [show j=b.R from c,R2.out.lR] at e;rcases e with e | e <;> cases e),S2.out.keep ks (show¬k2=b.R by omega),by omega⟩
theorem Yx (h:Ac w lab s H fb.F C b y) (hf:AP w lab s H fb yf) (hb:yf.box≠2) (hb2:yf.box<=2) (hse:y.sent=true):
 Calls prog 137 #[.pointer b.R] w fun e w'=>e= .returned (.tuple #[])∧w'=w:=by
 have c51:=h.r.z 51;rw [hse] at c51;have cF:=h.r.z 1;have HF:=Ae hf;clear h hf hse;go_in;go_wp2_with fail;refine mn_ (O8 HF.out hb hb2) ?_;go_wp2_with fail;refine bodyPost_ret (results_none rfl _ _ _) rfl ?_;exact⟨rfl,rfl⟩
def Rm.next (y:Rm) (l:List DX):Rm:={ y with steps:=l,sent:=false }
def RC (w:World) (lab:Nat->Lb) (s:AE) (H C:Nat) (b:Rb) (y':Rm) (fb:Fb) (yf:Fm) (e:Ending) (w':World):Prop:=
 e= .returned (.tuple #[])∧AD (fun j=>j=b.R∨j=fb.F) w w'∧(∃sv,Ac w' lab s H fb.F C { b with sv:=sv } y')∧AP w' lab s H fb { yf with box:=0 }
theorem Yz (h:Ac w lab s H fb.F C b y) (hf:AP w lab s H fb yf) (hb:yf.box=2) (hqn:fb.qn=2) (hw:w.cell? (fb.q 1)=some (.int .u32 0)) {q:DX} (hst:y.steps=q::l) (hse:y.sent=true) (lq:fb.q≠fb.F) (lqr:fb.q≠b.R) (hlq:fb.q<w.heap.size) (t:Nat) (ht:t=0∨t=1∨t=2) (hho:y.holder=(t:Int)):
 Calls prog 137 #[.pointer b.R] w (RC w lab s H C b (if l=[] then(y.next l).over t 0 0 else y.next l) fb yf):=by
 obtain⟨a,c,e1,hh⟩:=h.st;obtain⟨g,o,e2,e3,e4,e5,e6⟩:=hh (by rw [hst];exact List.cons_ne_nil _ _);rw [hst] at e1 e5 e6;rw [e2] at e1;have c51:=h.r.z 51;rw [hse] at c51;have cF:=h.r.z 1;have HH:=Ae h;have HF:=Ae hf;have HO:=Ae hho;have HT:=Ae ht;have lq':=Ae lq;have e5':l.length+1<=c:=by simpa using e5
 have E1:=Ae e1;have SR:AG (EA w lab (.slice (some (g (o+4))) l.length (c - 1)) l):=⟨some (g (o+4)),c - 1,rfl,fun _=>⟨g,o+4,rfl,e3,e4,by omega,fun k p hp j u hu=>by
  have:=e6 (k+1) p hp j u hu;rw [show o+(k+1)*4+j=o+4+k*4+j by omega] at this;exact this⟩⟩
 obtain⟨y3,hy3⟩:=ex (if l=[] then(y.next l).over t 0 0 else y.next l);rw [hy3];have HY:=Ae hy3;clear h hf hst hse e1 e2 e3 e4 e5 e6 hh hho ht lq hy3;go_in;go_wp2_with fail;refine(Vb HF.out hb).mono ?_;rintro e W2 ⟨rfl,kk,f2⟩;have R2:=Ae (HH.out.firm HF.out kk);have F2:=Ae f2;have K2:=Ae kk;have d51:=R2.out.r.z 51;have d50:=(R2.out.r.cell 50).trans (congrArg some E1.out);have fr:=fun i=>R2.out.r.frozen i;have w1:=(kk.cell (p:=(fb.q 1)) hlq lq'.out).trans hw;have ST:=Ae (SR.out.keep kk fun j e c=>by rw [show j=fb.F from c,HF.out.lF] at e;cases e);rw [hqn];clear kk f2 c51 cF hw;go_wp2_with fail;have w2:(W2.setCell (b.R 51) (.bool false)).cell? (fb.q (0+1))=some (.int .u32 0):=((keeps_set (w:=W2) (b:=b.R) (o:=51) (.bool false)).cell (p:=(fb.q (0+1))) (Bo hlq K2.out.size) (show¬fb.q=b.R from lqr)).trans w1;have W0:wrap32 0=0:=by first | rfl | simp [wrap32]
 refine(W.status_long fb.q 0 2 fb.qc 0 0 _ (by omega) w2 W0).mono ?_;rintro e w' ⟨rfl,rfl⟩;have kall:∀sv:Value,AD (fun j=>j=b.R) W2 ((W2.setCell (b.R 51) (.bool false)).setCell (b.R 50) sv):=fun sv=>(keeps_set _).t (keeps_set _);have rall:∀ (sv:Value),EA W2 lab sv l->Ac ((W2.setCell (b.R 51) (.bool false)).setCell (b.R 50) sv) lab s H fb.F C { b with sv:=sv } (y.next l):=fun sv hs=>
  R2.out.turn (y':=y.next l) (kall sv) rfl hs ((R2.out.r.set 51 (.bool false)).set 50 sv)
 have fall:∀sv:Value,AP ((W2.setCell (b.R 51) (.bool false)).setCell (b.R 50) sv) lab s H fb { yf with box:=0 }:=fun sv=>F2.out.keep (kall sv) fun j e c=>by rw [show j=b.R from c,R2.out.lR] at e;rcases e with e | e <;> cases e
 have KA:=Ae kall;have RA:=Ae rall;have FA:=Ae fall;clear kall rall fall w1 w2
 cases l with
 | nil=>
  have en:∀sv:Value,(∃a c,sv= .slice a 0 c)->Calls prog 162 #[.pointer b.R, .agg #[.int .i64 0, .int .u32 0]] ((W2.setCell (b.R 51) (.bool false)).setCell (b.R 50) sv) fun e w'=>e= .returned (.tuple #[])∧RC w lab s H C b y3 fb yf e w':=fun sv ⟨a',c',e'⟩=>by
   have hy:=HY.out;rw [if_pos rfl] at hy;subst hy;have rz:=RA.out sv ⟨a',c',e',fun h=>absurd rfl h⟩;refine(OA rz t HT.out HO.out 0 0).mono ?_;rintro e w3 ⟨rfl,k3,sv3,r3⟩;refine⟨rfl,rfl,((K2.out.mono fun j e=> .inr e).then_ ((KA.out sv).mono fun j e=> .inl e)).then_ (k3.mono fun j e=> .inl e),⟨sv3,r3⟩,(FA.out sv).keep k3 fun j e c=>by rw [show j=b.R from c,R2.out.lR] at e;rcases e with e | e <;> cases e⟩
  have EN:=Ae en;clear en;go_wp2_with fail
  all_goals (refine(EN.out _ ⟨_,_,rfl⟩).mono ?_;rintro e w3 ⟨rfl,p3⟩;have P3:=Ae p3;clear p3)
  all_goals go_wp2_with fail
  all_goals go_end0
  all_goals exact P3.out
 | cons q2 l2=>
  have hc1:¬c - 1=0:=by simp at e5';omega
  have e5'':l2.length+1+1<=c:=by simpa using e5'
  have hl1:¬((l2.length:Int)+1)=0:=by omega
  simp only [Dy] at d50;go_wp2;go_end0;have hs2:=ST.out;have hy:=HY.out;rw [if_neg (List.cons_ne_nil _ _)] at hy;subst hy;exact⟨rfl,(K2.out.mono fun j e=> .inr e).then_ ((KA.out _).mono fun j e=> .inl e),⟨_,RA.out _ hs2⟩,FA.out _⟩
end
theorem JC (w:World):CallsD prog 135 #[] .returning w fun e u' w'=>e= .returned (.tuple #[])∧u'= .returning∧w'=w:=by
 refine callsD_of_wpS func135 rfl fun c₀ cs hu=>?_;apply wpS_region;simp [wpOpsS,go_sem,recoverD,hu,ntmps135,Exit.thenS,bodyPostS,results,results135];cases c₀
 simp_all
section
variable {w:World} {lab:Nat->Lb} {s:AE} {H F C:Nat} {b:Rb} {y:Rm}
theorem Ue (h:Ac w lab s H F C b y) (t:Nat) (ht:t=0∨t=1∨t=2) {q:Int} (h0:(y.tk t).st=q) (h1:q≠1) (h2:q≠2):
 Calls prog 85 #[.pointer (some (b.R 0)), .int .i64 (t:Int)] w fun e w'=>e= .returned (.tuple #[])∧w'=w:=by
 have c0:w.cell? (b.R (10+t*13))=some (.int .i64 (y.tk t).st):=h.tkc t 0 ht (by omega);rw [h0] at c0;have ht3:t<3:=by omega
 have K:=fun W=>EU t ht W;have b1:(q==1)=false:=by simp [h1]
 have b2:(q==2)=false:=by simp [h2]
 clear h h0;go_enter_defers func85,ntmps85;go_wp2_with fail;refine mn_ (K _) ?_;go_wp2_with fail;refine leaves_cons (f:=135) (args:= #[]) (by simp) (by simp [go_sem]) ?_;refine(JC _).mono ?_;rintro e u' w'' ⟨rfl,rfl,rfl⟩;exact⟨_,results_none rfl _ _ _,rfl,rfl⟩
theorem Kt (h:Ac w lab s H F C b y) (t:Nat) (ht:t=0∨t=1∨t=2) (h0:(y.tk t).st=1) (hh:y.holder= -1)
 (act:Calls prog 136 #[.pointer (some (b.R 0)), .int .i64 (t:Int)] w fun e w'=>e= .returned (.tuple #[])∧Q w'):
 Calls prog 85 #[.pointer (some (b.R 0)), .int .i64 (t:Int)] w fun e w'=>e= .returned (.tuple #[])∧Q w':=by
 have c0:w.cell? (b.R (10+t*13))=some (.int .i64 (y.tk t).st):=h.tkc t 0 ht (by omega);have c49:=cv_ (.int .i64 y.holder) (h.r.cell 49);rw [h0] at c0;rw [hh] at c49;have ht3:t<3:=by omega
 have K:=fun W=>EU t ht W;have A:=Ae act;clear h h0 hh act;go_enter_defers func85,ntmps85;go_wp2_with fail;refine mn_ (K _) ?_;go_wp2_with fail;refine A.out.mono ?_;rintro e w' ⟨rfl,q'⟩;have QQ:=Ae q';clear q';go_wp2_with fail;refine leaves_cons (f:=135) (args:= #[]) (by simp) (by simp [go_sem]) ?_;refine(JC _).mono ?_;rintro e u' w'' ⟨rfl,rfl,rfl⟩;exact⟨_,results_none rfl _ _ _,rfl,QQ.out⟩
theorem XA (h:Ac w lab s H F C b y) (t:Nat) (ht:t=0∨t=1∨t=2) (h0:(y.tk t).st=2) (hp:y.posted=false)
 (act:Calls prog 137 #[.pointer (some (b.R 0))] w fun e w'=>e= .returned (.tuple #[])∧Q w'):
 Calls prog 85 #[.pointer (some (b.R 0)), .int .i64 (t:Int)] w fun e w'=>e= .returned (.tuple #[])∧Q w':=by
 have c0:w.cell? (b.R (10+t*13))=some (.int .i64 (y.tk t).st):=h.tkc t 0 ht (by omega);have c52:=cv_ (.bool y.posted) (h.r.cell 52);rw [h0] at c0;rw [hp] at c52;have ht3:t<3:=by omega
 have K:=fun W=>EU t ht W;have A:=Ae act;clear h h0 hp act;go_enter_defers func85,ntmps85;go_wp2_with fail;refine mn_ (K _) ?_;go_wp2_with fail;refine A.out.mono ?_;rintro e w' ⟨rfl,q'⟩;have QQ:=Ae q';clear q';go_wp2_with fail;refine leaves_cons (f:=135) (args:= #[]) (by simp) (by simp [go_sem]) ?_;refine(JC _).mono ?_;rintro e u' w'' ⟨rfl,rfl,rfl⟩;exact⟨_,results_none rfl _ _ _,rfl,QQ.out⟩
end
theorem Nu (h:A6 w v s):∀j,v.In s j->j<w.heap.size:=by
 intro j hj;rcases hj with rfl | rfl | rfl | rfl | ⟨i,hi,hm,rfl⟩ | ⟨i,hi,hm,rfl⟩ | ⟨i,hi,hm,rfl⟩
 . exact h.ck.lt
 . exact h.dm.lt
 . exact h.rs.lt
 . exact h.dv.lt
 . exact(h.src i hi hm).lt
 . exact(h.reg i hi hm).lt
 . exact(h.need i hi hm).lt
theorem EA.relab {sv:Value} (h:EA w lab sv l) (e:∀j,j<w.heap.size->lab' j=lab j):EA w lab' sv l:=by
 obtain⟨a,c,e0,h⟩:=h;refine⟨a,c,e0,fun hl=>?_⟩;obtain⟨g,o,e1,e2,e3,r⟩:=h hl;exact⟨g,o,e1,(e g e3).trans e2,e3,r⟩
theorem Ac.relab {F C:Nat} {b:Rb} {y:Rm} (h:Ac w lab s H F C b y) (e:∀j,j<w.heap.size->lab' j=lab j):Ac w lab' s H F C b y:=
 ⟨h.r,h.soc,h.wd,h.st.relab e,(e _ h.r.lt).trans h.lR,fun j hj=>(e j (Nu h.soc j hj)).trans (h.lsoc j hj),fun j hj=>(e _ (h.wd j hj).lt).trans (h.lwd j hj)⟩
theorem A7.relab {b:Cb} {n:Nat} {cnt:Nat->Nat} (h:A7 w lab s b n cnt q) (e:∀j,j<w.heap.size->lab' j=lab j):A7 w lab' s b n cnt q:=by
 have lM:b.M<w.heap.size:=by obtain⟨D,⟨es,cl,h1,h2⟩,h3⟩:=h.m;exact(Ci.1 h1).1
 refine⟨h.c,h.g,h.m,h.ne,(e _ h.c.lt).trans h.lC,(e _ lM).trans h.lM,fun j hj=>(e j ?_).trans (h.lg j hj),trivial⟩;rcases hj with rfl | ⟨i,hi,hm,ej⟩
 . exact h.g.r.lt
 . exact QE h.g hi hm ej
theorem AP.relab {b:Fb} {y:Fm} (h:AP w lab s H b y) (e:∀j,j<w.heap.size->lab' j=lab j):AP w lab' s H b y:=
 ⟨h.f,h.soc,h.wish,(e _ h.f.lt).trans h.lF,fun j hj=>(e j (Nu h.soc j hj)).trans (h.lsoc j hj),fun g j hg hj=>(e _ (h.wish g j hg hj).1.lt).trans (h.lwish g j hg hj)⟩
section
variable {w:World} {lab:Nat->Lb} {s:AE} {F:Nat} {b:Rb} {y:Rm} {cb:Cb} {n:Nat} {cnt:Nat->Nat} {hb:Hb} {x:Hw}
def Hw.post (x:Hw) (d g:Nat) (wr:Bool) (v:Int):Hw:={ x with m:=upd x.m d (x.m d+1),xs:=upd x.xs d (x.xs d++RX x.posted wr g v),posted:=x.posted+1 }
def UM (w:World) (lab:Nat->Lb) (s:AE) (F C:Nat) (b:Rb) (y':Rm) (hb:Hb) (x':Hw) (e:Ending) (w':World):Prop:=
 e= .returned (.int .i64 0)∧AD (fun j=>j=b.R∨BH lab j) w w'∧∃lab',(∀j,j<w.heap.size->lab' j=lab j)∧AH w' lab' s hb x'∧Ac w' lab' s hb.H F C b y'
theorem Oq (h:Ac w lab s hb.H F cb.C b y) (hc:A7 w lab s cb n cnt false) (hh:AH w lab s hb x) (L:Ai w) (hs:s.Ok) (hfr:∀j,w.heap.size<=j->lab j= .obj 0) (t:Nat) (ht:t=0∨t=1∨t=2) {g:Nat} {vl:Int} (hd:(y.tk t).c.dev=d) (hg:(y.tk t).c.reg=g) (hv:(y.tk t).c.val=vl)
 (hdv:d<s.nv) (hgv:g<(s.dv d).nreg) (hha:0<(y.tk t).h d) (wr:Bool) (hca:x.ca d=0) (k0:0<=x.posted) (k1:x.posted<=1000) (h4:x.m d<4):
 Calls prog 358 #[.agg #[.bool wr], .pointer b.R, .pointer (some (b.R (10+t*13)))] w (UM w lab s F cb.C b { y with posted:=true,ident:=x.posted } hb (x.post d g wr vl)):=by
 have n4:=hs.v2;have n5:=hs.regs d hdv;have c1:w.cell? (b.R (10+t*13+1))=some (.int .u8 (y.tk t).c.kind):=h.tkc t 1 ht (by omega);have c2:w.cell? (b.R (10+t*13+1+1))=some (.int .i64 ((y.tk t).c.dev:Int)):=h.tkc t 2 ht (by omega);have c3:w.cell? (b.R (10+t*13+1+2))=some (.int .i64 ((y.tk t).c.reg:Int)):=h.tkc t 3 ht (by omega);have c4:w.cell? (b.R (10+t*13+1+3))=some (.int .u32 (y.tk t).c.val):=h.tkc t 4 ht (by omega);obtain⟨kd,hkd⟩:∃kd,(y.tk t).c.kind=kd:=⟨_,rfl⟩;obtain⟨nh,hnh⟩:∃nh,(y.tk t).h d=nh:=⟨_,rfl⟩;rw [hkd] at c1;rw [hd] at c2;rw [hg] at c3;rw [hv] at c4;rw [hnh] at hha;have ch:w.cell? (b.R (10+t*13+7+d))=some (.int .i64 nh):=by
  have z:=h.tkc t (7+d) ht (by omega);rw [<-Nat.add_assoc] at z;rw [z, <-hnh];exact Ju _ d (by omega)
 have hnz:¬(nh:Int)=0:=by omega
 have hd6:d<6:=by omega
 have hdi:(d:Int)<6:=by omega
 have hnb:((nh:Int)==0)=false:=by simp;omega
 have lR:=h.r.lt;have HH:=Ae h;have HC:=Ae hc;have HX:=Ae hh;have HL:=Ae L;have HFR:=Ae hfr;obtain⟨nr,hnr⟩:=ex ((s.dv d).nreg);rw [hnr] at hgv n5;have cg:w.cell? (b.v.vb (d*6+4))=some (.slice (b.v.gb d) nr (b.v.gc d)):=(h.soc.dv.cell d 4 hdv (by omega)).trans (congrArg some (by rw [<-hnr];exact Dj (by omega)));have lv:=h.soc.dv.lt;have HN:=Ae hnr;clear h hc hh L hfr hd hg hv hkd hnh hnr ht;go_in;go_wp2_with fail;have kb:AJ w ((w.alloc (.cells #[.bool wr] 271)).alloc (.cells #[.int .u8 kd, .int .i64 d, .int .i64 g, .int .u32 vl] 43)):=((kx_).alloc _).alloc _;have B0:=(AF.new w [.bool wr] 271).alloc (.cells #[.int .u8 kd, .int .i64 d, .int .i64 g, .int .u32 vl] 43);have B1:=AF.new (w.alloc (.cells #[.bool wr] 271)) [.int .u8 kd, .int .i64 d, .int .i64 g, .int .u32 vl] 43;rw [Ay] at B1;obtain⟨W,hW⟩:=ex ((w.alloc (.cells #[.bool wr] 271)).alloc (.cells #[.int .u8 kd, .int .i64 d, .int .i64 g, .int .u32 vl] 43));rw [hW] at kb B0 B1 ⊢;have q0:=B0.z 0;have q10:=B1.z 0;have q11:=B1.z 1;have q12:=B1.z 2;have q13:=B1.z 3;have R:=HH.out.new kb;have r0:=R.r.z 0;have r5:=R.r.z 5;have r6:=R.r.z 6;have rg:=(kb.cell (p:=⟨b.v.vb,_,none⟩) lv id).trans cg;have rh:=(kb.cell (p:=⟨b.R,_,none⟩) lR id).trans ch;have RR:=Ae R;have CC:=Ae (HC.out.new kb);have XX:=Ae (HX.out.new kb);have LL:=Ae (HL.out.keep kb id);have KB:=Ae kb;have BB0:=Ae B0;have BB1:=Ae B1;clear hW c1 c2 c3 c4 ch cg R kb B0 B1;go_quiet ((go_at_call 357;exact Calls.quiet_of_same (LU (RR.out.new ((kx_).drewN _)) d hdv)));go_wp2_with fail;obtain⟨W1,hW1⟩:=ex (W.drewN nq);have k1:AJ W W1:=by rw [<-hW1];exact(kx_).drewN _
 have q10:W1.cell? (w.heap.size 0)=some (.bool wr):=by rw [<-hW1];exact q0
 have q111:W1.cell? ((w.heap.size+1) 1)=some (.int .i64 d):=by rw [<-hW1];exact q11
 have q112:W1.cell? ((w.heap.size+1) 2)=some (.int .i64 g):=by rw [<-hW1];exact q12
 have q113:W1.cell? ((w.heap.size+1) 3)=some (.int .u32 vl):=by rw [<-hW1];exact q13
 have r16:W1.cell? (b.R 6)=some (.pointer cb.C):=by rw [<-hW1];exact r6
 have r1h:W1.cell? (b.R (10+t*13+7+d))=some (.int .i64 nh):=by rw [<-hW1];exact rh
 have CC1:=Ae (CC.out.new k1);have K1:=Ae (KB.out.then_ k1);have KW1:=Ae k1;rw [hW1];clear hW1 k1 q0 q11 q12 q13 r0 r5 r6 rg rh;go_quiet ((go_at_call 285;exact Calls.quiet_of_same (Og (CC1.out.new ((kx_).drewN _)))));go_wp2_with fail;have k2:AJ W1 (W1.drewN nq):=(kx_).drewN _;refine(TI d g _ (by omega) (by omega)).mono ?_;rintro e W3 ⟨rfl,m3⟩;have K3:=Ae ((KW1.out.then_ k2).then_ m3.new);clear m3 k2 q10 q111 q112 q113 r16 r1h;go_wp2_with fail;have SK:AG (∀w',AD (fun j=>BH lab j) W3 w'->w'.cell? (b.R 0)=some (.pointer hb.H)∧w'.cell? (w.heap.size 0)=some (.bool wr)∧w'.cell? ((w.heap.size+1) 3)=some (.int .u32 vl)):=⟨fun w' k=>by
  have nh:∀j,w.heap.size<=j->j<w.heap.size+2->¬BH lab j:=fun j h1 h2 c=>by
   have c:(lab j).isHard=true:=c;rw [HFR.out j h1] at c;cases c
  have a1:=(BB0.out.keep K3.out id).keep k (nh _ (by omega) (by omega));have a2:=(BB1.out.keep K3.out id).keep k (nh _ (by omega) (by omega));have a3:=(RR.out.new K3.out).r.keep k (fun c=>by have c:(lab b.R).isHard=true:=c;rw [RR.out.lR] at c;cases c);exact⟨a3.cell 0,a1.cell 0,a2.cell 3⟩⟩
 refine rh_ (fun w'=>w'.cell? (b.R 0)=some (.pointer hb.H)∧w'.cell? (w.heap.size 0)=some (.bool wr)∧w'.cell? ((w.heap.size+1) 3)=some (.int .u32 vl)) (SK.out _ (AD.drew (kx_))) (fun hE=>?_);refine tk 0 hE ?_;refine tk 1 hE ?_;refine tk 2 hE ?_;refine tk 3 hE ?_;refine tk 4 hE ?_;refine tk 5 hE ?_;refine tk 6 hE ?_;refine tk 7 hE ?_;refine tk 8 hE ?_;clear hE;refine oA_ 9 79 (fun u w'=>∃lab',u= .tuple #[.int .i64 x.posted, .int .i64 0]∧AD (BH lab) W3 w'∧(∀j,j<W3.heap.size->lab' j=lab j)∧AH w' lab' s hb (x.post d g wr vl)) ?p_g9 ?p_n9;case p_g9=>
  intro a' K Q ha hK;have e0:=te ha 73;have e1:=te ha 74;have e2:=te ha 76;have e3:=te ha 78;clear ha;go_simp;refine(VT ((XX.out.new K3.out).new (AD.drew (kx_))) ((LL.out.keep K3.out id).keep (AD.drew (AD.refl (fun _=>False) _)) id) (65536*d+4*g) d g wr vl (by omega) (Or.inr ⟨by omega,by omega,by omega,by omega⟩) hdv (by rw [HN.out];exact hgv) (by rw [HN.out];exact n5) hca k0 k1 h4).mono ?_;rintro e w4 ⟨rfl,k4,lab',el,h4'⟩;exact hK _ _ ⟨lab',rfl,(AD.drew (AD.refl (BH lab) W3)).then_ k4,el,h4'⟩
 case p_n9=>
 rintro u W4 ⟨lab',rfl,k4,el,h4'⟩;refine⟨SK.out _ k4,?_⟩;simp only [pu,s0,s1];have S4:=SK.out _ k4;have K4:=Ae k4;have EL:=Ae el;have H4:=Ae h4';clear k4 el h4';refine tk 10 S4 ?_;refine tk 11 S4 ?_;refine tk 12 S4 ?_;refine tk 13 S4 ?_;refine tk 14 S4 ?_;refine⟨by kernel_rfl,?_⟩;clear S4;have R4:=Ae (((RR.out.new K3.out).relab EL.out).keep K4.out fun j e c=>by
  have c:(lab j).isHard=true:=c;by_cases hj:j<W3.heap.size
  . rw [EL.out j hj] at e;rcases e with e | e <;> (rw [e] at c;cases c)
  . rw [HFR.out j (by have:=K3.out.size;have:=KB.out.size;omega)] at c;cases c)
 have d52:=R4.out.r.z 52;have d53:=R4.out.r.z 53;have fr:=fun i=>R4.out.r.frozen i;go_wp2;go_ret;have ks:AD (fun j=>j=b.R) W4 ((W4.setCell (b.R 52) (.bool true)).setCell (b.R 53) (.int .i64 x.posted)):=(keeps_set _).t (keeps_set _);have R5:=R4.out.turn0 (y':={ y with posted:=true,ident:=x.posted }) ks rfl rfl ((R4.out.r.set 52 (.bool true)).set 53 (.int .i64 x.posted));have z3:=K3.out.size;have zb:=KB.out.size;refine⟨rfl,((((KB.out.then_ K3.out).mono fun _ e=>e.elim).then_ (K4.out.mono fun j e=> .inr e))).then_ (ks.mono fun j e=> .inl e),lab',fun j hj=>EL.out j (by omega),H4.out.keep ks (fun j e c=>?_),R5⟩;rw [show j=b.R from c,R4.out.lR] at e;cases e
end
section
attribute [local go_sem] BI Fx
section
variable {w:World} {lab:Nat->Lb} {s:AE} {H F C:Nat} {b:Rb} {y:Rm}
theorem Qm (R:Value) (a:Option Addr) (c:Nat) (w:World):Calls prog 93 #[R, .slice a 0 c] w fun e w'=>e= .returned (.tuple #[])∧w'=w:=by
 go_in;go_wp2;go_loopw [8] (fun i wr=>i= .int .i64 0∧wr=w) (fun i _=>0);case atStart=>exact⟨rfl,rfl⟩
 case round=>
  obtain⟨rfl,rfl⟩:=hrel;go_wp2;go_end0;exact⟨rfl,rfl⟩
theorem Ql (h:Ac w lab s H F C b y) (t:Nat) (ht:t=0∨t=1∨t=2) (hho:y.holder=(t:Int)) (hp:y.posted=true) {id:Int} (hi:y.ident=id) (g c:Nat) (dv vl:Int)
 (g0:w.cell? (g 0)=some (.int .i64 id)) (g1:w.cell? (g 1)=some (.int .i64 dv)) (g2:w.cell? (g 2)=some (.bool false)) (g3:w.cell? (g 3)=some (.int .u32 vl)):
 Calls prog 93 #[.pointer b.R, .slice g 1 c] w (WZ w lab s H F C b (y.over t 0 vl) (.tuple #[])):=by
 have lR:=h.r.lt;have HH:=Ae h;have HT:=Ae ht;have HO:=Ae hho;have HP:=Ae hp;have HI:=Ae hi;clear h ht hho hp hi;go_in;go_wp2;go_loopw [8] (fun i wr=>(i= .int .i64 0∧wr=w)∨(i= .int .i64 1∧WZ w lab s H F C b (y.over t 0 vl) (.tuple #[]) (.returned (.tuple #[])) wr)) (fun i _=>1 - (intOf i).toNat);case atStart=>exact .inl ⟨rfl,rfl⟩
 case round=>
  rcases hrel with⟨rfl,rfl⟩ | ⟨rfl,done⟩
  . go_wp2_with fail;have kb:=(nr wr).alloc (.cells #[.int .i64 id, .int .i64 dv, .bool false, .int .u32 vl] 53);have bb:=AF.new wr [.int .i64 id, .int .i64 dv, .bool false, .int .u32 vl] 53;obtain⟨W,hW⟩:=ex (wr.alloc (.cells #[.int .i64 id, .int .i64 dv, .bool false, .int .u32 vl] 53));rw [hW] at kb bb ⊢;have R:=Ae (HH.out.new kb);have KB:=Ae kb;have r52:W.cell? (b.R 52)=some (.bool true):=(R.out.r.cell 52).trans (by rw [<-HP.out];rfl);have r53:W.cell? (b.R 53)=some (.int .i64 id):=(R.out.r.cell 53).trans (by rw [<-HI.out];rfl);have x0:=bb.z 0;have x2:=bb.z 2;have x3:=bb.z 3;clear hW kb bb;go_quiet (skip);go_wp2_with fail;have kq:AJ W (W.drewN nq):=(kx_).drewN _;refine(OA (R.out.new kq) t HT.out HO.out 0 vl).mono ?_;rintro e W2 ⟨rfl,k2,sv,r2⟩;have K2:=Ae (((KB.out.then_ kq).mono fun _ e=>e.elim).then_ k2);have R2:=Ae r2;clear k2 r2 kq x0 x2 x3 r52 r53;go_wp2;go_roundw;case rel=>exact .inr ⟨by go_num,rfl,K2.out,sv,R2.out⟩
    case measure=>simp [intOf]
  . have DN:=Ae done;clear done;go_wp2;go_end0;exact DN.out
def Rm.new:Rm:=⟨fun _ _=>false,fun _=>⟨0,Cl.none,0,0,fun _=>0⟩, -1,[],false,false,0,0⟩
theorem EK (s:AE):∀k j i,Bh s (fun _=>false) k j i=false:=by
 intro k j i
 induction k with
 | zero=>rfl
 | succ k ih=>rw [Bh,ih];rfl
theorem xH (w:World) (i:Nat):Calls prog 81 #[.slice none 0 0, .int .i64 i] w fun e w'=>e= .returned (.bool false)∧w'=w:=by
 have hi:¬(i:Int)<0:=by omega
 go_in;go_wp2;go_ret;exact⟨rfl,rfl⟩
def yX (w:World) (lab:Nat->Lb) (s:AE) (H F:Nat) (e:Ending) (w':World):Prop:=
 ∃b cb,e= .returned (.tuple #[.pointer b.R, .int .i64 0])∧AJ w w'∧(w.heap.size<=b.R∧w.heap.size<=cb.C∧w.heap.size<=cb.M)∧∃lab',(∀j,j<w.heap.size->lab' j=lab j)∧(∀j,w'.heap.size<=j->lab' j= .obj 0)∧
  (∀j,lab' j≠lab j->j=b.R∨j=cb.C∨j=cb.M)∧Ac w' lab' s H F cb.C b Rm.new∧A7 w' lab' s cb 0 (fun _=>0) false
theorem Zw (hs:s.Ok) (ha:A6 w v s) (hfr:∀j,w.heap.size<=j->lab j= .obj 0):
 Calls prog 13 #[.pointer H, .pointer F, .agg #[.slice v.cb s.nc v.cc, .slice v.db s.nd v.dc, .slice v.rb s.nr v.rc, .slice v.vb s.nv v.vc]] w (yX w lab s H F):=by
 have HS:=Ae hs;have HA:=Ae ha;have HFR:=Ae hfr;have HB:=Ae (Aj (w:=w) s v);clear hs ha hfr;go_in;go_wp2_with fail;have k0:=(nr w).alloc (.cells (BI v s) 30);obtain⟨W0,hW0⟩:=ex (w.alloc (.cells (BI v s) 30));rw [hW0] at k0 HB ⊢;have K0:=Ae k0;clear hW0 k0;refine(N4 (lab:=lab) HS.out (HA.out.new K0.out) (fun j hj=>HFR.out j (by have:=K0.out.size;omega))).mono ?_;rintro e W1 ⟨cb,rfl,k1,lc,lm,c1⟩;have K1:=Ae (K0.out.then_ k1);have C1:=Ae c1;have LC:=Ae (And.intro lc lm);have bx:=Ae (HB.out.keep k1 id);have s0:=bx.out.z 0;have s1:=bx.out.z 1;have s2:=bx.out.z 2;have s3:=bx.out.z 3;clear k1 c1 lc lm HB;go_wp2_with fail;refine(JT HS.out (HA.out.new K1.out)).mono ?_;rintro e W2 ⟨v2,rfl,k2,a2,l2⟩;have K2:=Ae (K1.out.then_ k2);have A2:=Ae a2;have L2:=Ae l2;have C2:=Ae (C1.out.new k2);have Z12:=Ae k2.size;clear k2 a2 l2 s0 s1 s2 s3;go_wp2_with fail;have k3:=(nr W2).alloc (.cells #[.pointer H, .pointer F, .slice v2.cb s.nc v2.cc, .slice v2.db s.nd v2.dc, .slice v2.rb s.nr v2.rc, .slice v2.vb s.nv v2.vc, .pointer cb.C, .slice none 0 0, .slice none 0 0, .slice none 0 0, .int .i64 0, .int .u8 0, .int .i64 0, .int .i64 0, .int .u32 0, .int .i64 0, .int .u32 0, .int .i64 0, .int .i64 0, .int .i64 0, .int .i64 0, .int .i64 0, .int .i64 0, .int .i64 0, .int .u8 0, .int .i64 0, .int .i64 0, .int .u32 0, .int .i64 0, .int .u32 0, .int .i64 0, .int .i64 0, .int .i64 0, .int .i64 0, .int .i64 0, .int .i64 0, .int .i64 0, .int .u8 0, .int .i64 0, .int .i64 0, .int .u32 0, .int .i64 0, .int .u32 0, .int .i64 0, .int .i64 0, .int .i64 0, .int .i64 0, .int .i64 0, .int .i64 0, .int .i64 (-1), .slice none 0 0, .bool false, .bool false, .int .i64 0, .int .i64 0] 138);have bR:=AF.new W2 [.pointer H, .pointer F, .slice v2.cb s.nc v2.cc, .slice v2.db s.nd v2.dc, .slice v2.rb s.nr v2.rc, .slice v2.vb s.nv v2.vc, .pointer cb.C, .slice none 0 0, .slice none 0 0, .slice none 0 0, .int .i64 0, .int .u8 0, .int .i64 0, .int .i64 0, .int .u32 0, .int .i64 0, .int .u32 0, .int .i64 0, .int .i64 0, .int .i64 0, .int .i64 0, .int .i64 0, .int .i64 0, .int .i64 0, .int .u8 0, .int .i64 0, .int .i64 0, .int .u32 0, .int .i64 0, .int .u32 0, .int .i64 0, .int .i64 0, .int .i64 0, .int .i64 0, .int .i64 0, .int .i64 0, .int .i64 0, .int .u8 0, .int .i64 0, .int .i64 0, .int .u32 0, .int .i64 0, .int .u32 0, .int .i64 0, .int .i64 0, .int .i64 0, .int .i64 0, .int .i64 0, .int .i64 0, .int .i64 (-1), .slice none 0 0, .bool false, .bool false, .int .i64 0, .int .i64 0] 138;obtain⟨R,hR⟩:=ex W2.heap.size;obtain⟨W3,hW3⟩:=ex (W2.alloc (.cells #[.pointer H, .pointer F, .slice v2.cb s.nc v2.cc, .slice v2.db s.nd v2.dc, .slice v2.rb s.nr v2.rc, .slice v2.vb s.nv v2.vc, .pointer cb.C, .slice none 0 0, .slice none 0 0, .slice none 0 0, .int .i64 0, .int .u8 0, .int .i64 0, .int .i64 0, .int .u32 0, .int .i64 0, .int .u32 0, .int .i64 0, .int .i64 0, .int .i64 0, .int .i64 0, .int .i64 0, .int .i64 0, .int .i64 0, .int .u8 0, .int .i64 0, .int .i64 0, .int .u32 0, .int .i64 0, .int .u32 0, .int .i64 0, .int .i64 0, .int .i64 0, .int .i64 0, .int .i64 0, .int .i64 0, .int .i64 0, .int .u8 0, .int .i64 0, .int .i64 0, .int .u32 0, .int .i64 0, .int .u32 0, .int .i64 0, .int .i64 0, .int .i64 0, .int .i64 0, .int .i64 0, .int .i64 0, .int .i64 (-1), .slice none 0 0, .bool false, .bool false, .int .i64 0, .int .i64 0] 138));rw [hW3,hR] at bR;rw [hW3] at k3;rw [hW3,hR];have K3:=Ae (K2.out.then_ k3);have BR:=Ae bR;have A3:=Ae (A2.out.new k3);have C3:=Ae (C2.out.new k3);have K23:=Ae k3;clear hW3 k3;refine(LZ HS.out A3.out (.slice none 0 0) (fun _=>false) (fun X _ i _=>xH X i)).mono ?_;rintro e W4 ⟨b0,b1,b2,rfl,k4,⟨r0,r1,r2⟩,⟨l0,l1,l2⟩,_⟩;have br:=BR.out.keep k4 id;have c7:=br.z 7;have c8:=br.z 8;have c9:=br.z 9;have fr:=fun i=>br.frozen i;have K4:=Ae k4;have RW:=Ae (And.intro r0 (And.intro r1 r2));have LW:=Ae (And.intro l0 (And.intro l1 l2));have B4:=Ae br;clear k4 r0 r1 r2 l0 l1 l2 br bR;go_wp2;go_ret2;have ks:AD (fun j=>j=R) W4 (((W4.setCell (R 7) (.slice b0 s.nd s.nd)).setCell (R 8) (.slice b1 s.nc s.nc)).setCell (R 9) (.slice b2 s.nr s.nr)):=((keeps_set _).t (keeps_set _)).t (keeps_set _);have BZ:=((B4.out.set 7 (.slice b0 s.nd s.nd)).set 8 (.slice b1 s.nc s.nc)).set 9 (.slice b2 s.nr s.nr);obtain⟨Z,hZ⟩:=ex (((W4.setCell (R 7) (.slice b0 s.nd s.nd)).setCell (R 8) (.slice b1 s.nc s.nc)).setCell (R 9) (.slice b2 s.nr s.nr));rw [hZ] at ks BZ ⊢;clear hZ c7 c8 c9 fr;have z0:=K0.out.size;have z1:=K1.out.size;have z2:=K2.out.size;have z3:=K3.out.size;have zr:=BR.out.lt;have z4:=K4.out.size;have zz:=ks.size;have cc:=C1.out.c.lt;have cm:cb.M<W1.heap.size:=by obtain⟨D,⟨es,cl,h1,h2⟩,h3⟩:=C1.out.m;exact(Ci.1 h1).1
 have z12:=Z12.out;obtain⟨lc,lm⟩:=LC.out;obtain⟨l0,l1,l2⟩:=LW.out;have kwz:=((K3.out.then_ K4.out).trans ks fun j hj (e:j=R)=>by omega);have elr:∀j,j<W2.heap.size->upd (upd (upd lab cb.C (.obj 8)) cb.M (.obj 9)) R (.obj 10) j=upd (upd lab cb.C (.obj 8)) cb.M (.obj 9) j:=fun j hj=>uo_ (by omega);have hl0:∀j,w.heap.size<=j->j≠cb.C->j≠cb.M->j≠R->upd (upd (upd lab cb.C (.obj 8)) cb.M (.obj 9)) R (.obj 10) j= .obj 0:=fun j h1 h2 h3 h4=>by rw [uo_ h4,uo_ h3,uo_ h2];exact HFR.out j h1
 have notR:∀j,j<W2.heap.size∨W3.heap.size<=j->¬j=R:=fun j h=>by omega
 refine⟨{ R:=R,v:=v2,wb:=fun j=>(match j with | 0=>b0 | 1=>b1 | _=>b2),wc:=fun j=>(match j with | 0=>s.nd | 1=>s.nc | _=>s.nr),sv:= .slice none 0 0 },cb,rfl,kwz,⟨by show _<=R;omega,by omega,by omega⟩,upd (upd (upd lab cb.C (.obj 8)) cb.M (.obj 9)) R (.obj 10),?_,?_,?_,⟨BZ,?_,?_,?_,upd_same _ _ _,?_,?_⟩,?_⟩
 . intro j hj;rw [uo_ (by omega),uo_ (by omega),uo_ (by omega)]
 . intro j hj;exact hl0 j (by omega) (by omega) (by omega) (by omega)
 . intro j hj;by_cases e1:j=R
   . exact .inl e1
   . rw [uo_ e1] at hj;by_cases e2:j=cb.M
     . exact .inr (.inr e2)
     . rw [uo_ e2] at hj;by_cases e3:j=cb.C
       . exact .inr (.inl e3)
       . rw [uo_ e3] at hj;exact absurd rfl hj
 . exact(A3.out.new K4.out).keep ks fun j hj=>notR j (.inl (by have:=Nu A2.out j hj;omega))
 . intro j hj
   match j,hj with
   | 0,_=>exact(RW.out.1.keep ks (notR _ (.inr l0))).congr fun i _=>by rw [EK];rfl
   | 1,_=>exact(RW.out.2.1.keep ks (notR _ (.inr l1))).congr fun i _=>by rw [EK];rfl
   | 2,_=>exact(RW.out.2.2.keep ks (notR _ (.inr l2))).congr fun i _=>by rw [EK];rfl
 . exact⟨none,0,rfl,fun h=>absurd rfl h⟩
 . intro j hj;have h1:=L2.out j hj;have h2:=Nu A2.out j hj;exact hl0 j (by omega) (by omega) (by omega) (by omega)
 . intro j hj
   match j,hj with
   | 0,_=>exact hl0 b0 (by omega) (by omega) (by omega) (by omega)
   | 1,_=>exact hl0 b1 (by omega) (by omega) (by omega) (by omega)
   | 2,_=>exact hl0 b2 (by omega) (by omega) (by omega) (by omega)
 . have c2':=C2.out.relab (lab':=upd (upd (upd lab cb.C (.obj 8)) cb.M (.obj 9)) R (.obj 10)) elr;have k24:=((K23.out.then_ K4.out).mono fun _ e=>e.elim).then_ ks;exact c2'.keep k24 fun j e c=>by
    rw [show j=R from c,upd_same] at e;rcases e with e | e | e <;> cases e
end
end
end Go.Proofs.YtpekoejdnhaohaaGreatDoor
