/- What the firmware sends, reads and takes; what slices.Reverse leaves. For every firmware in memory. -/
import Derived.Test.YtpekoejdnhaohaaGreatDoorL
import Derived.Test.YtpekoejdnhaohaaGreatDoorM
namespace Go.Proofs.YtpekoejdnhaohaaGreatDoor
open Go.RowKit Tryz
set_option maxRecDepth 100000
set_option maxHeartbeats 40000000
set_option linter.all false
variable {a:Act} {listed:Array Bool} {B c fuel g gc i p tok x:Nat} {o:Oper} {w w':World}
structure Fm where
 wish:Nat->Nat->Nat->Bool
 box:Nat
 last:Nat
 at_:Int
 kind:Int
 ident:Nat
structure Fb where
 F:Nat
 v:Bx
 bb:Nat->Nat->Nat
 cp:Nat->Nat->Nat
 q:Nat
 qn:Nat
 qc:Nat
def fmWords (b:Fb) (y:Fm):Value:=if y.box=0 then .slice none 0 0 else .slice b.q b.qn b.qc
abbrev Ir (H:Nat) (s:AE) (b:Fb) (y:Fm):List Value:=
 [.pointer H, .slice b.v.cb s.nc b.v.cc, .slice b.v.db s.nd b.v.dc, .slice b.v.rb s.nr b.v.rc, .slice b.v.vb s.nv b.v.vc,
  .slice (b.bb 0 0) s.nd (b.cp 0 0), .slice (b.bb 0 1) s.nc (b.cp 0 1), .slice (b.bb 0 2) s.nr (b.cp 0 2), .slice (b.bb 1 0) s.nd (b.cp 1 0), .slice (b.bb 1 1) s.nc (b.cp 1 1), .slice (b.bb 1 2) s.nr (b.cp 1 2),
  .int .i64 y.box,fmWords b y, .int .i64 0, .slice none 0 0, .int .i64 y.last, .int .i64 y.at_, .int .u8 y.kind, .int .i64 y.ident]
structure AP (w:World) (lab:Nat->Lb) (s:AE) (H:Nat) (b:Fb) (y:Fm):Prop where
 f:AF w b.F 128 (Ir H s b y)
 soc:A6 w b.v s
 wish:DF w 0 b.bb (Ao s) y.wish
 lF:lab b.F= .obj 6
 lsoc:∀j,b.v.In s j->lab j= .obj 0
 lwish:∀g j,g<2->j<3->lab (b.bb g j)= .obj 0
namespace AP
variable {w w':World} {lab:Nat->Lb} {s:AE} {H:Nat} {b:Fb} {y:Fm}
theorem keep {S:Nat->Prop} (h:AP w lab s H b y) (k:AD S w w') (n:∀j,lab j= .obj 0∨lab j= .obj 6->¬S j):AP w' lab s H b y:=
 ⟨h.f.keep k (n _ (.inr h.lF)),h.soc.keep k (fun j hj=>n _ (.inl (h.lsoc j hj))),fun g j hg hj=>⟨(h.wish g j hg hj).1.keep k (n _ (.inl (h.lwish g j hg hj))),(h.wish g j hg hj).2⟩,h.lF,h.lsoc,h.lwish⟩
theorem new (h:AP w lab s H b y) (k:AJ w w'):AP w' lab s H b y:=h.keep k fun _ _=>id
theorem hard (h:AP w lab s H b y) (k:AD (BH lab) w w'):AP w' lab s H b y:=
 h.keep k fun j e c=>by
  have c:(lab j).isHard=true:=c;rcases e with e | e <;> (rw [e] at c;cases c)
end AP
section
variable {w:World} {lab:Nat->Lb} {s:AE} {H:Nat} {b:Fb} {y:Fm}
theorem IZ (w:World):Calls prog 95 #[.int .i64 0] w fun e w'=>e= .returned (.bool true)∧w'=w:=by
 go_in;go_wp2;go_ret;exact⟨rfl,rfl⟩
theorem QJ (w:World):Calls prog 95 #[.int .i64 1] w fun e w'=>e= .returned (.bool true)∧w'=w:=by
 go_in;go_wp2;go_ret;exact⟨rfl,rfl⟩
theorem OY (h:AP w lab s H b y):Calls prog 42 #[.pointer b.F] w fun e w'=>e= .returned (.int .i64 y.at_)∧w'=w:=by
 have c16:=h.f.z 16;clear h;go_in;go_wp2;go_ret;exact⟨rfl,rfl⟩
theorem Oa (h:AP w lab s H b y):Calls prog 43 #[.pointer b.F, .int .i64 1] w fun e w'=>e= .returned (.bool false)∧w'=w:=by
 have c13:=h.f.z 13;clear h;go_in;go_wp2_with fail;refine mn_ (QJ _) ?_;go_wp2;go_ret;exact⟨rfl,rfl⟩
theorem O8 (h:AP w lab s H b y) (hb:y.box≠2) (hb2:y.box<=2):Calls prog 39 #[.pointer b.F, .int .i64 0] w fun e w'=>e= .returned (.tuple #[.slice none 0 0, .bool false])∧w'=w:=by
 have c11:=h.f.z 11;have hne:¬(y.box:Int)=2:=by omega
 clear h;go_in;go_wp2_with fail;refine mn_ (IZ _) ?_;go_wp2;go_ret2;exact⟨rfl,rfl⟩
def ReadP (w:World) (lab:Nat->Lb) (s:AE) (H:Nat) (b:Fb) (y:Fm) (e:Ending) (w':World):Prop:=
 e= .returned (.tuple #[.slice b.q b.qn b.qc, .bool true])∧AD (fun j=>j=b.F) w w'∧AP w' lab s H b { y with box:=0 }
theorem AP.turn {b':Fb} {y':Fm} (h:AP w lab s H b y) (k:AD (fun j=>j=b.F) w w') (hF:b'.F=b.F) (hv:b'.v=b.v) (hbb:b'.bb=b.bb) (hw:y'.wish=y.wish) (f:AF w' b.F 128 (Ir H s b' y')):AP w' lab s H b' y':=by
 have n:∀j,lab j= .obj 0->¬(fun j=>j=b.F) j:=fun j e c=>by
  have c:j=b.F:=c;rw [c,h.lF] at e;cases e
 refine⟨by rw [hF];exact f,by rw [hv];exact h.soc.keep k fun j hj=>n _ (h.lsoc j hj),?_,by rw [hF];exact h.lF,by rw [hv];exact h.lsoc,by rw [hbb];exact h.lwish⟩;rw [hbb,hw];exact fun g j hg hj=>⟨(h.wish g j hg hj).1.keep k (n _ (h.lwish g j hg hj)),(h.wish g j hg hj).2⟩
theorem Vb (h:AP w lab s H b y) (hb:y.box=2):Calls prog 39 #[.pointer b.F, .int .i64 0] w (ReadP w lab s H b y):=by
 have c11:w.cell? (b.F 11)=some (.int .i64 2):=by have e:w.cell? (b.F 11)=some (.int .i64 y.box):=h.f.cell 11;rw [hb] at e;exact e
 have c12:w.cell? (b.F 12)=some (.slice b.q b.qn b.qc):=by have e:w.cell? (b.F 12)=some (fmWords b y):=h.f.cell 12;rw [fmWords,if_neg (by omega)] at e;exact e
 have f11:=h.f.frozen 11;have f12:=h.f.frozen 12;have HF:=Ae h;clear h;go_in;go_wp2_with fail;refine(IZ _).mono ?_;rintro e w' ⟨rfl,rfl⟩;go_wp2;go_ret2;have kk:AD (fun j=>j=b.F) w' ((w'.setCell (b.F 11) (.int .i64 0)).setCell (b.F 12) (.slice none 0 0)):=(keeps_set _).t (keeps_set _);exact⟨rfl,kk,HF.out.turn kk rfl rfl rfl rfl ((HF.out.f.set 11 (.int .i64 0)).set 12 (.slice none 0 0))⟩
end
abbrev stepL (p tok i x:Nat):List Value:=[.int .u32 ((msgOf p+1024*p+262144*tok:Nat):Int), .int .u32 i, .int .u32 x]
theorem UR (h:An w g p tok i x):Src w (some (g 0)) 3 c 1 (stepL p tok i x):=by
 refine⟨fun e=>(by cases e),rfl,fun ad e _=>?_,fun ad e j u hj=>?_,fun u hu=>?_⟩
 . injection e with e;subst e;exact h.lt
 . injection e with e;subst e;rw [Af,Ag]
   match j,hj with
   | 0,hj=>injection hj with hj;subst hj;exact h.c0
   | 1,hj=>injection hj with hj;subst hj;exact h.c1
   | 2,hj=>injection hj with hj;subst hj;exact h.c2
   | k+3,hj=>simp at hj
 . simp at hu;rcases hu with rfl | rfl | rfl <;> rfl
theorem Ux {a:Option Addr} (h:w.ownsRow B 37 1 (.slice a 3 c) 3 (stepL p tok i x)):∃q,a=some ⟨q,0,none⟩∧An w q p tok i x∧B<=q:=by
 rcases h.2 with⟨hv,h0⟩ | ⟨g,c',cur,hv,hb,hg,r⟩
 . omega
 . injection hv with h1 h2 h3;subst h1;have hc:=World.ownsRow.cells h (g:=g) rfl;refine⟨g,rfl,⟨(h.lt g rfl).2,?_,?_,?_⟩,hb⟩
   . have:=hc 0 _ rfl;rw [Af] at this;exact this
   . have:=hc 1 _ rfl;rw [Af] at this;exact this
   . have:=hc 2 _ rfl;rw [Af] at this;exact this
theorem JU (h:Below w.heap.size w w'):AJ w w':=⟨h.os,h.tape,h.output,h.size,fun k hk _=>h.block k hk⟩
theorem Zm:W.Src w none 0 0 []:=⟨fun _=>⟨rfl,rfl⟩,rfl,fun ad e=>(by cases e),fun ad e=>(by cases e),fun u hu=>(by cases hu)⟩
theorem Yv {W:Int} (h:w.ownsRow B 37 1 (.slice g 2 c) 2 [.int .u32 W, .int .u32 0]):w.cell? (g 1)=some (.int .u32 0):=by
 have:=World.ownsRow.cells h (g:=g) rfl 1 _ rfl;rw [Af] at this;exact this
section
variable {w:World} {lab:Nat->Lb} {s:AE} {H:Nat} {b:Fb} {y:Fm}
def SendP (w:World) (lab:Nat->Lb) (s:AE) (H:Nat) (b:Fb) (y:Fm) (p tok i x:Nat) (e:Ending) (w':World):Prop:=
 ∃q c,e= .returned (.int .i64 0)∧AD (fun j=>j=b.F) w w'∧AP w' lab s H { b with q:=q,qn:=3,qc:=c } { y with box:=1 }∧An w' q p tok i x∧w.heap.size<=q
theorem Va (h:AP w lab s H b y) (hb:y.box=0) (hw:An w g p tok i x):Calls prog 94 #[.pointer b.F, .int .i64 0, .slice g 3 gc] w (SendP w lab s H b y p tok i x):=by
 have c11:w.cell? (b.F 11)=some (.int .i64 0):=by have e:w.cell? (b.F 11)=some (.int .i64 y.box):=h.f.cell 11;rw [hb] at e;exact e
 have HF:=Ae h;have HW:=Ae hw;have lF:=h.f.lt;clear h hw;go_in;go_wp2_with fail;refine(IZ _).mono ?_;rintro e w' ⟨rfl,rfl⟩;obtain⟨w,rfl⟩:∃w,w=w':=⟨_,rfl⟩;go_wp2_with fail;refine rh_ (fun _=>True) trivial (fun hE=>?_);refine tk 0 trivial ?_;refine tk 1 trivial ?_;refine tk 2 trivial ?_;refine tk 5 trivial ?_;refine tk 6 trivial ?_;refine oA_ 3 23 (fun u w'=>∃q c,u= .slice (some ⟨q,0,none⟩) 3 c∧AJ w w'∧An w' q p tok i x∧w.heap.size<=q) ?s_g3 ?s_n3;case s_g3=>
  intro a' K Q ha hK;have e0:=te ha 22;clear ha;go_simp;refine(Q9 _ 3 _ _ w.drew (UR (HW.out.keep (nr w).drew id)) (by omega)).mono ?_;rintro e w' ⟨a,c,rfl,k2,o2,_⟩;obtain⟨q,rfl,hq,hb⟩:=Ux o2;exact hK _ _ ⟨q,c,rfl,((nr w).drew).then_ k2,hq,hb⟩
 case s_n3=>
 rintro u1 W1 ⟨q,c,rfl,k1,q1,l1⟩;refine⟨trivial,?_⟩;simp only [pu,s0,s1];refine tk 4 trivial ?_;refine tk 7 trivial ?_;have BF:=HF.out.f.keep k1 id;have g11:=BF.z 11;have g12:=BF.z 12;have f11:=BF.frozen 11;have f12:=BF.frozen 12;have BFK:=Ae BF;have K1:=Ae k1;have Q1:=Ae q1;clear BF k1 q1;refine CO (i:=8) rfl rfl (by kernel_rfl) (C:=fun v w'=>v=undef∧w'=(W1.setCell (b.F 11) (.int .i64 1)).setCell (b.F 12) (.slice q 3 c)) ?s_g8 ?s_n8;case s_g8=>
  intro a' K Q ha hK;have e0:=te ha 27;have e1:=te ha 24;clear ha;go_simp;exact hK _ _ ⟨rfl,rfl⟩
 case s_n8=>
 rintro v0 w6 ⟨rfl,rfl⟩;refine⟨trivial,?_⟩;simp only [Act.put];refine⟨by kernel_rfl,?_⟩;clear g11 g12 f11 f12 hE;go_wp2;go_ret;have kk:AD (fun j=>j=b.F) W1 ((W1.setCell (b.F 11) (.int .i64 1)).setCell (b.F 12) (.slice q 3 c)):=(keeps_set _).t (keeps_set _);have kw:=(K1.out.mono fun j e=>e.elim).trans kk fun j _ e=>e;exact⟨q,c,rfl,kw,HF.out.turn kw rfl rfl rfl rfl ((BFK.out.set 11 (.int .i64 1)).set 12 (.slice q 3 c)),Q1.out.keep kk (by omega),l1⟩
theorem Vc (hp:p=17∨p=20∨p=22) (htok:tok<=1023) (hw:An w g p tok i x) (F:Value):Calls prog 148 #[F, .slice g 3 gc] w fun e w'=>e= .returned (.slice none 0 0)∧AJ w w':=by
 have w0:=hw.c0;have hm4:msgOf p<=7∧4<=msgOf p:=by unfold msgOf;split <;> omega
 have hq:¬(p=17∧msgOf p=5)∧¬(p=20∧msgOf p=6):=by unfold msgOf;split <;> omega
 have hp22:p<=22∧17<=p:=by omega
 clear hw;go_in;go_wp2_with fail;refine(W.unpack_is (msgOf p+1024*p+262144*tok) (msgOf p) 0 p tok _ rfl (by omega) (by omega) (by omega) (by omega) (by omega)).mono ?_;rintro z w3 ⟨rfl,m3⟩;have K3:=Ae m3.new;clear m3 w0;simp only [Ts];rcases hp with rfl | rfl | rfl
 all_goals go_wp2_with fail
 all_goals go_ret
 all_goals exact⟨rfl,K3.out.alloc _⟩
def ReplyP (w:World) (lab:Nat->Lb) (s:AE) (H:Nat) (b:Fb) (y:Fm) (e:Ending) (w':World):Prop:=
 ∃q c,e= .returned (.tuple #[])∧AD (fun j=>j=b.F) w w'∧AP w' lab s H { b with q:=q,qn:=2,qc:=c } { y with box:=2 }∧w'.cell? ⟨q,1,none⟩=some (.int .u32 0)∧q<w'.heap.size∧w.heap.size<=q
theorem Lr (h:AP w lab s H b y) (hb:y.box=1) (hqn:b.qn=3) (hp:p=17∨p=20∨p=22) (htok:tok<=1023) (hw:An w b.q p tok i x):
 Calls prog 90 #[.pointer b.F, .int .i64 0, .int .i32 0] w (ReplyP w lab s H b y):=by
 have c12:w.cell? (b.F 12)=some (.slice b.q 3 b.qc):=by have e:w.cell? (b.F 12)=some (fmWords b y):=h.f.cell 12;rw [fmWords,if_neg (by omega),hqn] at e;exact e
 have w0:=hw.c0;have HF:=Ae h;have HW:=Ae hw;have HP:=Ae hp;clear h hw hp;go_in;go_wp2_with fail;refine(Vc HP.out htok HW.out _).mono ?_;rintro e W0 ⟨rfl,k0⟩;have HF0:=Ae (HF.out.new k0);have K0:=Ae k0;clear k0;go_wp2_with fail;refine rh_ (fun _=>True) trivial (fun hE=>?_);refine tk 0 trivial ?_;refine tk 1 trivial ?_;refine tk 2 trivial ?_;refine tk 3 trivial ?_;refine tk 4 trivial ?_;refine tk 7 trivial ?_;refine tk 8 trivial ?_;refine oA_ 5 32 (fun u w'=>∃q c,u= .slice (some ⟨q,0,none⟩) 2 c∧AJ W0 w'∧w'.cell? ⟨q,1,none⟩=some (.int .u32 0)∧q<w'.heap.size∧W0.heap.size<=q) ?t_g5 ?t_n5;case t_g5=>
  intro a' K Q ha hK;have e0:=te ha 29;have e1:=te ha 30;have e2:=te ha 31;clear ha;go_simp;refine(W.answer_any _ 0 0 none 0 0 [] W0.drew Zm (by omega) rfl).mono ?_;rintro e w' ⟨g,cap,rfl,ho⟩;exact hK _ _ ⟨g,cap,rfl,((nr W0).drew).then_ (JU ho.below),Yv ho.owns,(ho.owns.lt g rfl).2,(ho.owns.lt g rfl).1⟩
 case t_n5=>
 rintro u1 W1 ⟨q,c,rfl,k1,q1,ql,l1⟩;refine⟨trivial,?_⟩;simp only [pu,s0,s1];refine tk 6 trivial ?_;refine tk 9 trivial ?_;have BF:=HF0.out.f.keep k1 id;have g11:=BF.z 11;have g12:=BF.z 12;have f11:=BF.frozen 11;have f12:=BF.frozen 12;have BFK:=Ae BF;have K1:=Ae k1;have Q1:=Ae q1;clear BF k1 q1;refine CO (i:=10) rfl rfl (by kernel_rfl) (C:=fun v w'=>v=undef∧w'=(W1.setCell (b.F 11) (.int .i64 2)).setCell (b.F 12) (.slice q 2 c)) ?t_g10 ?t_n10;case t_g10=>
  intro a' K Q ha hK;have e0:=te ha 36;have e1:=te ha 33;clear ha;go_simp;exact hK _ _ ⟨rfl,rfl⟩
 case t_n10=>
 rintro v0 w6 ⟨rfl,rfl⟩;refine⟨trivial,?_⟩;simp only [Act.put];refine⟨by kernel_rfl,?_⟩;clear g11 g12 f11 f12 hE;go_wp2;go_end0;have kk:AD (fun j=>j=b.F) W1 ((W1.setCell (b.F 11) (.int .i64 2)).setCell (b.F 12) (.slice q 2 c)):=(keeps_set _).t (keeps_set _);have kw:=((K0.out.then_ K1.out).mono fun j e=>e.elim).trans kk fun j _ e=>e;have hF:=HF0.out.f.lt;have z0:=K0.out.size;exact⟨q,c,rfl,kw,HF.out.turn kw rfl rfl rfl rfl ((BFK.out.set 11 (.int .i64 2)).set 12 (.slice q 2 c)),(kk.cell ql (by show¬q=b.F;omega)).trans Q1.out,by simpa using ql,by omega⟩
end
section
variable {P:Program} {ops:Array Oper} {Q:Exit->Act->World->Prop} {md:Region.Mode} {S:World->Prop}
theorem Ke {C:World->Prop} (ho:ops[i]?=some o) (hd:dstOf ops i=none) (hw:Region.wanted o (yielded ops a.tmps)=true) (hr:Region.ready md ops listed=[i]) (g:Fi P o a.eval w fun _ w'=>C w')
 (h:∀w',C w'->S w'∧wpAnyH P md ops Q S fuel (listed.setIfInBounds i true) a w'):wpAnyH P md ops Q S (fuel+1) listed a w:=by
 refine⟨fun e=>(by rw [e] at hr;cases hr),fun j hj=>?_⟩;rw [hr] at hj;obtain rfl:=Dz.1 hj;have e:o.dst=none:=by unfold dstOf at hd;rw [ho] at hd;exact hd
 unfold wpOp;rw [ho];simp only [hw,if_true];refine .inl (g.wp fun v w' hc=>?_);rw [e];exact h w' hc
end
theorem oN_ {P:Program} {ops:Array Oper} {Q:Exit->Act->World->Prop} {md:Region.Mode} {S:World->Prop} (i:Nat) (C:World->Prop) (g:Fi P o a.eval w fun _ w'=>C w') (h:∀w',C w'->S w'∧wpAnyH P md ops Q S fuel (listed.setIfInBounds i true) a w') (ho:ops[i]?=some o:=by rfl) (hd:dstOf ops i=none:=by rfl) (hw:Region.wanted o (yielded ops a.tmps)=true:=by kernel_rfl) (hr:Region.ready md ops listed=[i]:=by kernel_rfl):wpAnyH P md ops Q S (fuel+1) listed a w:=Ke ho hd hw hr g h
section
variable {w:World} {lab:Nat->Lb} {s:AE} {hb:Hb} {hx:Hw} {b:Fb} {y:Fm}
def TakeP (w:World) (lab:Nat->Lb) (s:AE) (H:Nat) (b:Fb) (y:Fm) (t:Int) (i:Nat) (e:Ending) (w':World):Prop:=
 ∃bb cp,e= .returned (.bool true)∧AD (fun j=>j=b.F) w w'∧AP w' lab s H { b with bb:=bb,cp:=cp } { y with wish:=Br y.wish t i,last:=0,at_:=0,kind:=t,ident:=i }
theorem firm_take (h:AP w lab s hb.H b y) (hh:AH w lab s hb hx) (hs:s.Ok) (hfr:∀j,w.heap.size<=j->lab j= .obj 0) (hx0:∀i,i<s.nv->hx.m i=0) (hbx:y.box=1) (hqn:b.qn=3) (hl:y.last<=1) {t:Int} (htok:tok<=1023) (hw:An w b.q p tok i x) (lq:lab b.q= .obj 0) (st:DG s p x i t) (hc:Qz s y.wish t i):
 Calls prog 88 #[.pointer b.F] w (TakeP w lab s hb.H b y t i):=by
 have c11:w.cell? (b.F 11)=some (.int .i64 1):=by have e:w.cell? (b.F 11)=some (.int .i64 y.box):=h.f.cell 11;rw [hbx] at e;exact e
 have c13:=h.f.z 13;have c15:∃L:Int,(L=0∨L=1)∧w.cell? (b.F 15)=some (.int .i64 L):=⟨y.last,by omega,h.f.cell 15⟩;obtain⟨L,hL,c15⟩:=c15;have c4:=h.f.z 4;have f15:=h.f.frozen 15;have n1:=hs.v2;have hm22:=fun(W:World)=>run_make_row' (P:=prog) 22 3 (.int .i64 0) 8 underlying22 JN rfl .i64 .i64 s.nv (by omega) (by omega) W;have HF:=Ae h;have HH:=Ae hh;have HS:=Ae hs;have HFR:=Ae hfr;have HX0:=Ae hx0;have HBX:=Ae (And.intro hbx hqn);have HW:=Ae hw;have LQ:=Ae lq;have ST:=Ae st;have HC:=Ae hc;have lF:=h.f.lt;clear h hh hs hfr hx0 hbx hqn hl hw lq st hc;rcases hL with rfl | rfl
 all_goals
  go_in;go_wp2_with fail;clear hm22 c4 c11 c13 c15 f15;obtain⟨M,hM⟩:=ex w.heap.size;obtain⟨W1,hW1⟩:=ex ((w.setCell (b.F 15) (.int .i64 0)).alloc (.cells (madeCells #[.int .i64 0] s.nv) 3));have k1:AD (fun j=>j=b.F) w W1:=by rw [<-hW1];exact(keeps_set _).alloc _
  have rm:W1.rowIs M 3 s.nv (fun _=> .int .i64 0):=by
   rw [<-hW1, <-hM];have h:=CV (w.setCell (b.F 15) (.int .i64 0)) (.int .i64 0) s.nv 3;simpa only [Fg] using h
  have bf:AF W1 b.F 128 (Ir hb.H s b { y with last:=0 }):=by
   rw [<-hW1];exact(HF.out.f.set 15 (.int .i64 0)).alloc _
  have nH:∀j,(lab j).isHard=true->¬j=b.F:=fun j e c=>by rw [c,HF.out.lF] at e;cases e
  rw [hW1,hM];have K1:=Ae k1;have RM:=Ae rm;have BF:=Ae bf;have H1:=Ae (HH.out.keep k1 nH);have F1:=Ae (HF.out.turn (b':=b) (y':={ y with last:=0 }) k1 rfl rfl rfl rfl bf);have HMz:=Ae hM;have hFM:b.F<M:=by omega
  clear hW1 hM k1 rm bf nH;go_loopw [46] (fun j wr=>∃k:Nat,k<=s.nv∧j= .int .i64 k∧AD (fun j=>j=M) W1 wr∧wr.rowIs M 3 s.nv (fun _=> .int .i64 0)) (fun j _=>s.nv - (intOf j).toNat);case atStart=>exact⟨0,by omega,rfl,kx_,RM.out⟩
  case round=>
   obtain⟨k,hk,rfl,kw,rm⟩:=hrel;have KW:=Ae kw;have RW:=Ae rm;have hMn:lab M= .obj 0:=HFR.out M (by have:=HMz.out;omega);have BW:=Ae (BF.out.keep kw (by omega));have HWr:=Ae (H1.out.keep kw fun j e c=>by rw [c,hMn] at e;cases e);by_cases hlt:k<s.nv
   . have c0:=BW.out.z 0;have q0:=rm.cell hlt;have fq:=rm.frozen k;have e0:=HX0.out k hlt;clear kw rm;go_wp2_with fail;refine(OR HWr.out k hlt).mono ?_;rintro e w' ⟨rfl,rfl⟩;rw [e0];go_wp2;go_roundw;case rel=>exact⟨k+1,by omega,by go_num,KW.out.t (keeps_set _),(RW.out.set k (.int .i64 0)).congr fun j _=>by simp⟩
     case measure=>simp [intOf];omega
   . clear kw rm;obtain⟨W2,rfl⟩:∃W2,W2=wr:=⟨_,rfl⟩;have k2:AD (fun j=>j=b.F) w W2:=K1.out.trans KW.out fun j hj e=>by have:=HMz.out;omega
     have K2:=Ae k2;have A2:=Ae (show AP W2 lab s hb.H b { y with last:=0 } from HF.out.turn k2 rfl rfl rfl rfl BW.out);clear k2;go_wp2_with fail;have SNK:AG (∀w',AJ W2 w'->(w'.cell? (b.F 1)=some (.slice b.v.cb s.nc b.v.cc)∧w'.cell? (b.F 2)=some (.slice b.v.db s.nd b.v.dc)∧w'.cell? (b.F 3)=some (.slice b.v.rb s.nr b.v.rc)∧w'.cell? (b.F 4)=some (.slice b.v.vb s.nv b.v.vc)∧w'.cell? (b.F 5)=some (.slice (b.bb 0 0) s.nd (b.cp 0 0))∧w'.cell? (b.F 6)=some (.slice (b.bb 0 1) s.nc (b.cp 0 1))∧w'.cell? (b.F 7)=some (.slice (b.bb 0 2) s.nr (b.cp 0 2))∧w'.cell? (b.F 8)=some (.slice (b.bb 1 0) s.nd (b.cp 1 0))∧w'.cell? (b.F 9)=some (.slice (b.bb 1 1) s.nc (b.cp 1 1))∧w'.cell? (b.F 10)=some (.slice (b.bb 1 2) s.nr (b.cp 1 2))∧w'.cell? (b.F 12)=some (.slice b.q 3 b.qc))):=⟨fun w' kk=>by
      have bb:=BW.out.keep kk id;have e12:=bb.z 12;rw [fmWords,if_neg (by have:=HBX.out.1;simp [this]),HBX.out.2] at e12;exact⟨bb.cell 1,bb.cell 2,bb.cell 3,bb.cell 4,bb.cell 5,bb.cell 6,bb.cell 7,bb.cell 8,bb.cell 9,bb.cell 10,e12⟩⟩
     refine rh_ (fun w'=>(w'.cell? (b.F 1)=some (.slice b.v.cb s.nc b.v.cc)∧w'.cell? (b.F 2)=some (.slice b.v.db s.nd b.v.dc)∧w'.cell? (b.F 3)=some (.slice b.v.rb s.nr b.v.rc)∧w'.cell? (b.F 4)=some (.slice b.v.vb s.nv b.v.vc)∧w'.cell? (b.F 5)=some (.slice (b.bb 0 0) s.nd (b.cp 0 0))∧w'.cell? (b.F 6)=some (.slice (b.bb 0 1) s.nc (b.cp 0 1))∧w'.cell? (b.F 7)=some (.slice (b.bb 0 2) s.nr (b.cp 0 2))∧w'.cell? (b.F 8)=some (.slice (b.bb 1 0) s.nd (b.cp 1 0))∧w'.cell? (b.F 9)=some (.slice (b.bb 1 1) s.nc (b.cp 1 1))∧w'.cell? (b.F 10)=some (.slice (b.bb 1 2) s.nr (b.cp 1 2))∧w'.cell? (b.F 12)=some (.slice b.q 3 b.qc))) (SNK.out _ ((AD.refl _ W2).drew)) (fun hE=>?_);refine tk 0 hE ?_;refine tk 1 hE ?_;refine tk 2 hE ?_;refine tk 3 hE ?_;refine tk 4 hE ?_;refine tk 5 hE ?_;refine tk 6 hE ?_;refine tk 7 hE ?_;refine tk 8 hE ?_;refine tk 9 hE ?_;refine tk 10 hE ?_;refine tk 11 hE ?_;refine tk 12 hE ?_;refine tk 13 hE ?_;refine tk 14 hE ?_;refine tk 15 hE ?_;refine tk 16 hE ?_
     refine wl_ (fuel:=1) [17,18,19,20,21,22] (fun n vals W=>match n with
      | 17=>vals 17= .tuple #[.int .i32 0, .agg #[.int .u8 t, .int .i64 i]]
      | 18=>vals 18= .tuple #[.int .i32 0, .agg #[.int .u8 t, .int .i64 i]]
      | 19=>vals 19= .int .i32 0
      | 20=>vals 20= .agg #[.int .u8 t, .int .i64 i]
      | 21=>∃f,vals 21= .pointer (some ⟨f,0,none⟩)∧W2.heap.size<=f∧AF W f 126 [.int .u8 0, .int .i64 0]
      | _=>vals 22= .int .i32 0)
      (AJ W2) (fun n W W'=>AJ W W') ?j ?step ?fin
     case j=>exact(AD.refl _ W2).drew
     case step=>
      intro n hn o ho vals ρ W hJ hd ev;simp only [m1,m0,or_false] at hn;rcases hn with rfl | rfl | rfl | rfl | rfl | rfl
      . cases ho;intro a' K Q ha hK;subst ha;have e0:=tv (ev (.tmp 63) rfl);have e1:=tv (ev (.tmp 67) rfl);have e2:=tv (ev (.tmp 68) rfl);have e3:=tv (ev (.tmp 69) rfl);have e4:=tv (ev (.tmp 76) rfl);have kk:=K2.out.trans hJ fun j _ e=>e.elim;have nq:¬b.q=b.F:=fun c=>by have h1:=LQ.out;rw [c,HF.out.lF] at h1;cases h1
        go_simp;refine(Nr HS.out (A2.out.soc.new hJ) (fun g j hg hj=>⟨(A2.out.wish g j hg hj).1.keep hJ id,Nat.zero_le _⟩) ST.out htok (HW.out.keep kk nq) (rowIs_keep RW.out hJ id) HC.out).mono ?_;rintro e w4 ⟨rfl,k4⟩;have KN:=hJ.then_ k4;exact hK _ _ ⟨k4,KN,SNK.out _ KN,Ap⟩
      . cases ho;obtain⟨v1,d1⟩:=(show vals 17= .tuple #[.int .i32 0, .agg #[.int .u8 t, .int .i64 i]]∧_ from he_ hd 17);intro a' K Q ha hK;subst ha;have e0:=et ((d1 77 rfl).trans v1);go_simp;exact hK _ _ ⟨kx_,hJ,SNK.out _ hJ,Ap⟩
      . cases ho;obtain⟨v1,d1⟩:=(show vals 18= .tuple #[.int .i32 0, .agg #[.int .u8 t, .int .i64 i]]∧_ from he_ hd 18);intro a' K Q ha hK;subst ha;have e0:=et ((d1 59 rfl).trans v1);go_simp;exact hK _ _ ⟨kx_,hJ,SNK.out _ hJ,Ap⟩
      . cases ho;obtain⟨v1,d1⟩:=(show vals 18= .tuple #[.int .i32 0, .agg #[.int .u8 t, .int .i64 i]]∧_ from he_ hd 18);intro a' K Q ha hK;subst ha;have e0:=et ((d1 59 rfl).trans v1);go_simp;exact hK _ _ ⟨kx_,hJ,SNK.out _ hJ,Ap⟩
      . cases ho;intro a' K Q ha hK;subst ha;go_simp;have KN:AJ W2 (W.alloc (.cells #[.int .u8 0, .int .i64 0] 126)):=hJ.alloc _;exact hK _ _ ⟨(kx_).alloc _,KN,SNK.out _ KN,W.heap.size,Ap,hJ.size,AF.new W [.int .u8 0, .int .i64 0] 126⟩
      . cases ho;obtain⟨v1,d1⟩:=(show vals 19= .int .i32 0∧_ from he_ hd 19);intro a' K Q ha hK;subst ha;have e0:=et ((d1 78 rfl).trans v1);go_simp;exact hK _ _ ⟨kx_,hJ,SNK.out _ hJ,Ap⟩
     case fin=>
      intro vals W hJ hV;have v17:=Jh hV 17;have v18:=Jh hV 18;have v19:=Jh hV 19;have v20:=Jh hV 20;obtain⟨D,v21,hD,bD⟩:=Jh hV 21;have v22:=Jh hV 22;simp only [Am,AR,dstOf,De,Bl,Bk,CM,pu,s0,s1,if_true];rw [v17,v18,v19,v20,v21,v22];have JW:=Ae hJ;have BD:=Ae bD;have d0:=bD.z 0;have d1:=bD.z 1;have fd0:=bD.frozen 0;have fd1:=bD.frozen 1;clear v17 v18 v19 v20 v21 v22 bD hJ hV;refine oN_ 23 (fun w'=>w'=(W.setCell (D 0) (.int .u8 t)).setCell (D 1) (.int .i64 i)) ?g23 ?n23;case g23=>
       intro a' K Q ha hK;have e0:=te ha 7;have e1:=te ha 79;clear ha;go_simp;exact hK undef _ rfl
      case n23=>
      rintro w6 rfl;obtain⟨W3,hW3⟩:=ex ((W.setCell (D 0) (.int .u8 t)).setCell (D 1) (.int .i64 i));have k3:AJ W2 W3:=by rw [<-hW3];exact JW.out.trans ((keeps_set _).t (keeps_set _)) (fun j hj (e:j=D)=>by omega)
      have bD:AF W3 D 126 [.int .u8 t, .int .i64 i]:=by rw [<-hW3];exact(BD.out.set 0 (.int .u8 t)).set 1 (.int .i64 i)
      rw [hW3];refine⟨SNK.out _ k3,?_⟩;refine⟨by kernel_rfl,?_⟩;have K3:=Ae k3;have BD:=Ae bD;have d0:=bD.z 0;have ht0:¬t=0:=by have h:=ST.out.kind;unfold EI at h;omega
      clear hW3 k3 bD d1 fd0 fd1 hE;go_wp2_with fail;have SBK:AG (∀w',AD (fun j=>j=b.F) W3 w'->(w'.cell? (D 0)=some (.int .u8 t)∧w'.cell? (D 1)=some (.int .i64 i))):=⟨fun w' kk=>by
       have bb:=BD.out.keep kk (by have:=BW.out.lt;omega);exact⟨bb.cell 0,bb.cell 1⟩⟩
      clear d0;refine rh_ (fun w'=>(w'.cell? (D 0)=some (.int .u8 t)∧w'.cell? (D 1)=some (.int .i64 i))) (SBK.out _ ((AD.refl _ W3).drew)) (fun hE=>?_);refine tk 0 hE ?_;refine tk 1 hE ?_;refine tk 2 hE ?_;refine tk 3 hE ?_;refine tk 5 hE ?_;refine tk 6 hE ?_;have hF3:=SNK.out W3.drew K3.out.drew;obtain⟨_,_,_,_,m0,m1,m2,m3,m4,m5,_⟩:=hF3;refine oA_ 4 91 (fun u w'=>u= .agg #[.slice (b.bb 0 0) s.nd (b.cp 0 0), .slice (b.bb 0 1) s.nc (b.cp 0 1), .slice (b.bb 0 2) s.nr (b.cp 0 2), .slice (b.bb 1 0) s.nd (b.cp 1 0), .slice (b.bb 1 1) s.nc (b.cp 1 1), .slice (b.bb 1 2) s.nr (b.cp 1 2)]∧w'=W3.drew) ?t1b_g4 ?t1b_n4;case t1b_g4=>
       intro a' K Q ha hK;have e0:=te ha 90;clear ha;go_simp;exact hK _ _ ⟨rfl,rfl⟩
      case t1b_n4=>
      rintro u4 w7 ⟨rfl,rfl⟩;refine⟨hE,?_⟩;simp only [pu,s0,s1];clear m0 m1 m2 m3 m4 m5;refine oA_ 7 94 (fun u w'=>DoneP W3 s (Br y.wish t i) (.returned u) w') ?t1b_g7 ?t1b_n7;case t1b_g7=>
       intro a' K Q ha hK;have e0:=te ha 91;have e1:=te ha 92;have e2:=te ha 93;clear ha;go_simp;refine(Rf HS.out (w:=W3.drew) (fun g j hg hj=>⟨(A2.out.wish g j hg hj).1.keep K3.out.drew id,Nat.zero_le _⟩) ST.out.kind i ST.out.lt).mono ?_;rintro e w4 ⟨bb,cp,rfl,k4,h4⟩;exact hK _ _ ⟨bb,cp,rfl,((nr W3).drew).then_ k4,h4⟩
      case t1b_n7=>
      rintro u7 W4 ⟨bb,cp,hu,k4,h4⟩;refine⟨SBK.out _ (k4.mono fun j e=>e.elim),?_⟩;simp only [pu,s0,s1];injection hu with hu;subst hu;have S4:=SBK.out _ (k4.mono fun j e=>e.elim);refine tk 8 S4 ?_;refine tk 9 S4 ?_;have B4:=BW.out.keep (K3.out.then_ k4) id;have K4:=Ae k4;have H4:=Ae h4;have B4K:=Ae B4;have m0:=B4.z 5;have fm0:=B4.frozen 5;have m1:=B4.z 6;have fm1:=B4.frozen 6;have m2:=B4.z 7;have fm2:=B4.frozen 7;have m3:=B4.z 8;have fm3:=B4.frozen 8;have m4:=B4.z 9;have fm4:=B4.frozen 9;have m5:=B4.z 10;have fm5:=B4.frozen 10;clear B4 k4 h4;refine oN_ 10 (fun w'=>w'=((((((W4).setCell (b.F 5) (.slice (bb 0 0) s.nd (cp 0 0))).setCell (b.F 6) (.slice (bb 0 1) s.nc (cp 0 1))).setCell (b.F 7) (.slice (bb 0 2) s.nr (cp 0 2))).setCell (b.F 8) (.slice (bb 1 0) s.nd (cp 1 0))).setCell (b.F 9) (.slice (bb 1 1) s.nc (cp 1 1))).setCell (b.F 10) (.slice (bb 1 2) s.nr (cp 1 2))) ?t1b_g10 ?t1b_n10;case t1b_g10=>
       intro a' K Q ha hK;have e0:=te ha 96;have e1:=te ha 94;clear ha;go_simp;exact hK undef _ rfl
      case t1b_n10=>
      rintro w5 rfl;obtain⟨W5,hW5⟩:=ex (((((((W4).setCell (b.F 5) (.slice (bb 0 0) s.nd (cp 0 0))).setCell (b.F 6) (.slice (bb 0 1) s.nc (cp 0 1))).setCell (b.F 7) (.slice (bb 0 2) s.nr (cp 0 2))).setCell (b.F 8) (.slice (bb 1 0) s.nd (cp 1 0))).setCell (b.F 9) (.slice (bb 1 1) s.nc (cp 1 1))).setCell (b.F 10) (.slice (bb 1 2) s.nr (cp 1 2)));have k5:AD (fun j=>j=b.F) W4 W5:=by
       rw [<-hW5];exact(((((keeps_set _).t (keeps_set _)).t (keeps_set _)).t (keeps_set _)).t (keeps_set _)).t (keeps_set _)
      have b5:AF W5 b.F 128 (Ir hb.H s { b with bb:=bb,cp:=cp } { y with last:=0 }):=by
       rw [<-hW5];exact((((((B4K.out).set 5 (.slice (bb 0 0) s.nd (cp 0 0))).set 6 (.slice (bb 0 1) s.nc (cp 0 1))).set 7 (.slice (bb 0 2) s.nr (cp 0 2))).set 8 (.slice (bb 1 0) s.nd (cp 1 0))).set 9 (.slice (bb 1 1) s.nc (cp 1 1))).set 10 (.slice (bb 1 2) s.nr (cp 1 2))
      rw [hW5];have k35:=(K4.out.mono fun j e=>e.elim).trans k5 fun j _ e=>e;have S5:=SBK.out _ k35;refine⟨S5,?_⟩;refine⟨by kernel_rfl,?_⟩;have K35:=Ae k35;have K5:=Ae k5;have B5:=Ae b5;have f16:=b5.frozen 16;have f17:=b5.frozen 17;have f18:=b5.frozen 18;have c16:=b5.z 16;have c17:=b5.z 17;have c18:=b5.z 18;clear m0 fm0 m1 fm1 m2 fm2 m3 fm3 m4 fm4 m5 fm5 hW5 k5 b5 k35 S4 S5 hE;go_wp2_with fail;refine rh_ (fun w'=>(w'.cell? (D 0)=some (.int .u8 t)∧w'.cell? (D 1)=some (.int .i64 i))) (SBK.out _ (K35.out.drew)) (fun hE=>?_);refine tk 0 hE ?_;refine tk 1 hE ?_;refine tk 2 hE ?_;refine tk 3 hE ?_;refine tk 4 hE ?_;refine tk 5 hE ?_;refine oN_ 6 (fun w'=>w'=W5.drew.setCell (b.F 16) (.int .i64 0)) ?t1c_g6 ?t1c_n6;case t1c_g6=>
       intro a' K Q ha hK;have e0:=te ha 102;have e1:=te ha 99;clear ha;go_simp;exact hK undef _ rfl
      case t1c_n6=>
      rintro w6 rfl;have S6:=SBK.out _ (K35.out.drew.trans (keeps_set (b:=b.F) (o:=16) (v:= .int .i64 0)) (fun j _ e=>e));refine⟨S6,?_⟩;refine tk 7 S6 ?_;refine tk 8 S6 ?_;refine oN_ 9 (fun w'=>w'=((W5.drew.setCell (b.F 16) (.int .i64 0)).setCell (b.F 17) (.int .u8 t)).setCell (b.F 18) (.int .i64 i)) ?t1c_g9 ?t1c_n9;case t1c_g9=>
       intro a' K Q ha hK;have e0:=te ha 104;have e1:=te ha 100;clear ha;go_simp;exact hK undef _ rfl
      case t1c_n9=>
      rintro w9 rfl;obtain⟨W9,hW9⟩:=ex (((W5.drew.setCell (b.F 16) (.int .i64 0)).setCell (b.F 17) (.int .u8 t)).setCell (b.F 18) (.int .i64 i));have k9:AD (fun j=>j=b.F) W5 W9:=by
       rw [<-hW9];exact(((AD.refl _ W5).drew.t (keeps_set _)).t (keeps_set _)).t (keeps_set _)
      have b9:AF W9 b.F 128 (Ir hb.H s { b with bb:=bb,cp:=cp } { y with wish:=Br y.wish t i,last:=0,at_:=0,kind:=t,ident:=i }):=by
       rw [<-hW9];exact((B5.out.drew.set 16 (.int .i64 0)).set 17 (.int .u8 t)).set 18 (.int .i64 i)
      rw [hW9];refine⟨SBK.out _ (K35.out.trans k9 fun j _ e=>e),?_⟩;refine⟨by kernel_rfl,?_⟩;have K9:=Ae k9;have B9:=Ae b9;clear hW9 k9 b9 S6 hE c16 c17 c18 f16 f17 f18;go_wp2;go_ret;have k49:=K5.out.trans K9.out fun j _ e=>e;have kw:=(K2.out.trans K3.out (fun j _ e=>e.elim)).trans ((K4.out.mono fun j e=>e.elim).trans k49 fun j _ e=>e) fun j _ e=>e;have nF:∀j,lab j= .obj 0->¬(fun j=>j=b.F) j:=fun j e c=>by
       have c:j=b.F:=c;rw [c,HF.out.lF] at e;cases e
      have zw:=K2.out.size;have z3:=K3.out.size;have lw:∀g j,g<2->j<3->lab (bb g j)= .obj 0:=fun g j hg hj=>HFR.out _ (by have:=(H4.out g j hg hj).2;omega);exact⟨bb,cp,rfl,kw,B9.out,HF.out.soc.keep kw (fun j hj=>nF _ (HF.out.lsoc j hj)),fun g j hg hj=>⟨(H4.out g j hg hj).1.keep k49 (nF _ (lw g j hg hj)),Nat.zero_le _⟩,HF.out.lF,HF.out.lsoc,lw⟩
end
def Ie (n k m:Nat):Nat:=if m<n∧(m<k∨n<m+1+k) then n - 1 - m else m
theorem Gk {b n cap:Nat} {f:Nat->Nat} (h:Row w b 3 n (fun i=> .int .i64 (f i:Int))) (h0:0<n) (hn:n<=1000):
 Calls prog 347 #[.slice b n cap] w fun e w'=>e= .returned (.tuple #[])∧AD (fun j=>j=b) w w'∧Row w' b 3 n (fun i=> .int .i64 (f (n - 1 - i):Int)):=by
 have H:=Ae h;clear h;go_in;go_wp2;go_loopw [2,3] (fun i j wr=>∃k q:Nat,k+q+1=n∧k<=q+1∧i= .int .i64 k∧j= .int .i64 q∧AD (fun j=>j=b) w wr∧Row wr b 3 n (fun m=> .int .i64 (f (Ie n k m):Int))) (fun i _ _=>n - (intOf i).toNat);case atStart=>
  refine⟨0,n - 1,by omega,by omega,rfl,?_,kx_,H.out.congr fun m hm=>by rw [Ie,if_neg (by omega)]⟩;rw [show((n - 1:Nat):Int)=(n:Int) - 1 by omega]
 case round=>
  obtain⟨k,q,hkq,hle,rfl,rfl,kw,rw_⟩:=hrel;have KW:=Ae kw;have RW:=Ae rw_;by_cases hlt:k<q
  . have ck:=rw_.cell (i:=k) (by omega);have cq:=rw_.cell (i:=q) (by omega);have ek:Ie n k k=k:=by rw [Ie,if_neg (by omega)]
    have eq:Ie n k q=q:=by rw [Ie,if_neg (by omega)]
    rw [ek] at ck;rw [eq] at cq;have fk:=rw_.frozen k;have fq:=rw_.frozen q;have hkn:k<n:=by omega
    have hqn:q<n:=by omega
    clear kw rw_ ek eq;have hb:=KW.out.size;go_wp2_with fail;refine rh_ (fun _=>True) trivial (fun hE=>?_);obtain⟨Y,hY⟩:=ex wr.drew;have yk:Y.cell? (b k)=some (.int .i64 (f k:Int)):=by rw [<-hY];exact ck
    have yq:Y.cell? (b q)=some (.int .i64 (f q:Int)):=by rw [<-hY];exact cq
    have gk:Y.frozen? (b k)=false:=by rw [<-hY];exact fk
    have gq:Y.frozen? (b q)=false:=by rw [<-hY];exact fq
    have KY:AG (AD (fun j=>j=b) w Y):=⟨by rw [<-hY];exact KW.out.drew⟩;have RY:AG (Row Y b 3 n (fun m=> .int .i64 (f (Ie n k m):Int))):=⟨by rw [<-hY];exact RW.out⟩;rw [hY];clear hY ck cq fk fq;refine tk 2 trivial ?_;refine tk 3 trivial ?_;change wpAnyH _ _ _ _ _ (([0,1,4,5,6,7,8,9,10,11]:List Nat).length+4) _ _ Y;refine wl_ [0,1,4,5,6,7,8,9,10,11] (fun i vals _=>vals i=([.slice b n cap, .int .i64 k,undef,undef, .slice b n cap, .int .i64 q, .pointer (some (b q)), .int .i64 (f q:Int), .slice b n cap, .int .i64 k, .pointer (some (b k)), .int .i64 (f k:Int)]:List Value).getD i undef) (fun w=>w=Y) (fun _ _ _=>True) rfl ?lstep ?lfin;case lstep=>
     intro i hi oo ho vals ρ w' hw hd hf;subst hw;simp only [m1,m0,or_false] at hi;rcases hi with rfl | rfl | rfl | rfl | rfl | rfl | rfl | rfl | rfl | rfl
     . cases ho;intro a' K Q ha hK;have e0:=th_ (.slice b n cap) ha hf 0;clear ha;go_simp;exact hK _ _ ⟨trivial,rfl,trivial,Ap⟩
     . cases ho;intro a' K Q ha hK;have e2:=th_ (.int .i64 k) ha hf 2;clear ha;go_simp;exact hK _ _ ⟨trivial,rfl,trivial,Ap⟩
     . cases ho;intro a' K Q ha hK;have e0:=th_ (.slice b n cap) ha hf 0;clear ha;go_simp;exact hK _ _ ⟨trivial,rfl,trivial,Ap⟩
     . cases ho;intro a' K Q ha hK;have e3:=th_ (.int .i64 q) ha hf 3;clear ha;go_simp;exact hK _ _ ⟨trivial,rfl,trivial,Ap⟩
     . cases ho;intro a' K Q ha hK;have e18:=td (.slice (some (b 0)) n cap) ha 18 (he_ hd 4);have e19:=td (.int .i64 (q:Int)) ha 19 (he_ hd 5);clear ha;go_simp;exact hK _ _ ⟨trivial,rfl,trivial,Ap⟩
     . cases ho;intro a' K Q ha hK;have e20:=td (.pointer (some (b q))) ha 20 (he_ hd 6);clear ha;go_simp;exact hK _ _ ⟨trivial,rfl,trivial,Ap⟩
     . cases ho;intro a' K Q ha hK;have e0:=th_ (.slice b n cap) ha hf 0;clear ha;go_simp;exact hK _ _ ⟨trivial,rfl,trivial,Ap⟩
     . cases ho;intro a' K Q ha hK;have e2:=th_ (.int .i64 k) ha hf 2;clear ha;go_simp;exact hK _ _ ⟨trivial,rfl,trivial,Ap⟩
     . cases ho;intro a' K Q ha hK;have e22:=td (.slice (some (b 0)) n cap) ha 22 (he_ hd 8);have e23:=td (.int .i64 (k:Int)) ha 23 (he_ hd 9);clear ha;go_simp;exact hK _ _ ⟨trivial,rfl,trivial,Ap⟩
     . cases ho;intro a' K Q ha hK;have e24:=td (.pointer (some (b k))) ha 24 (he_ hd 10);clear ha;go_simp;exact hK _ _ ⟨trivial,rfl,trivial,Ap⟩
    case lfin=>
    rintro vals w' hw hv;subst hw;have v0:=Jh hv 0;have v1:=Jh hv 1;have v4:=Jh hv 4;have v5:=Jh hv 5;have v6:=Jh hv 6;have v7:=Jh hv 7;have v8:=Jh hv 8;have v9:=Jh hv 9;have v10:=Jh hv 10;have v11:=Jh hv 11;clear hv;simp only [Am,AR,dstOf,De,Bl,Bk,CM,pu,s0,s1,if_true,v0,v1,v4,v5,v6,v7,v8,v9,v10,v11];clear v0 v1 v4 v5 v6 v7 v8 v9 v10 v11;refine tk 12 trivial ?_;have nkq:k≠q:=by omega
    refine oN_ 13 (fun w2=>w2=w'.setCell (b k) (.int .i64 (f q:Int))) ?sg13 ?sn13;case sg13=>
     intro a' K Q ha hK;have e26:=te ha 26;have e21:=te ha 21;clear ha;go_simp;exact hK undef _ rfl
    case sn13=>
    rintro w2 rfl;refine⟨trivial,?_⟩;refine tk 14 trivial ?_;refine oN_ 15 (fun w2=>w2=(w'.setCell (b k) (.int .i64 (f q:Int))).setCell (b q) (.int .i64 (f k:Int))) ?sg15 ?sn15;case sg15=>
     intro a' K Q ha hK;have e27:=te ha 27;have e25:=te ha 25;clear ha;go_simp;exact hK undef _ rfl
    case sn15=>
    rintro w2 rfl;refine⟨trivial,by kernel_rfl,?_⟩;go_wp2;go_roundw;case rel=>
     refine⟨k+1,q - 1,by omega,by omega,by go_num,?_,(KY.out.t (keeps_set _)).t (keeps_set _),((RY.out.set k _).set q _).congr fun m hm=>?_⟩
     . rw [show((q - 1:Nat):Int)=(q:Int) - 1 by omega]
     . by_cases e1:m=q
       . subst e1;rw [if_pos rfl,Ie,if_pos (by omega),show n - 1 - m=k by omega]
       . rw [if_neg e1];by_cases e2:m=k
         . subst e2;rw [if_pos rfl,Ie,if_pos (by omega),show n - 1 - m=q by omega]
         . rw [if_neg e2];have:Ie n k m=Ie n (k+1) m:=by
            unfold Ie;by_cases c:m<n∧(m<k∨n<m+1+k)
            . rw [if_pos c,if_pos (by omega)]
            . rw [if_neg c,if_neg (by omega)]
           rw [this]
    case measure=>simp [intOf];omega
  . clear kw rw_;go_wp2;go_end0;refine⟨rfl,KW.out,RW.out.congr fun m hm=>?_⟩;by_cases e:m<k∨n<m+1+k
    . rw [Ie,if_pos ⟨hm,e⟩]
    . rw [Ie,if_neg (by omega),show n - 1 - m=m by omega]
end Go.Proofs.YtpekoejdnhaohaaGreatDoor
