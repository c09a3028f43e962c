/- What the table denies, finds busy, decides and sets down. For every table in memory and one agent alone. -/
import Derived.Test.YtpekoejdnhaohaaGreatDoorH
import Derived.Test.YtpekoejdnhaohaaGreatDoorK
namespace Go.Proofs.YtpekoejdnhaohaaGreatDoor
open Go.RowKit Tryz
set_option maxRecDepth 100000
set_option maxHeartbeats 40000000
set_option linter.all false
variable {s:AE} {a:Act} {listed:Array Bool} {v:Bx} {t:Int} {l:List Nat} {B b c cap fuel i p q x:Nat} {f:Nat->Bool} {n:Nat->Nat} {bb cp:Nat->Nat->Nat} {wish:Nat->Nat->Nat->Bool} {o:Oper} {w w':World}
section
attribute [local go_sem] BI Fx
attribute [local go_sem] Kh UT
theorem I6 (h:DF w B bb (Ao s) wish) (k:AJ w w') (hb:AF w' b 120 (UT bb cp s)):JX w' b bb cp (Ao s) wish:=
 ⟨fun g j hg hj=>by
  match g,j,hg,hj with
  | 0,0,_,_=>exact hb.cell 0
  | 0,1,_,_=>exact hb.cell 1
  | 0,2,_,_=>exact hb.cell 2
  | 1,0,_,_=>exact hb.cell 3
  | 1,1,_,_=>exact hb.cell 4
  | 1,2,_,_=>exact hb.cell 5,fun g j hg hj=>(h g j hg hj).1.keep k id⟩
theorem JX.new (h:JX w b bb cp n wish) (k:AJ w w'):JX w' b bb cp n wish:=
 ⟨fun g j hg hj=>(k.cell (al22_ w _ (h.c g j hg hj)) id).trans (h.c g j hg hj),fun g j hg hj=>(h.r g j hg hj).keep k id⟩
section
variable {P:Program} {ops:Array Oper} {Q:Exit->Act->World->Prop} {md:Region.Mode} {S:World->Prop}
theorem Nk {d:Tmp} {C:Value->World->Prop} (ho:ops[i]?=some o) (hd:dstOf ops i=some d) (hw:Region.wanted o (yielded ops a.tmps)=true) (hr:Region.ready md ops listed=[i]) (g:Fi P o a.eval w C)
 (h:∀v w',C v w'->S w'∧wpAnyH P md ops Q S fuel (listed.setIfInBounds i true) (a.put (some d) v) w'):wpAnyH P md ops Q S (fuel+1) listed a w:=by
 refine⟨fun e=>(by rw [e] at hr;cases hr),fun j hj=>?_⟩;rw [hr] at hj;obtain rfl:=Dz.1 hj;have e:o.dst=some d:=by unfold dstOf at hd;rw [ho] at hd;exact hd
 unfold wpOp;rw [ho];simp only [hw,if_true];rw [<-e] at h;exact .inl (g.wp h)
end
theorem oA_ {P:Program} {ops:Array Oper} {Q:Exit->Act->World->Prop} {md:Region.Mode} {S:World->Prop} (i:Nat) (d:Tmp) (C:Value->World->Prop) (g:Fi P o a.eval w C) (h:∀v w',C v w'->S w'∧wpAnyH P md ops Q S fuel (listed.setIfInBounds i true) (a.put (some d) v) w') (ho:ops[i]?=some o:=by rfl) (hd:dstOf ops i=some d:=by rfl) (hw:Region.wanted o (yielded ops a.tmps)=true:=by kernel_rfl) (hr:Region.ready md ops listed=[i]:=by kernel_rfl):wpAnyH P md ops Q S (fuel+1) listed a w:=Nk ho hd hw hr g h
theorem I1 (s:AE):∀f c,(AU s f c).length<=f
 | 0,_=>al11_ _
 | f+1,c=>by
  unfold AU;simp only [Dy];split
  . simp
  . have:=I1 s f ((s.ck c).src 0);omega
theorem ints_chain {a:Option Addr} (h:w.ownsRow B 3 1 (.slice a l.length cap) l.length (Il l)):UJ w a l.length (fun j=>((l[j]?.getD 0:Nat):Int)):=by
 refine⟨fun hl=>?_⟩;rcases h.2 with⟨hv,h0⟩ | ⟨g,c,cur,hv,hb,hg,r⟩
 . omega
 . injection hv with e1 e2 e3;refine⟨g,0,e1,fun i hi=>?_⟩;have hx:(Il l)[i]?=some (.int .i64 ((l[i]?.getD 0:Nat):Int)):=by
    simp [Il,List.getElem?_eq_getElem hi]
   have:=World.ownsRow.cells h (g:=g) (by rw [e1];rfl) i _ hx;rw [Af] at this;exact this
theorem WG {i:Nat} (h:i ∉ l):false=decide (∃j,j<l.length∧((l[j]?.getD 0:Nat):Int)=(i:Int)):=by
 symm
 rw [decide_eq_false_iff_not];rintro⟨j,hj,e⟩;rw [List.getElem?_eq_getElem hj] at e;simp only [Option.getD_some] at e;exact h (by have q:l[j]=i:=(by omega);rw [<-q];exact List.getElem_mem hj)
theorem Sq (hs:s.Ok) (ha:A6 w v s) (hr:DF w 0 bb (Ao s) wish) (i:Nat) (hi:i<s.nd) (h1:wish 1 0 i=false) (h2:∀j,j<s.nd->(s.dm j).above=(i:Int)->(wish 0 0 j||wish 1 0 j)=false):
 Calls prog 198 #[.agg #[.slice v.cb s.nc v.cc, .slice v.db s.nd v.dc, .slice v.rb s.nr v.rc, .slice v.vb s.nv v.vc], .agg #[.slice (bb 0 0) s.nd (cp 0 0), .slice (bb 0 1) s.nc (cp 0 1), .slice (bb 0 2) s.nr (cp 0 2), .slice (bb 1 0) s.nd (cp 1 0), .slice (bb 1 1) s.nc (cp 1 1), .slice (bb 1 2) s.nr (cp 1 2)], .int .i64 0, .agg #[.int .u8 100, .int .i64 i]] w fun e w'=>e= .returned (.bool false)∧AJ w w':=by
 have n1:=hs.c2;have n2:=hs.d2;have n3:=hs.r2;have HS:=Ae hs;have HA:=Ae ha;have HR:=Ae hr;have H1:=Ae h1;have H2:=Ae h2;clear hs ha hr h1 h2;go_in;go_wp2_with fail;obtain⟨W0,hW0⟩:=ex (((w.alloc (.cells (BI v s) 30)).alloc (.cells (Kh bb cp s) 120)).alloc (.cells #[.int .u8 100, .int .i64 i] 126));have B0:BJ W0 w.heap.size s v:=by rw [<-hW0];exact((Aj (w:=w) s v).alloc _).alloc _
 have B1:AF W0 (w.heap.size+1) 120 (UT bb cp s):=by
  rw [<-hW0];have h:=(AF.new (w.alloc (.cells (BI v s) 30)) (UT bb cp s) 120).alloc (.cells #[.int .u8 100, .int .i64 i] 126);rw [Ay] at h;exact h
 have B2:AF W0 (w.heap.size+2) 126 [.int .u8 100, .int .i64 i]:=by
  rw [<-hW0];have h:=AF.new ((w.alloc (.cells (BI v s) 30)).alloc (.cells (Kh bb cp s) 120)) [.int .u8 100, .int .i64 i] 126;rw [Ay,Ay] at h;exact h
 have K0:AJ w W0:=by rw [<-hW0];exact(((nr w).alloc _).alloc _).alloc _
 rw [hW0];have WA:=Ae (I6 HR.out K0 B1);have s0:=B0.z 0;have s1:=B0.z 1;have a0:=B2.z 0;have a1:=B2.z 1;have B0K:=Ae B0;have B2K:=Ae B2;have K0K:=Ae K0;clear hW0 B0 B1 B2 K0;go_loopw [13] (fun j wr=>∃k:Nat,k<=2∧j= .int .i64 k∧wr=W0) (fun j _=>2 - (intOf j).toNat);case atStart=>exact⟨0,by omega,rfl,rfl⟩
 case round=>
  obtain⟨k,hk,rfl,rfl⟩:=hrel;by_cases hlt:k<2
  . rcases(show k=0∨k=1 by omega) with rfl | rfl
    . go_wp2;go_roundw;case rel=>exact⟨1,by omega,by go_num,by first | rfl | trivial⟩
      case measure=>simp [intOf]
    . go_wp2_with fail;refine mn_ (DO WA.out 1 (by omega) (t:=100) (by unfold EI;omega) i hi (by show s.nd<=1000;omega) (r:=false) H1.out) ?_;go_wp2;go_roundw;case rel=>exact⟨2,by omega,by go_num,by first | rfl | trivial⟩
      case measure=>simp [intOf]
  . have _ht:=True.intro;go_wp2_with fail;obtain⟨W1,rfl⟩:∃W1,W1=wr:=⟨_,rfl⟩;clear s0 s1;go_loopw [36] (fun j wr=>∃k:Nat,k<=s.nd∧j= .int .i64 k∧AJ W1 wr) (fun j _=>s.nd - (intOf j).toNat);case atStart=>exact⟨0,by omega,rfl,kx_⟩
    case round=>
     obtain⟨k,hk,rfl,kw⟩:=hrel;have KW:=Ae kw;by_cases hlt:k<s.nd
     . have R:=(HA.out.new K0K.out).new kw;have c0:wr.cell? (v.db (k*3))=some (.int .i64 (s.dm k).above):=R.dm.cell k 0 hlt (by omega);have c1:wr.cell? (v.db (k*3+1))=some (.int .i64 (s.dm k).delay):=R.dm.cell k 1 hlt (by omega);have c2:wr.cell? (v.db (k*3+2))=some (.bool (s.dm k).ret):=R.dm.cell k 2 hlt (by omega);have a0:=(B2K.out.keep kw id).z 0;have a1:=(B2K.out.keep kw id).z 1;have la:=(B2K.out.keep kw id).lt;by_cases hab:(s.dm k).above=(i:Int)
       . rw [hab] at c0;have HW:=Ae (H2.out k hlt hab);clear kw R;go_wp2_with fail;refine mn_ (Dr ((WA.out.new KW.out).new ((nr wr).alloc _)) (t:=100) (by unfold EI;omega) k hlt (by show s.nd<=1000;omega) (r:=false) HW.out) ?_;go_wp2;go_roundw;case rel=>exact⟨k+1,by omega,by go_num,KW.out.alloc _⟩
         case measure=>simp [intOf];omega
       . clear kw R;go_wp2;go_roundw;case rel=>exact⟨k+1,by omega,by go_num,KW.out.alloc _⟩
         case measure=>simp [intOf];omega
     . have ek:s.nd=k:=by omega
       clear kw;go_wp2;go_ret;exact⟨rfl,K0K.out.then_ KW.out⟩
theorem Sp (hs:s.Ok) (ha:A6 w v s) (hr:DF w 0 bb (Ao s) wish) (i:Nat) (hi:i<s.nd) (h1:wish 1 0 i=false) (h2:∀j,j<s.nd->(s.dm j).above=(i:Int)->(wish 0 0 j||wish 1 0 j)=false):
 Calls prog 198 #[.agg #[.slice v.cb s.nc v.cc, .slice v.db s.nd v.dc, .slice v.rb s.nr v.rc, .slice v.vb s.nv v.vc], .agg #[.slice (bb 0 0) s.nd (cp 0 0), .slice (bb 0 1) s.nc (cp 0 1), .slice (bb 0 2) s.nr (cp 0 2), .slice (bb 1 0) s.nd (cp 1 0), .slice (bb 1 1) s.nc (cp 1 1), .slice (bb 1 2) s.nr (cp 1 2)], .int .i64 0, .agg #[.int .u8 107, .int .i64 i]] w fun e w'=>e= .returned (.bool false)∧AJ w w':=by
 have n1:=hs.c2;have n2:=hs.d2;have n3:=hs.r2;have HS:=Ae hs;have HA:=Ae ha;have HR:=Ae hr;have H1:=Ae h1;have H2:=Ae h2;clear hs ha hr h1 h2;go_in;go_wp2_with fail;obtain⟨W0,hW0⟩:=ex (((w.alloc (.cells (BI v s) 30)).alloc (.cells (Kh bb cp s) 120)).alloc (.cells #[.int .u8 107, .int .i64 i] 126));have B0:BJ W0 w.heap.size s v:=by rw [<-hW0];exact((Aj (w:=w) s v).alloc _).alloc _
 have B1:AF W0 (w.heap.size+1) 120 (UT bb cp s):=by
  rw [<-hW0];have h:=(AF.new (w.alloc (.cells (BI v s) 30)) (UT bb cp s) 120).alloc (.cells #[.int .u8 107, .int .i64 i] 126);rw [Ay] at h;exact h
 have B2:AF W0 (w.heap.size+2) 126 [.int .u8 107, .int .i64 i]:=by
  rw [<-hW0];have h:=AF.new ((w.alloc (.cells (BI v s) 30)).alloc (.cells (Kh bb cp s) 120)) [.int .u8 107, .int .i64 i] 126;rw [Ay,Ay] at h;exact h
 have K0:AJ w W0:=by rw [<-hW0];exact(((nr w).alloc _).alloc _).alloc _
 rw [hW0];have WA:=Ae (I6 HR.out K0 B1);have s0:=B0.z 0;have s1:=B0.z 1;have a0:=B2.z 0;have a1:=B2.z 1;have B0K:=Ae B0;have B2K:=Ae B2;have K0K:=Ae K0;clear hW0 B0 B1 B2 K0;go_loopw [13] (fun j wr=>∃k:Nat,k<=2∧j= .int .i64 k∧wr=W0) (fun j _=>2 - (intOf j).toNat);case atStart=>exact⟨0,by omega,rfl,rfl⟩
 case round=>
  obtain⟨k,hk,rfl,rfl⟩:=hrel;by_cases hlt:k<2
  . rcases(show k=0∨k=1 by omega) with rfl | rfl
    . go_wp2;go_roundw;case rel=>exact⟨1,by omega,by go_num,by first | rfl | trivial⟩
      case measure=>simp [intOf]
    . go_wp2_with fail;refine mn_ (DO WA.out 1 (by omega) (t:=107) (by unfold EI;omega) i hi (by show s.nd<=1000;omega) (r:=false) H1.out) ?_;go_wp2;go_roundw;case rel=>exact⟨2,by omega,by go_num,by first | rfl | trivial⟩
      case measure=>simp [intOf]
  . have _ht:=True.intro;go_wp2_with fail;obtain⟨W1,rfl⟩:∃W1,W1=wr:=⟨_,rfl⟩;clear s0 s1;go_loopw [36] (fun j wr=>∃k:Nat,k<=s.nd∧j= .int .i64 k∧AJ W1 wr) (fun j _=>s.nd - (intOf j).toNat);case atStart=>exact⟨0,by omega,rfl,kx_⟩
    case round=>
     obtain⟨k,hk,rfl,kw⟩:=hrel;have KW:=Ae kw;by_cases hlt:k<s.nd
     . have R:=(HA.out.new K0K.out).new kw;have c0:wr.cell? (v.db (k*3))=some (.int .i64 (s.dm k).above):=R.dm.cell k 0 hlt (by omega);have c1:wr.cell? (v.db (k*3+1))=some (.int .i64 (s.dm k).delay):=R.dm.cell k 1 hlt (by omega);have c2:wr.cell? (v.db (k*3+2))=some (.bool (s.dm k).ret):=R.dm.cell k 2 hlt (by omega);have a0:=(B2K.out.keep kw id).z 0;have a1:=(B2K.out.keep kw id).z 1;have la:=(B2K.out.keep kw id).lt;by_cases hab:(s.dm k).above=(i:Int)
       . rw [hab] at c0;have HW:=Ae (H2.out k hlt hab);clear kw R;go_wp2_with fail;refine mn_ (Dr ((WA.out.new KW.out).new ((nr wr).alloc _)) (t:=107) (by unfold EI;omega) k hlt (by show s.nd<=1000;omega) (r:=false) HW.out) ?_;go_wp2;go_roundw;case rel=>exact⟨k+1,by omega,by go_num,KW.out.alloc _⟩
         case measure=>simp [intOf];omega
       . clear kw R;go_wp2;go_roundw;case rel=>exact⟨k+1,by omega,by go_num,KW.out.alloc _⟩
         case measure=>simp [intOf];omega
     . have ek:s.nd=k:=by omega
       clear kw;go_wp2;go_ret;exact⟨rfl,K0K.out.then_ KW.out⟩
theorem So (hs:s.Ok) (ha:A6 w v s) (hr:DF w 0 bb (Ao s) wish) (i:Nat) (hi:i<s.nc) (h1:wish 1 1 i=false) (h2:∀j,j<s.nc->j≠i->(wish 0 1 j||wish 1 1 j)=true->i ∉ AU s s.nc j):
 Calls prog 198 #[.agg #[.slice v.cb s.nc v.cc, .slice v.db s.nd v.dc, .slice v.rb s.nr v.rc, .slice v.vb s.nv v.vc], .agg #[.slice (bb 0 0) s.nd (cp 0 0), .slice (bb 0 1) s.nc (cp 0 1), .slice (bb 0 2) s.nr (cp 0 2), .slice (bb 1 0) s.nd (cp 1 0), .slice (bb 1 1) s.nc (cp 1 1), .slice (bb 1 2) s.nr (cp 1 2)], .int .i64 0, .agg #[.int .u8 111, .int .i64 i]] w fun e w'=>e= .returned (.bool false)∧AJ w w':=by
 have n1:=hs.c2;have n2:=hs.d2;have n3:=hs.r2;have HS:=Ae hs;have HA:=Ae ha;have HR:=Ae hr;have H1:=Ae h1;have H2:=Ae h2;clear hs ha hr h1 h2;go_in;go_wp2_with fail;obtain⟨W0,hW0⟩:=ex (((w.alloc (.cells (BI v s) 30)).alloc (.cells (Kh bb cp s) 120)).alloc (.cells #[.int .u8 111, .int .i64 i] 126));have B0:BJ W0 w.heap.size s v:=by rw [<-hW0];exact((Aj (w:=w) s v).alloc _).alloc _
 have B1:AF W0 (w.heap.size+1) 120 (UT bb cp s):=by
  rw [<-hW0];have h:=(AF.new (w.alloc (.cells (BI v s) 30)) (UT bb cp s) 120).alloc (.cells #[.int .u8 111, .int .i64 i] 126);rw [Ay] at h;exact h
 have B2:AF W0 (w.heap.size+2) 126 [.int .u8 111, .int .i64 i]:=by
  rw [<-hW0];have h:=AF.new ((w.alloc (.cells (BI v s) 30)).alloc (.cells (Kh bb cp s) 120)) [.int .u8 111, .int .i64 i] 126;rw [Ay,Ay] at h;exact h
 have K0:AJ w W0:=by rw [<-hW0];exact(((nr w).alloc _).alloc _).alloc _
 rw [hW0];have WA:=Ae (I6 HR.out K0 B1);have s0:=B0.z 0;have s1:=B0.z 1;have a0:=B2.z 0;have a1:=B2.z 1;have B0K:=Ae B0;have B2K:=Ae B2;have K0K:=Ae K0;clear hW0 B0 B1 B2 K0;go_loopw [13] (fun j wr=>∃k:Nat,k<=2∧j= .int .i64 k∧wr=W0) (fun j _=>2 - (intOf j).toNat);case atStart=>exact⟨0,by omega,rfl,rfl⟩
 case round=>
  obtain⟨k,hk,rfl,rfl⟩:=hrel;by_cases hlt:k<2
  . rcases(show k=0∨k=1 by omega) with rfl | rfl
    . go_wp2;go_roundw;case rel=>exact⟨1,by omega,by go_num,by first | rfl | trivial⟩
      case measure=>simp [intOf]
    . go_wp2_with fail;refine(DO WA.out 1 (by omega) (t:=111) (by unfold EI;omega) i hi (by show s.nc<=1000;omega) (r:=false) H1.out).mono ?_;rintro e w' ⟨rfl,rfl⟩;go_wp2;go_roundw;case rel=>exact⟨2,by omega,by go_num,by first | rfl | trivial⟩
      case measure=>simp [intOf]
  . have _ht:=True.intro;go_wp2_with fail;obtain⟨W1,rfl⟩:∃W1,W1=wr:=⟨_,rfl⟩;clear s0 s1;go_loopw [58] (fun j wr=>∃k:Nat,k<=s.nc∧j= .int .i64 k∧AJ W1 wr) (fun j _=>s.nc - (intOf j).toNat);case atStart=>exact⟨0,by omega,rfl,kx_⟩
    case round=>
     obtain⟨k,hk,rfl,kw⟩:=hrel;have KW:=Ae kw;by_cases hlt:k<s.nc
     . have c0:∀u:Dn wr,u.w.cell? (w.heap.size 0)=some (.slice v.cb s.nc v.cc):=fun u=>(B0K.out.keep (KW.out.then_ u.k) id).cell 0;have c1:∀u:Dn wr,u.w.cell? (w.heap.size 1)=some (.slice v.db s.nd v.dc):=fun u=>(B0K.out.keep (KW.out.then_ u.k) id).cell 1;have c2:∀u:Dn wr,u.w.cell? (w.heap.size 2)=some (.slice v.rb s.nr v.rc):=fun u=>(B0K.out.keep (KW.out.then_ u.k) id).cell 2;have c3:∀u:Dn wr,u.w.cell? (w.heap.size 3)=some (.slice v.vb s.nv v.vc):=fun u=>(B0K.out.keep (KW.out.then_ u.k) id).cell 3;have d0:∀u:Dn wr,u.w.cell? ((w.heap.size+1+1) 0)=some (.int .u8 111):=fun u=>(B2K.out.keep (KW.out.then_ u.k) id).cell 0;have d1:∀u:Dn wr,u.w.cell? ((w.heap.size+1+1) 1)=some (.int .i64 i):=fun u=>(B2K.out.keep (KW.out.then_ u.k) id).cell 1;clear a0 a1 kw;by_cases hki:k=i
       . subst hki;go_wp2_with fail;have SN:∀w',AJ wr w'->(AJ wr w'∧w'.cell? (w.heap.size 0)=some (.slice v.cb s.nc v.cc)∧w'.cell? (w.heap.size 1)=some (.slice v.db s.nd v.dc)∧w'.cell? (w.heap.size 2)=some (.slice v.rb s.nr v.rc)∧w'.cell? (w.heap.size 3)=some (.slice v.vb s.nv v.vc)∧w'.cell? ((w.heap.size+2) 0)=some (.int .u8 111)∧w'.cell? ((w.heap.size+2) 1)=some (.int .i64 k)):=fun w' kk=>⟨kk,c0 ⟨w',kk⟩,c1 ⟨w',kk⟩,c2 ⟨w',kk⟩,c3 ⟨w',kk⟩,d0 ⟨w',kk⟩,d1 ⟨w',kk⟩⟩;have SNK:=Ae SN;clear SN c0 c1 c2 c3 d0 d1;refine rh_ (fun w'=>(AJ wr w'∧w'.cell? (w.heap.size 0)=some (.slice v.cb s.nc v.cc)∧w'.cell? (w.heap.size 1)=some (.slice v.db s.nd v.dc)∧w'.cell? (w.heap.size 2)=some (.slice v.rb s.nr v.rc)∧w'.cell? (w.heap.size 3)=some (.slice v.vb s.nv v.vc)∧w'.cell? ((w.heap.size+2) 0)=some (.int .u8 111)∧w'.cell? ((w.heap.size+2) 1)=some (.int .i64 k))) (SNK.out _ (AD.refl _ wr).drew) (fun hE=>?_);refine tq 0 hE ?_;refine tq 1 hE ?_;refine tq 2 hE ?_;refine tq 3 (v:= .bool false) hE ?_;refine tq 4 hE ?_;refine tn 5 hE ?_;refine tn 6 hE ?_;refine tn 7 hE ?_;refine tn 8 hE ?_;refine tk 9 (v:= .bool false) hE ?_ (hy:=by intro oi ho;cases ho;refine Or.inl ⟨by kernel_rfl,?_⟩;intro w' hS;go_simp;(first | done | with_reducible rfl | rfl));refine tk 10 (v:= .bool false) hE ?_ (hy:=by intro oi ho;cases ho;refine Or.inl ⟨by kernel_rfl,?_⟩;intro w' hS;go_simp;(first | done | with_reducible rfl | rfl));refine tn 11 hE ?_;refine tn 12 hE ?_;refine tn 13 hE ?_;refine tn 14 hE ?_;refine tn 15 hE ?_;refine tn 16 hE ?_;refine tk 17 (v:= .bool false) hE ?_ (hy:=by intro oi ho;cases ho;refine Or.inl ⟨by kernel_rfl,?_⟩;intro w' hS;go_simp;(first | done | with_reducible rfl | rfl));refine⟨by kernel_rfl,?_⟩;clear hE;go_wp2;go_roundw;case rel=>exact⟨k+1,by omega,by go_num,KW.out.drew⟩
         case measure=>simp [intOf];omega
       . obtain⟨rr,hrr⟩:=ex (wish 0 1 k||wish 1 1 k);have HRR:=Ae hrr;have hki':¬(k:Int)=(i:Int):=by omega
         cases rr
         . clear hrr;go_wp2_with fail;have SN:∀w',AJ wr w'->(AJ wr w'∧w'.cell? (w.heap.size 0)=some (.slice v.cb s.nc v.cc)∧w'.cell? (w.heap.size 1)=some (.slice v.db s.nd v.dc)∧w'.cell? (w.heap.size 2)=some (.slice v.rb s.nr v.rc)∧w'.cell? (w.heap.size 3)=some (.slice v.vb s.nv v.vc)∧w'.cell? ((w.heap.size+2) 0)=some (.int .u8 111)∧w'.cell? ((w.heap.size+2) 1)=some (.int .i64 i)):=fun w' kk=>⟨kk,c0 ⟨w',kk⟩,c1 ⟨w',kk⟩,c2 ⟨w',kk⟩,c3 ⟨w',kk⟩,d0 ⟨w',kk⟩,d1 ⟨w',kk⟩⟩;have SNK:=Ae SN;clear SN c0 c1 c2 c3 d0 d1;refine rh_ (fun w'=>(AJ wr w'∧w'.cell? (w.heap.size 0)=some (.slice v.cb s.nc v.cc)∧w'.cell? (w.heap.size 1)=some (.slice v.db s.nd v.dc)∧w'.cell? (w.heap.size 2)=some (.slice v.rb s.nr v.rc)∧w'.cell? (w.heap.size 3)=some (.slice v.vb s.nv v.vc)∧w'.cell? ((w.heap.size+2) 0)=some (.int .u8 111)∧w'.cell? ((w.heap.size+2) 1)=some (.int .i64 i))) (SNK.out _ (AD.refl _ wr).drew) (fun hE=>?_);refine tq 0 hE ?_;refine tq 1 hE ?_;refine tq 2 hE ?_;refine tq 3 (v:= .bool true) hE ?_;refine tq 4 hE ?_;refine tq 5 hE ?_;refine tq 6 hE ?_;refine tq 7 hE ?_;refine oA_ 8 69 (fun u w'=>u= .bool false∧w'=wr.drew) ?bg8 ?bn8;case bg8=>
            intro a' K Q ha hK;have e0:=te ha 5;have e1:=te ha 67;have e2:=te ha 68;clear ha;go_simp;refine mn_ (Dr ((WA.out.new KW.out).new (AD.refl _ wr).drew) (t:=111) (by unfold EI;omega) k hlt (by show s.nc<=1000;omega) (r:=false) HRR.out) ?_;exact hK _ _ ⟨rfl,rfl⟩
           case bn8=>
           rintro u1 w8 ⟨rfl,rfl⟩;refine⟨hE,?_⟩;simp only [pu,s0,s1];refine tk 9 (v:= .bool false) hE ?_ (hy:=by intro oi ho;cases ho;refine Or.inl ⟨by kernel_rfl,?_⟩;intro w' hS;go_simp;(first | done | with_reducible rfl | rfl));refine tk 10 (v:= .bool false) hE ?_ (hy:=by intro oi ho;cases ho;refine Or.inl ⟨by kernel_rfl,?_⟩;intro w' hS;go_simp;(first | done | with_reducible rfl | rfl));refine tn 11 hE ?_;refine tn 12 hE ?_;refine tn 13 hE ?_;refine tn 14 hE ?_;refine tn 15 hE ?_;refine tn 16 hE ?_;refine tk 17 (v:= .bool false) hE ?_ (hy:=by intro oi ho;cases ho;refine Or.inl ⟨by kernel_rfl,?_⟩;intro w' hS;go_simp;(first | done | with_reducible rfl | rfl));refine⟨by kernel_rfl,?_⟩;clear hE;go_wp2;go_roundw;case rel=>exact⟨k+1,by omega,by go_num,KW.out.drew⟩
           case measure=>simp [intOf];omega
         . have NI:=Ae (H2.out k hlt hki hrr);clear hrr;go_wp2_with fail;have SN:∀w',AJ wr w'->(AJ wr w'∧w'.cell? (w.heap.size 0)=some (.slice v.cb s.nc v.cc)∧w'.cell? (w.heap.size 1)=some (.slice v.db s.nd v.dc)∧w'.cell? (w.heap.size 2)=some (.slice v.rb s.nr v.rc)∧w'.cell? (w.heap.size 3)=some (.slice v.vb s.nv v.vc)∧w'.cell? ((w.heap.size+2) 0)=some (.int .u8 111)∧w'.cell? ((w.heap.size+2) 1)=some (.int .i64 i)):=fun w' kk=>⟨kk,c0 ⟨w',kk⟩,c1 ⟨w',kk⟩,c2 ⟨w',kk⟩,c3 ⟨w',kk⟩,d0 ⟨w',kk⟩,d1 ⟨w',kk⟩⟩;have SNK:=Ae SN;clear SN c0 c1 c2 c3 d0 d1;refine rh_ (fun w'=>(AJ wr w'∧w'.cell? (w.heap.size 0)=some (.slice v.cb s.nc v.cc)∧w'.cell? (w.heap.size 1)=some (.slice v.db s.nd v.dc)∧w'.cell? (w.heap.size 2)=some (.slice v.rb s.nr v.rc)∧w'.cell? (w.heap.size 3)=some (.slice v.vb s.nv v.vc)∧w'.cell? ((w.heap.size+2) 0)=some (.int .u8 111)∧w'.cell? ((w.heap.size+2) 1)=some (.int .i64 i))) (SNK.out _ (AD.refl _ wr).drew) (fun hE=>?_);refine tq 0 hE ?_;refine tq 1 hE ?_;refine tq 2 hE ?_;refine tq 3 (v:= .bool true) hE ?_;refine tq 4 hE ?_;refine tq 5 hE ?_;refine tq 6 hE ?_;refine tq 7 hE ?_;refine oA_ 8 69 (fun u w'=>u= .bool true∧w'=wr.drew) ?g8 ?n8;case g8=>
            intro a' K Q ha hK;have e0:=te ha 5;have e1:=te ha 67;have e2:=te ha 68;clear ha;go_simp;refine(Dr ((WA.out.new KW.out).new (AD.refl _ wr).drew) (t:=111) (by unfold EI;omega) k hlt (by show s.nc<=1000;omega) (r:=true) HRR.out).mono ?_;rintro e w' ⟨rfl,rfl⟩;exact hK _ _ ⟨rfl,rfl⟩
           case n8=>
           rintro u1 w8 ⟨rfl,rfl⟩;refine⟨hE,?_⟩;simp only [pu,s0,s1];refine tq 9 (v:= .bool true) hE ?_;refine tq 10 hE ?_;refine tq 11 hE ?_;refine tq 12 hE ?_;refine tq 14 hE ?_;refine tq 15 hE ?_;refine oA_ 13 74 (fun u w'=>∃a m cap f,u= .slice a m cap∧AJ wr w'∧AG (UJ w' a m f∧m<=1000∧false=decide (∃j,j<m∧f j=(i:Int)))) ?g13 ?n13;case g13=>
            intro a' K Q ha hK;have e0:=te ha 72;have e1:=te ha 73;clear ha;go_simp;refine(Gh HS.out ((HA.out.new (K0K.out.then_ KW.out)).new (AD.refl _ wr).drew) k hlt).mono ?_;rintro e w' ⟨a,cap,rfl,k2,o2⟩;exact hK _ _ ⟨a,_,cap,_,rfl,((AD.refl _ wr).drew).then_ k2,⟨⟨ints_chain o2,by have:=I1 s s.nc k;omega,WG NI.out⟩⟩⟩
           case n13=>
           rintro u2 w9 ⟨a,m,cap,f,rfl,k9,IL⟩;have S9:=SNK.out w9 k9;refine⟨S9,?_⟩;simp only [pu,s0,s1];have K9:=Ae k9;clear k9;refine oA_ 16 77 (fun u w'=>u= .bool false∧w'=w9) ?g16 ?n16;case g16=>
            intro a' K Q ha hK;have e0:=te ha 74;have e1:=te ha 76;clear ha;go_simp;refine mn_ (Q7 _ _ _ f (i:Int) w9 IL.out.1 IL.out.2.1 (b:=false) IL.out.2.2) ?_;exact hK _ _ ⟨rfl,rfl⟩
           case n16=>
           rintro u3 w10 ⟨rfl,rfl⟩;refine⟨S9,?_⟩;simp only [pu,s0,s1];refine tk 17 (v:= .bool false) S9 ?_ (hy:=by intro oi ho;cases ho;refine Or.inl ⟨by kernel_rfl,?_⟩;intro w' hS;go_simp;(first | done | with_reducible rfl | rfl));refine⟨by kernel_rfl,?_⟩;clear S9 hE;go_wp2;go_roundw;case rel=>exact⟨k+1,by omega,by go_num,KW.out.then_ K9.out⟩
           case measure=>simp [intOf];omega
     . have ek:s.nc=k:=by omega
       clear kw;go_wp2;go_ret;exact⟨rfl,K0K.out.then_ KW.out⟩
end
section
attribute [local go_sem] BI Fx
theorem WL (hs:s.Ok) (ha:A6 w v s) (hq:w.rowIs q 3 s.nv (fun _=> .int .i64 0)) (t:Int) (i:Nat):
 Calls prog 199 #[.agg #[.slice v.cb s.nc v.cc, .slice v.db s.nd v.dc, .slice v.rb s.nr v.rc, .slice v.vb s.nv v.vc], .slice q s.nv cap, .agg #[.int .u8 t, .int .i64 i]] w fun e w'=>e= .returned (.bool false)∧AJ w w':=by
 have n1:=hs.v2;have HA:=Ae ha;have HQ:=Ae hq;clear hs ha hq;go_in;go_wp2_with fail;obtain⟨W0,hW0⟩:=ex ((w.alloc (.cells (BI v s) 30)).alloc (.cells #[.int .u8 t, .int .i64 i] 126));have K0:AJ w W0:=by rw [<-hW0];exact((nr w).alloc _).alloc _
 rw [hW0];have K0K:=Ae K0;clear hW0 K0;go_loopw [12] (fun j wr=>∃k:Nat,k<=s.nv∧j= .int .i64 k∧AJ W0 wr) (fun j _=>s.nv - (intOf j).toNat);case atStart=>exact⟨0,by omega,rfl,kx_⟩
 case round=>
  obtain⟨k,hk,rfl,kw⟩:=hrel;have KW:=Ae kw;by_cases hlt:k<s.nv
  . have R:=HA.out.new (K0K.out.then_ kw);have c0:wr.cell? (v.vb (k*6))=some (.int .i64 ((s.dv k).clock:Int)):=R.dv.cell k 0 hlt (by omega);have c1:wr.cell? (v.vb (k*6+1))=some (.int .i64 ((s.dv k).dom:Int)):=R.dv.cell k 1 hlt (by omega);have c2:wr.cell? (v.vb (k*6+2))=some (.int .i64 ((s.dv k).line:Int)):=R.dv.cell k 2 hlt (by omega);have c3:wr.cell? (v.vb (k*6+3))=some (.int .u32 (s.dv k).clamp):=R.dv.cell k 3 hlt (by omega);obtain⟨ao,rc,er⟩:=AO (v.gb k) (s.dv k).nreg (v.gc k);obtain⟨ao2,rc2,er2⟩:=AO (v.qb k) (s.dv k).nneed (v.qc k);have c4:wr.cell? (v.vb (k*6+4))=some (.slice ao (s.dv k).nreg rc):=(R.dv.cell k 4 hlt (by omega)).trans (congrArg some er);have c5:wr.cell? (v.vb (k*6+5))=some (.slice ao2 (s.dv k).nneed rc2):=(R.dv.cell k 5 hlt (by omega)).trans (congrArg some er2);have hq:=rowIs_keep HQ.out (K0K.out.then_ kw) id;have q0:wr.cell? (q k)=some (.int .i64 0):=hq.cell hlt;have lq:q<wr.heap.size:=hq.lt;clear R er er2 kw hq;go_wp2;go_roundw;case rel=>exact⟨k+1,by omega,by go_num,KW.out.alloc _⟩
    case measure=>simp [intOf];omega
  . clear kw;have ek:s.nv=k:=by omega
    go_wp2;go_ret;exact⟨rfl,K0K.out.then_ KW.out⟩
end
section
attribute [local go_sem] BI Fx
attribute [local go_sem] Kh UT
theorem GN (h:DF w B bb n wish) (k:AJ w w'):DF w' B bb n wish:=
 fun g j hg hj=>⟨(h g j hg hj).1.keep k id,(h g j hg hj).2⟩
structure Qz (s:AE) (wish:Nat->Nat->Nat->Bool) (t:Int) (i:Nat):Prop where
 h0:wish 0 (Ft t) i=!Wh t
 up:t=117->(s.dm i).above= -1∨∃up:Nat,up<s.nd∧(s.dm i).above=(up:Int)∧(wish 0 0 up||wish 1 0 up)=true
 pow:t=100∨t=107->wish 1 0 i=false∧∀j,j<s.nd->(s.dm j).above=(i:Int)->(wish 0 0 j||wish 1 0 j)=false
 clk:t=111->wish 1 1 i=false∧∀j,j<s.nc->j≠i->(wish 0 1 j||wish 1 1 j)=true->i ∉ AU s s.nc j
theorem DG.kind (h:DG s p x i t):EI t:=by
 unfold EI;rcases h with h | h | h | h | h | h <;> omega
theorem DG.lt (h:DG s p x i t):i<Ao s (Ft t):=by
 rcases h with⟨_,h,_,rfl⟩ | ⟨_,h,_,rfl⟩ | ⟨_,h,_,rfl,_⟩ | ⟨_,h,_,_,rfl⟩ | ⟨_,h,_,_,rfl⟩ | ⟨_,h,_,rfl⟩ <;> exact h
theorem Nr (hs:s.Ok) (ha:A6 w v s) (hr:DF w 0 bb (Ao s) wish) {tok:Nat} (st:DG s p x i t) (htok:tok<=1023) (hw:An w b p tok i x) {qc:Nat} (hq:w.rowIs q 3 s.nv (fun _=> .int .i64 0)) (hc:Qz s wish t i):
 Calls prog 140 #[.agg #[.slice v.cb s.nc v.cc, .slice v.db s.nd v.dc, .slice v.rb s.nr v.rc, .slice v.vb s.nv v.vc], .agg #[.slice (bb 0 0) s.nd (cp 0 0), .slice (bb 0 1) s.nc (cp 0 1), .slice (bb 0 2) s.nr (cp 0 2), .slice (bb 1 0) s.nd (cp 1 0), .slice (bb 1 1) s.nc (cp 1 1), .slice (bb 1 2) s.nr (cp 1 2)], .slice q s.nv qc, .int .i64 0, .slice b 3 cap] w fun e w'=>e= .returned (.tuple #[.int .i32 0, .agg #[.int .u8 t, .int .i64 i]])∧AJ w w':=by
 have n1:=hs.c2;have n2:=hs.d2;have n3:=hs.r2;have HI:=Ae st.lt;have HT:=Ae st.kind;have h0t:¬t=0:=by have:=st.kind;unfold EI at this;omega
 have h0t':(t==0)=false:=by simpa using h0t
 have HN:AG (Ao s (Ft t)<=1000):=⟨by
  rcases st.kind with rfl | rfl | rfl | rfl | rfl | rfl <;> first | (show s.nd<=1000;omega) | (show s.nc<=1000;omega) | (show s.nr<=1000;omega)⟩
 have HDEN:AG (Wh t=false->∀W,AJ w W->Calls prog 198 #[.agg #[.slice v.cb s.nc v.cc, .slice v.db s.nd v.dc, .slice v.rb s.nr v.rc, .slice v.vb s.nv v.vc], .agg #[.slice (bb 0 0) s.nd (cp 0 0), .slice (bb 0 1) s.nc (cp 0 1), .slice (bb 0 2) s.nr (cp 0 2), .slice (bb 1 0) s.nd (cp 1 0), .slice (bb 1 1) s.nc (cp 1 1), .slice (bb 1 2) s.nr (cp 1 2)], .int .i64 0, .agg #[.int .u8 t, .int .i64 i]] W fun e w'=>e= .returned (.bool false)∧AJ W w'):=⟨fun ho W k=>by
  rcases st with⟨rfl,hi,rfl,rfl⟩ | ⟨rfl,hi,rfl,rfl⟩ | ⟨rfl,hi,rfl,rfl,_⟩ | ⟨rfl,hi,_,rfl,rfl⟩ | ⟨rfl,hi,_,rfl,rfl⟩ | ⟨rfl,hi,rfl,rfl⟩
  . exact Sq hs (ha.new k) (GN hr k) i hi (hc.pow (by omega)).1 (hc.pow (by omega)).2
  . cases ho
  . exact Sp hs (ha.new k) (GN hr k) i hi (hc.pow (by omega)).1 (hc.pow (by omega)).2
  . exact So hs (ha.new k) (GN hr k) i hi (hc.clk rfl).1 (hc.clk rfl).2
  . cases ho
  . cases ho⟩
 have HS:=Ae hs;have HA:=Ae ha;have HR:=Ae hr;have ST:=Ae st;have HW:=Ae hw;have HQ:=Ae hq;have H0:=Ae hc.h0;have H1:=Ae hc.up;have HD:AG (t=117->i<s.nd):=⟨by rcases st with h | h | h | h | h | h <;> omega⟩;clear hs ha hr st hw hq hc;go_in;go_wp2_with fail;obtain⟨W0,hW0⟩:=ex (((w.alloc (.cells (BI v s) 30)).alloc (.cells (Kh bb cp s) 120)).alloc (.cells #[.int .u8 0, .int .i64 0] 126));have B0:BJ W0 w.heap.size s v:=by rw [<-hW0];exact((Aj (w:=w) s v).alloc _).alloc _
 have B1:AF W0 (w.heap.size+1) 120 (UT bb cp s):=by
  rw [<-hW0];have h:=(AF.new (w.alloc (.cells (BI v s) 30)) (UT bb cp s) 120).alloc (.cells #[.int .u8 0, .int .i64 0] 126);rw [Ay] at h;exact h
 have B2:AF W0 (w.heap.size+1+1) 126 [.int .u8 0, .int .i64 0]:=by
  rw [<-hW0];have h:=AF.new ((w.alloc (.cells (BI v s) 30)).alloc (.cells (Kh bb cp s) 120)) [.int .u8 0, .int .i64 0] 126;rw [Ay,Ay] at h;exact h
 have K0:AJ w W0:=by rw [<-hW0];exact(((nr w).alloc _).alloc _).alloc _
 rw [hW0];have WA:=Ae (I6 HR.out K0 B1);have B0K:=Ae B0;have B2K:=Ae B2;have K0K:=Ae K0;clear hW0 B0 B1 B2 K0;refine(CP HS.out (HA.out.new K0K.out)).mono ?_;rintro z' W1 ⟨rfl,k1⟩;have K1:=Ae (K0K.out.then_ k1);have WA1:=Ae (WA.out.new k1);have B01:=Ae (B0K.out.keep k1 id);have B21:=Ae (B2K.out.keep k1 id);have s0:=B01.out.z 0;have s1:=B01.out.z 1;have s2:=B01.out.z 2;have s3:=B01.out.z 3;clear k1 WA B0K B2K;go_wp2_with fail;refine(Re HS.out (HA.out.new K1.out) ST.out htok (HW.out.keep K1.out id)).mono ?_;rintro z' W2 ⟨rfl,k2⟩;have K2:=Ae (K1.out.then_ k2);have WA2:=Ae (WA1.out.new k2);have B02:=Ae (B01.out.keep k2 id);have B22:=Ae (B21.out.keep k2 id);clear k2 s0 s1 s2 s3 WA1 B01 B21;go_wp2_with fail;obtain⟨D,hD⟩:=ex W2.heap.size;obtain⟨W3,hW3⟩:=ex (W2.alloc (.cells #[.int .u8 t, .int .i64 i] 126));have BD:AF W3 D 126 [.int .u8 t, .int .i64 i]:=by rw [<-hW3, <-hD];exact AF.new _ _ _
 have k3:AJ W2 W3:=by rw [<-hW3];exact(kx_).alloc _
 rw [hW3,hD];have K3:=Ae (K2.out.then_ k3);have WA3:=Ae (WA2.out.new k3);have B03:=Ae (B02.out.keep k3 id);have B23:=Ae (B22.out.keep k3 id);have BDK:=Ae BD;have hDl:w.heap.size+1+1<D:=by rw [<-hD];exact B22.out.lt
 have d0:=BD.z 0;have d1:=BD.z 1;clear hW3 hD BD k3 WA2 B02 B22;obtain⟨o,ho⟩:=ex (Wh t);have TO:AG (∀W,Calls prog 196 #[.int .u8 t] W fun e w'=>e= .returned (.bool o)∧w'=W):=⟨fun W=>by rw [<-ho];exact PX HT.out W⟩;rw [ho] at H0 HDEN;clear ho;cases o
 . simp only [Bool.not_false] at H0;replace HDEN:=Ae (HDEN.out rfl)
   go_quiet (first
    | (go_at_call 195;exact Calls.quiet_of_same (DO (WA3.out.new ((nr W3).drewN _)) 0 (by omega) HT.out i HI.out HN.out H0.out))
    | (go_at_call 196;exact Calls.quiet_of_same (TO.out (W3.drewN _))))
   obtain⟨W4,hW4⟩:=ex (W3.drewN nq);have k4:AJ W3 W4:=by rw [<-hW4];exact(kx_).drewN _
   rw [hW4];have K4:=Ae (K3.out.then_ k4);have WA4:=Ae (WA3.out.new k4);have B04:=Ae (B03.out.keep k4 id);have B24:=Ae (B23.out.keep k4 id);have BD4:=Ae (BDK.out.keep k4 id);have d0:=BD4.out.z 0;have d1:=BD4.out.z 1;clear hW4 k4 WA3 B03 B23 BDK;go_wp2_with fail;refine(TO.out W4).mono ?_;rintro z' w' ⟨rfl,rfl⟩;have s0:=B04.out.z 0;have s1:=B04.out.z 1;have s2:=B04.out.z 2;have s3:=B04.out.z 3;have c0:=WA4.out.c 0 0 (by omega) (by omega);have c1:=WA4.out.c 0 1 (by omega) (by omega);have c2:=WA4.out.c 0 2 (by omega) (by omega);have c3:=WA4.out.c 1 0 (by omega) (by omega);have c4:=WA4.out.c 1 1 (by omega) (by omega);have c5:=WA4.out.c 1 2 (by omega) (by omega);simp only [Nat.zero_mul,Nat.one_mul,Ag,Nat.reduceAdd,Ao] at c0 c1 c2 c3 c4 c5;go_wp2_with fail;refine(HDEN.out _ K4.out).mono ?_;rintro z' W5 ⟨rfl,k5⟩;have K5:=Ae (K4.out.then_ k5);have B05:=Ae (B04.out.keep k5 id);have B25:=Ae (B24.out.keep k5 id);have BD5:=Ae (BD4.out.keep k5 id);have d0:=BD5.out.z 0;have d1:=BD5.out.z 1;have s0:=B05.out.z 0;have s1:=B05.out.z 1;have s2:=B05.out.z 2;have s3:=B05.out.z 3;clear k5 c0 c1 c2 c3 c4 c5 WA4 B04 B24 BD4;go_wp2_with fail;refine(WL HS.out (HA.out.new K5.out) (rowIs_keep HQ.out K5.out id) t i).mono ?_;rintro z' W6 ⟨rfl,k6⟩;have K6:=Ae (K5.out.then_ k6);have B26:=Ae (B25.out.keep k6 id);have BD6:=Ae (BD5.out.keep k6 id);have d0:=BD6.out.z 0;have d1:=BD6.out.z 1;clear k6 s0 s1 s2 s3;go_wp2_with fail;have e0:=B26.out.z 0;have e1:=B26.out.z 1;have fe0:=B26.out.frozen 0;have fe1:=B26.out.frozen 1;go_region;go_wp2_with fail;obtain⟨W9,hW9⟩:=ex (((W6.setCell ((w.heap.size+1+1) 0) (.int .u8 t)).setCell ((w.heap.size+1+1) 1) (.int .i64 i)).drew);have bw:AF W9 (w.heap.size+1+1) 126 [.int .u8 t, .int .i64 i]:=by
    rw [<-hW9];exact((B26.out.set 0 (.int .u8 t)).set 1 (.int .i64 i)).drew
   have k9:AJ w W9:=by
    rw [<-hW9];exact(K6.out.trans ((keeps_set _).t (keeps_set _)) (fun j hj (e:j=w.heap.size+1+1)=>by omega)).drew
   rw [hW9];have y0:=bw.z 0;have y1:=bw.z 1;refine bodyPost_ret (v:= .tuple #[.int .i32 0, .agg #[.int .u8 t, .int .i64 i]]) ?_ rfl ⟨rfl,k9⟩;simp [results,results140,go_sem,y0,y1]
 . simp only [Bool.not_true] at H0
   go_quiet (first
    | (go_at_call 195;exact Calls.quiet_of_same (DO (WA3.out.new ((nr W3).drewN _)) 0 (by omega) HT.out i HI.out HN.out H0.out))
    | (go_at_call 196;exact Calls.quiet_of_same (TO.out (W3.drewN _))))
   obtain⟨W4,hW4⟩:=ex (W3.drewN nq);have k4:AJ W3 W4:=by rw [<-hW4];exact(kx_).drewN _
   rw [hW4];have K4:=Ae (K3.out.then_ k4);have WA4:=Ae (WA3.out.new k4);have B04:=Ae (B03.out.keep k4 id);have B24:=Ae (B23.out.keep k4 id);have BD4:=Ae (BDK.out.keep k4 id);have d0:=BD4.out.z 0;have d1:=BD4.out.z 1;clear hW4 k4 WA3 B03 B23 BDK;go_wp2_with fail;refine(TO.out W4).mono ?_;rintro z' w' ⟨rfl,rfl⟩;by_cases h7:t=117
   . subst h7;have hi:=HD.out rfl;have hs1:=cv_ (.slice (some (v.db 0)) s.nd v.dc) (B04.out.cell 1);have hab:w'.cell? (v.db (i*3))=some (.int .i64 (s.dm i).above):=(HA.out.new K4.out).dm.cell i 0 hi (by omega);rcases H1.out rfl with ha | ⟨up,hup,ha,hwu⟩
     . rw [ha] at hab;go_wp2_with fail;have e0:=B24.out.z 0;have e1:=B24.out.z 1;have fe0:=B24.out.frozen 0;have fe1:=B24.out.frozen 1;go_region;go_wp2_with fail;obtain⟨W9,hW9⟩:=ex (((w'.setCell ((w.heap.size+1+1) 0) (.int .u8 117)).setCell ((w.heap.size+1+1) 1) (.int .i64 i)).drew);have bw:AF W9 (w.heap.size+1+1) 126 [.int .u8 117, .int .i64 i]:=by
        rw [<-hW9];exact((B24.out.set 0 (.int .u8 117)).set 1 (.int .i64 i)).drew
       have k9:AJ w W9:=by
        rw [<-hW9];exact(K4.out.trans ((keeps_set _).t (keeps_set _)) (fun j hj (e:j=w.heap.size+1+1)=>by omega)).drew
       rw [hW9];have y0:=bw.z 0;have y1:=bw.z 1;refine bodyPost_ret (v:= .tuple #[.int .i32 0, .agg #[.int .u8 117, .int .i64 i]]) ?_ rfl ⟨rfl,k9⟩;simp [results,results140,go_sem,y0,y1]
     . rw [ha] at hab;have hup1:¬(up:Int)= -1:=by omega
       have HWU:=Ae hwu;clear ha hwu;go_wp2_with fail;refine(Dr WA4.out (t:=117) (by unfold EI;omega) up hup (by show s.nd<=1000;omega) (r:=true) HWU.out).mono ?_;rintro z' w'' ⟨rfl,rfl⟩;go_wp2_with fail;have e0:=B24.out.z 0;have e1:=B24.out.z 1;have fe0:=B24.out.frozen 0;have fe1:=B24.out.frozen 1;go_region;go_wp2_with fail;obtain⟨W9,hW9⟩:=ex (((w''.setCell ((w.heap.size+1+1) 0) (.int .u8 117)).setCell ((w.heap.size+1+1) 1) (.int .i64 i)).drew);have bw:AF W9 (w.heap.size+1+1) 126 [.int .u8 117, .int .i64 i]:=by
        rw [<-hW9];exact((B24.out.set 0 (.int .u8 117)).set 1 (.int .i64 i)).drew
       have k9:AJ w W9:=by
        rw [<-hW9];exact(K4.out.trans ((keeps_set _).t (keeps_set _)) (fun j hj (e:j=w.heap.size+1+1)=>by omega)).drew
       rw [hW9];have y0:=bw.z 0;have y1:=bw.z 1;refine bodyPost_ret (v:= .tuple #[.int .i32 0, .agg #[.int .u8 117, .int .i64 i]]) ?_ rfl ⟨rfl,k9⟩;simp [results,results140,go_sem,y0,y1]
   . clear H1 HD;go_wp2_with fail;have e0:=B24.out.z 0;have e1:=B24.out.z 1;have fe0:=B24.out.frozen 0;have fe1:=B24.out.frozen 1;go_region;go_wp2_with fail;obtain⟨W9,hW9⟩:=ex (((w'.setCell ((w.heap.size+1+1) 0) (.int .u8 t)).setCell ((w.heap.size+1+1) 1) (.int .i64 i)).drew);have bw:AF W9 (w.heap.size+1+1) 126 [.int .u8 t, .int .i64 i]:=by
      rw [<-hW9];exact((B24.out.set 0 (.int .u8 t)).set 1 (.int .i64 i)).drew
     have k9:AJ w W9:=by
      rw [<-hW9];exact(K4.out.trans ((keeps_set _).t (keeps_set _)) (fun j hj (e:j=w.heap.size+1+1)=>by omega)).drew
     rw [hW9];have y0:=bw.z 0;have y1:=bw.z 1;refine bodyPost_ret (v:= .tuple #[.int .i32 0, .agg #[.int .u8 t, .int .i64 i]]) ?_ rfl ⟨rfl,k9⟩;simp [results,results140,go_sem,y0,y1]
end
section
attribute [local go_sem] Kh UT
def Br (wish:Nat->Nat->Nat->Bool) (t:Int) (i:Nat):Nat->Nat->Nat->Bool:=fun g j i'=>if g=0∧j=Ft t∧i'=i then Wh t else wish g j i'
def dnV (s:AE) (k:Nat) (bb cp:Nat->Nat->Nat) (g j:Nat):Value:=if g<k then .slice (bb g j) (Ao s j) (cp g j) else .slice none 0 0
abbrev dnL (s:AE) (k:Nat) (bb cp:Nat->Nat->Nat):List Value:=[dnV s k bb cp 0 0,dnV s k bb cp 0 1,dnV s k bb cp 0 2,dnV s k bb cp 1 0,dnV s k bb cp 1 1,dnV s k bb cp 1 2]
theorem Hn {n:Nat} {t:TypeId} (h:Row w b t n (fun i=> .bool (f i))):Src w (some (b 0)) n c 1 ((List.range n).map fun i=> .bool (f i)):=by
 refine⟨fun e=>(by cases e),by simp,fun ad e _=>?_,fun ad e j u hj=>?_,fun u hu=>?_⟩
 . injection e with e;subst e;exact h.lt
 . injection e with e;subst e;rw [Af,Ag];rw [List.getElem?_map] at hj;by_cases hn:j<n
   . rw [List.getElem?_range hn] at hj;injection hj with hj;subst hj;exact h.cell hn
   . rw [List.getElem?_eq_none (by simpa using hn)] at hj;cases hj
 . obtain⟨i,_,rfl⟩:=List.mem_map.1 hu;rfl
theorem Hp {n:Nat} {a:Option Addr} (h:w.ownsRow B 4 1 (.slice a n c) n ((List.range n).map fun i=> .bool (f i))) (hn:0<n):∃q,a=some ⟨q,0,none⟩∧Row w q 4 n (fun i=> .bool (f i))∧B<=q:=by
 rcases h.2 with⟨hv,h0⟩ | ⟨g,c',cur,hv,hb,hg,hle,hm,hs,ht⟩
 . omega
 . injection hv with h1 h2 h3;subst h1;have hc:=World.ownsRow.cells h (g:=g) rfl;refine⟨g,rfl,⟨cur,hg,fun i hi=>?_⟩,hb⟩;have:=hc i (.bool (f i)) (by simp [hi]);rw [Af] at this;simpa [World.cell?,hg] using this
theorem PK {k q0 q1 q2:Nat} (lt:∀g j,g<k->j<3->bb g j<B) (inj:∀g j g' j',g<k->j<3->g'<k->j'<3->bb g j=bb g' j'->g=g'∧j=j') (h0:B<=q0) (h1:q0<q1) (h2:q1<q2)
 {g j g' j':Nat} (hg:g<k+1) (hj:j<3) (hg':g'<k+1) (hj':j'<3) (e:updW bb k q0 q1 q2 g j=updW bb k q0 q1 q2 g' j'):g=g'∧j=j':=by
 have hin:∀j,j<3->updW bb k q0 q1 q2 k j=if j=0 then q0 else if j=1 then q1 else q2:=fun j hj=>by
  match j,hj with
  | 0,_=>simp [updW]
  | 1,_=>simp [updW]
  | 2,_=>simp [updW]
 by_cases c:g=k
 . subst c;rw [hin j hj] at e;by_cases c':g'=g
   . subst c';rw [hin j' hj'] at e;refine⟨rfl,?_⟩;split at e <;> split at e <;> (try split at e) <;> (try split at e) <;> omega
   . rw [Db c'] at e;have:=lt g' j' (by omega) hj';split at e <;> (try split at e) <;> omega
 . rw [Db c] at e;by_cases c':g'=k
   . subst c';rw [hin j' hj'] at e;have:=lt g j (by omega) hj;split at e <;> (try split at e) <;> omega
   . rw [Db c'] at e;exact inj g j g' j' (by omega) hj (by omega) hj' e
theorem xB (a0 a1 a2 a3 a4 a5:Value) (W:World):(Instr.index 118 (.agg #[a0,a1,a2,a3,a4,a5]) (.int .i64 0)).run prog W= .ok (.agg #[a0,a1,a2]) W:=by kernel_rfl
theorem xA (a0 a1 a2 a3 a4 a5:Value) (W:World):(Instr.index 118 (.agg #[a0,a1,a2,a3,a4,a5]) (.int .i64 1)).run prog W= .ok (.agg #[a3,a4,a5]) W:=by kernel_rfl
def DoneP (w:World) (s:AE) (wish:Nat->Nat->Nat->Bool) (e:Ending) (w':World):Prop:=
 ∃bb cp:Nat->Nat->Nat,e= .returned (.agg (Kh bb cp s))∧AJ w w'∧DF w' w.heap.size bb (Ao s) wish
theorem Rf (hs:s.Ok) (hr:DF w 0 bb (Ao s) wish) (ht:EI t) (i:Nat) (hi:i<Ao s (Ft t)):
 Calls prog 141 #[.agg #[.slice (bb 0 0) s.nd (cp 0 0), .slice (bb 0 1) s.nc (cp 0 1), .slice (bb 0 2) s.nr (cp 0 2), .slice (bb 1 0) s.nd (cp 1 0), .slice (bb 1 1) s.nc (cp 1 1), .slice (bb 1 2) s.nr (cp 1 2)], .int .i64 0, .agg #[.int .u8 t, .int .i64 i]] w (DoneP w s (Br wish t i)):=by
 have n1:=hs.c2;have n2:=hs.d2;have n3:=hs.r2;have m1:=hs.c1;have m2:=hs.d1;have m3:=hs.r1;have HR:=Ae hr;have HT:=Ae ht;have HI:=Ae hi;clear hs hr ht hi;go_in;go_wp2_with fail;obtain⟨W0,hW0⟩:=ex ((((w.alloc (.cells (Kh bb cp s) 120)).alloc (.cells #[.int .u8 t, .int .i64 i] 126)).alloc (.cells #[.slice none 0 0, .slice none 0 0, .slice none 0 0, .slice none 0 0, .slice none 0 0, .slice none 0 0] 120)).alloc (.cells #[.slice none 0 0, .slice none 0 0, .slice none 0 0, .slice none 0 0, .slice none 0 0, .slice none 0 0] 120));have B1:AF W0 (w.heap.size+1) 126 [.int .u8 t, .int .i64 i]:=by
  rw [<-hW0];have h:=((AF.new (w.alloc (.cells (Kh bb cp s) 120)) [.int .u8 t, .int .i64 i] 126).alloc (.cells #[.slice none 0 0, .slice none 0 0, .slice none 0 0, .slice none 0 0, .slice none 0 0, .slice none 0 0] 120)).alloc (.cells #[.slice none 0 0, .slice none 0 0, .slice none 0 0, .slice none 0 0, .slice none 0 0, .slice none 0 0] 120);rw [Ay] at h;exact h
 have B2:AF W0 (w.heap.size+2) 120 [.slice none 0 0, .slice none 0 0, .slice none 0 0, .slice none 0 0, .slice none 0 0, .slice none 0 0]:=by
  rw [<-hW0];have h:=(AF.new ((w.alloc (.cells (Kh bb cp s) 120)).alloc (.cells #[.int .u8 t, .int .i64 i] 126)) [.slice none 0 0, .slice none 0 0, .slice none 0 0, .slice none 0 0, .slice none 0 0, .slice none 0 0] 120).alloc (.cells #[.slice none 0 0, .slice none 0 0, .slice none 0 0, .slice none 0 0, .slice none 0 0, .slice none 0 0] 120);rw [Ay,Ay] at h;exact h
 have B3:AF W0 (w.heap.size+3) 120 [.slice none 0 0, .slice none 0 0, .slice none 0 0, .slice none 0 0, .slice none 0 0, .slice none 0 0]:=by
  rw [<-hW0];have h:=AF.new (((w.alloc (.cells (Kh bb cp s) 120)).alloc (.cells #[.int .u8 t, .int .i64 i] 126)).alloc (.cells #[.slice none 0 0, .slice none 0 0, .slice none 0 0, .slice none 0 0, .slice none 0 0, .slice none 0 0] 120)) [.slice none 0 0, .slice none 0 0, .slice none 0 0, .slice none 0 0, .slice none 0 0, .slice none 0 0] 120;rw [Ay,Ay,Ay] at h;exact h
 have K0:AJ w W0:=by rw [<-hW0];exact((((nr w).alloc _).alloc _).alloc _).alloc _
 rw [hW0];have B1K:=Ae B1;have B2K:=Ae B2;have B3K:=Ae B3;have K0K:=Ae K0;clear hW0 B1 B2 B3 K0;go_loopw [13] (fun j wr=>∃k:Nat,k<=2∧j= .int .i64 k∧AJ w wr∧(AF wr (w.heap.size+1) 126 [.int .u8 t, .int .i64 i]∧AF wr (w.heap.size+2) 120 [.slice none 0 0, .slice none 0 0, .slice none 0 0, .slice none 0 0, .slice none 0 0, .slice none 0 0])∧∃bb' cp',AF wr (w.heap.size+3) 120 (dnL s k bb' cp')∧(∀g j,g<k->j<3->Row wr (bb' g j) 4 (Ao s j) (fun i=> .bool (wish g j i))∧w.heap.size+4<=bb' g j)∧∀g j g' j',g<k->j<3->g'<k->j'<3->bb' g j=bb' g' j'->g=g'∧j=j') (fun j _=>2 - (intOf j).toNat);case atStart=>exact⟨0,by omega,rfl,K0K.out,⟨B1K.out,B2K.out⟩,fun _ _=>0,fun _ _=>0,B3K.out,fun g j h=>by omega,fun g j g' j' h=>by omega⟩
 case round=>
  obtain⟨k,hk,rfl,kw,rb,bb',cp',yb,rr,rd⟩:=hrel;have KW:=Ae kw;have RB:=Ae rb;have YB:=Ae yb;have RR:=Ae rr;have RD:=Ae rd;clear kw rb yb rr rd;by_cases hlt:k<2
  . rcases(show k=0∨k=1 by omega) with rfl | rfl
    . have hix:=xB;go_wp2_with fail;clear hix;obtain⟨D,hD⟩:=ex wr.heap.size;obtain⟨X,hX⟩:=ex (wr.alloc (.cells #[.slice (bb 0 0) s.nd (cp 0 0), .slice (bb 0 1) s.nc (cp 0 1), .slice (bb 0 2) s.nr (cp 0 2)] 117));have BD:AF X D 117 [.slice (bb 0 0) s.nd (cp 0 0), .slice (bb 0 1) s.nc (cp 0 1), .slice (bb 0 2) s.nr (cp 0 2)]:=by rw [<-hX, <-hD];exact AF.new _ _ _
      have kx:AJ wr X:=by rw [<-hX];exact(kx_).alloc _
      have hDl:w.heap.size+3<D:=by rw [<-hD];exact YB.out.lt
      rw [hX,hD];have SNK:AG (∀w',AD (fun j=>j=w.heap.size+3) X w'->(w'.cell? (D 0)=some (.slice (bb 0 0) s.nd (cp 0 0))∧w'.cell? (D 1)=some (.slice (bb 0 1) s.nc (cp 0 1))∧w'.cell? (D 2)=some (.slice (bb 0 2) s.nr (cp 0 2)))):=⟨fun w' kk=>by
       have bb:=BD.keep kk (by omega);exact⟨bb.cell 0,bb.cell 1,bb.cell 2⟩⟩
      have KN0:AG (AJ X X.drew):=⟨(AD.refl _ X).drew⟩;have KP0:=Ae ((KW.out.then_ kx).then_ KN0.out);have HDz:=Ae hD;have KXK:=Ae kx;have hHeld0:=SNK.out X.drew ((AD.refl _ X).drew);clear hX hD BD kx;refine rh_ (fun w'=>(w'.cell? (D 0)=some (.slice (bb 0 0) s.nd (cp 0 0))∧w'.cell? (D 1)=some (.slice (bb 0 1) s.nc (cp 0 1))∧w'.cell? (D 2)=some (.slice (bb 0 2) s.nr (cp 0 2)))) hHeld0 (fun hE=>?_);clear hHeld0;refine tk 0 hE ?_;refine tk 1 hE ?_;refine tk 2 hE ?_;refine tk 4 hE ?_;refine tk 5 hE ?_;refine tk 7 hE ?_;refine tk 8 hE ?_;refine tk 11 hE ?_;refine oA_ 3 20 (fun u w'=>∃q c,u= .slice (some ⟨q,0,none⟩) s.nd c∧AJ X.drew w'∧X.drew.heap.size<=q∧Row w' q 4 s.nd (fun i=> .bool (wish 0 0 i))) ?k0_g3 ?k0_n3;case k0_g3=>
       intro a' K Q ha hK;have e0:=te ha 19;clear ha;go_simp;refine(FF _ s.nd _ _ X.drew (Hn ((HR.out 0 0 (by omega) (by omega)).1.keep KP0.out id)) (by omega)).mono ?_;rintro e w' ⟨a,c,rfl,k2,o2,_⟩;obtain⟨q,rfl,hq,hb⟩:=Hp o2 (by omega);exact hK _ _ ⟨q,c,rfl,k2,hb,hq⟩
      case k0_n3=>
      rintro u0 X1 ⟨q0,c0,rfl,k0,l0,r0⟩;have KP1:=Ae (KP0.out.then_ k0);have KN1:=Ae (KN0.out.then_ k0);have S1:=SNK.out X1 (KN1.out.mono fun j e=>e.elim);refine⟨S1,?_⟩;simp only [pu,s0,s1];refine oA_ 6 23 (fun u w'=>∃q c,u= .slice (some ⟨q,0,none⟩) s.nc c∧AJ X1 w'∧X1.heap.size<=q∧Row w' q 4 s.nc (fun i=> .bool (wish 0 1 i))) ?k0_g6 ?k0_n6;case k0_g6=>
       intro a' K Q ha hK;have e0:=te ha 22;clear ha;go_simp;refine(FF _ s.nc _ _ X1 (Hn ((HR.out 0 1 (by omega) (by omega)).1.keep KP1.out id)) (by omega)).mono ?_;rintro e w' ⟨a,c,rfl,k2,o2,_⟩;obtain⟨q,rfl,hq,hb⟩:=Hp o2 (by omega);exact hK _ _ ⟨q,c,rfl,k2,hb,hq⟩
      case k0_n6=>
      rintro u1 X2 ⟨q1,c1,rfl,k1,l1,r1⟩;have KP2:=Ae (KP1.out.then_ k1);have KN2:=Ae (KN1.out.then_ k1);have S2:=SNK.out X2 (KN2.out.mono fun j e=>e.elim);refine⟨S2,?_⟩;simp only [pu,s0,s1];refine oA_ 9 26 (fun u w'=>∃q c,u= .slice (some ⟨q,0,none⟩) s.nr c∧AJ X2 w'∧X2.heap.size<=q∧Row w' q 4 s.nr (fun i=> .bool (wish 0 2 i))) ?k0_g9 ?k0_n9;case k0_g9=>
       intro a' K Q ha hK;have e0:=te ha 25;clear ha;go_simp;refine(FF _ s.nr _ _ X2 (Hn ((HR.out 0 2 (by omega) (by omega)).1.keep KP2.out id)) (by omega)).mono ?_;rintro e w' ⟨a,c,rfl,k2,o2,_⟩;obtain⟨q,rfl,hq,hb⟩:=Hp o2 (by omega);exact hK _ _ ⟨q,c,rfl,k2,hb,hq⟩
      case k0_n9=>
      rintro u2 X3 ⟨q2,c2,rfl,k2,l2,r2⟩;have KP3:=Ae (KP2.out.then_ k2);have KN3:=Ae (KN2.out.then_ k2);have S3:=SNK.out X3 (KN3.out.mono fun j e=>e.elim);refine⟨S3,?_⟩;simp only [pu,s0,s1];refine tk 10 S3 ?_;refine tk 12 (v:= .pointer (some ((w.heap.size+3) 0))) S3 ?_;have YX:=YB.out.keep (KXK.out.then_ KN3.out) id;have y0:=YX.z 0;have y1:=YX.z 1;have y2:=YX.z 2;have f0:=YX.frozen 0;have f1:=YX.frozen 1;have f2:=YX.frozen 2;have YXK:=Ae YX;clear YX;refine CO (i:=13) rfl rfl (by kernel_rfl) (C:=fun v w'=>v=undef∧w'=((X3.setCell ((w.heap.size+3) 0) (.slice q0 s.nd c0)).setCell ((w.heap.size+3) 1) (.slice q1 s.nc c1)).setCell ((w.heap.size+3) 2) (.slice q2 s.nr c2)) ?k0_g13 ?k0_n13;case k0_g13=>
       intro a' K Q ha hK;have e0:=te ha 29;have e1:=te ha 27;clear ha;go_simp;exact hK _ _ ⟨rfl,rfl⟩
      case k0_n13=>
      rintro v0 w6 ⟨rfl,rfl⟩;have KS:AD (fun j=>j=w.heap.size+3) X3 (((X3.setCell ((w.heap.size+3) 0) (.slice q0 s.nd c0)).setCell ((w.heap.size+3) 1) (.slice q1 s.nc c1)).setCell ((w.heap.size+3) 2) (.slice q2 s.nr c2)):=((keeps_set _).t (keeps_set _)).t (keeps_set _);have KS:=Ae KS;refine⟨SNK.out _ ((KN3.out.mono fun j e=>e.elim).trans KS.out (fun j _ e=>e)),?_⟩;simp only [Act.put];refine⟨by kernel_rfl,?_⟩;clear y0 y1 y2 f0 f1 f2 S1 S2 S3 hE;go_wp2;go_roundw;case measure=>simp [intOf]
      case rel=>
       have ks:=KS.out;have z1:=r0.lt;have z2:=r1.lt;have z3:=r2.lt;have zx:=KXK.out.size;have z4:=k1.size;have z5:=k2.size;have zd:X.heap.size=X.drew.heap.size:=rfl;have hk3:=KN3.out;have kall:=((KXK.out.then_ hk3).mono fun j e=>e.elim).trans ks (fun j _ e=>e);have k13:=((k1.then_ k2).mono fun j e=>e.elim).trans ks (fun j _ e=>e);have k23:=(k2.mono fun j e=>e.elim).trans ks (fun j _ e=>e);have hDz:=HDz.out;refine⟨0+1,by omega,by go_num,KW.out.trans kall (fun j hj e=>by omega),⟨RB.out.1.keep kall (by omega),RB.out.2.keep kall (by omega)⟩,updW bb' 0 q0 q1 q2,updW cp' 0 c0 c1 c2,?_,fun g j hg hj=>?_,fun g j g' j' h1 h2 h3 h4 e=>?_⟩
       . have hx:=((YXK.out.set 0 (.slice q0 s.nd c0)).set 1 (.slice q1 s.nc c1)).set 2 (.slice q2 s.nr c2);simpa [dnL,dnV,Ao,updW] using hx
       . by_cases eg:g=0
         . subst eg
           match j,hj with
           | 0,_=>exact⟨r0.keep k13 (show¬q0=w.heap.size+3 by omega),by show _<=q0;omega⟩
           | 1,_=>exact⟨r1.keep k23 (show¬q1=w.heap.size+3 by omega),by show _<=q1;omega⟩
           | 2,_=>exact⟨r2.keep ks (show¬q2=w.heap.size+3 by omega),by show _<=q2;omega⟩
         . obtain⟨h1,h2⟩:=RR.out g j (by omega) hj;rw [Db eg];exact⟨h1.keep kall (by omega),h2⟩
       . exact PK (B:=wr.heap.size) (fun g j hg hj=>(RR.out g j hg hj).1.lt) RD.out (by omega) (by omega) (by omega) h1 h2 h3 h4 e
    . have hix:=xA;go_wp2_with fail;clear hix;obtain⟨D,hD⟩:=ex wr.heap.size;obtain⟨X,hX⟩:=ex (wr.alloc (.cells #[.slice (bb 1 0) s.nd (cp 1 0), .slice (bb 1 1) s.nc (cp 1 1), .slice (bb 1 2) s.nr (cp 1 2)] 117));have BD:AF X D 117 [.slice (bb 1 0) s.nd (cp 1 0), .slice (bb 1 1) s.nc (cp 1 1), .slice (bb 1 2) s.nr (cp 1 2)]:=by rw [<-hX, <-hD];exact AF.new _ _ _
      have kx:AJ wr X:=by rw [<-hX];exact(kx_).alloc _
      have hDl:w.heap.size+3<D:=by rw [<-hD];exact YB.out.lt
      rw [hX,hD];have SNK:AG (∀w',AD (fun j=>j=w.heap.size+3) X w'->(w'.cell? (D 0)=some (.slice (bb 1 0) s.nd (cp 1 0))∧w'.cell? (D 1)=some (.slice (bb 1 1) s.nc (cp 1 1))∧w'.cell? (D 2)=some (.slice (bb 1 2) s.nr (cp 1 2)))):=⟨fun w' kk=>by
       have bb:=BD.keep kk (by omega);exact⟨bb.cell 0,bb.cell 1,bb.cell 2⟩⟩
      have KN0:AG (AJ X X.drew):=⟨(AD.refl _ X).drew⟩;have KP0:=Ae ((KW.out.then_ kx).then_ KN0.out);have HDz:=Ae hD;have KXK:=Ae kx;have hHeld0:=SNK.out X.drew ((AD.refl _ X).drew);clear hX hD BD kx;refine rh_ (fun w'=>(w'.cell? (D 0)=some (.slice (bb 1 0) s.nd (cp 1 0))∧w'.cell? (D 1)=some (.slice (bb 1 1) s.nc (cp 1 1))∧w'.cell? (D 2)=some (.slice (bb 1 2) s.nr (cp 1 2)))) hHeld0 (fun hE=>?_);clear hHeld0;refine tk 0 hE ?_;refine tk 1 hE ?_;refine tk 2 hE ?_;refine tk 4 hE ?_;refine tk 5 hE ?_;refine tk 7 hE ?_;refine tk 8 hE ?_;refine tk 11 hE ?_;refine oA_ 3 20 (fun u w'=>∃q c,u= .slice (some ⟨q,0,none⟩) s.nd c∧AJ X.drew w'∧X.drew.heap.size<=q∧Row w' q 4 s.nd (fun i=> .bool (wish 1 0 i))) ?k1_g3 ?k1_n3;case k1_g3=>
       intro a' K Q ha hK;have e0:=te ha 19;clear ha;go_simp;refine(FF _ s.nd _ _ X.drew (Hn ((HR.out 1 0 (by omega) (by omega)).1.keep KP0.out id)) (by omega)).mono ?_;rintro e w' ⟨a,c,rfl,k2,o2,_⟩;obtain⟨q,rfl,hq,hb⟩:=Hp o2 (by omega);exact hK _ _ ⟨q,c,rfl,k2,hb,hq⟩
      case k1_n3=>
      rintro u0 X1 ⟨q0,c0,rfl,k0,l0,r0⟩;have KP1:=Ae (KP0.out.then_ k0);have KN1:=Ae (KN0.out.then_ k0);have S1:=SNK.out X1 (KN1.out.mono fun j e=>e.elim);refine⟨S1,?_⟩;simp only [pu,s0,s1];refine oA_ 6 23 (fun u w'=>∃q c,u= .slice (some ⟨q,0,none⟩) s.nc c∧AJ X1 w'∧X1.heap.size<=q∧Row w' q 4 s.nc (fun i=> .bool (wish 1 1 i))) ?k1_g6 ?k1_n6;case k1_g6=>
       intro a' K Q ha hK;have e0:=te ha 22;clear ha;go_simp;refine(FF _ s.nc _ _ X1 (Hn ((HR.out 1 1 (by omega) (by omega)).1.keep KP1.out id)) (by omega)).mono ?_;rintro e w' ⟨a,c,rfl,k2,o2,_⟩;obtain⟨q,rfl,hq,hb⟩:=Hp o2 (by omega);exact hK _ _ ⟨q,c,rfl,k2,hb,hq⟩
      case k1_n6=>
      rintro u1 X2 ⟨q1,c1,rfl,k1,l1,r1⟩;have KP2:=Ae (KP1.out.then_ k1);have KN2:=Ae (KN1.out.then_ k1);have S2:=SNK.out X2 (KN2.out.mono fun j e=>e.elim);refine⟨S2,?_⟩;simp only [pu,s0,s1];refine oA_ 9 26 (fun u w'=>∃q c,u= .slice (some ⟨q,0,none⟩) s.nr c∧AJ X2 w'∧X2.heap.size<=q∧Row w' q 4 s.nr (fun i=> .bool (wish 1 2 i))) ?k1_g9 ?k1_n9;case k1_g9=>
       intro a' K Q ha hK;have e0:=te ha 25;clear ha;go_simp;refine(FF _ s.nr _ _ X2 (Hn ((HR.out 1 2 (by omega) (by omega)).1.keep KP2.out id)) (by omega)).mono ?_;rintro e w' ⟨a,c,rfl,k2,o2,_⟩;obtain⟨q,rfl,hq,hb⟩:=Hp o2 (by omega);exact hK _ _ ⟨q,c,rfl,k2,hb,hq⟩
      case k1_n9=>
      rintro u2 X3 ⟨q2,c2,rfl,k2,l2,r2⟩;have KP3:=Ae (KP2.out.then_ k2);have KN3:=Ae (KN2.out.then_ k2);have S3:=SNK.out X3 (KN3.out.mono fun j e=>e.elim);refine⟨S3,?_⟩;simp only [pu,s0,s1];refine tk 10 S3 ?_;refine tk 12 (v:= .pointer (some ((w.heap.size+3) 3))) S3 ?_;have YX:=YB.out.keep (KXK.out.then_ KN3.out) id;have y0:=YX.z 3;have y1:=YX.z 4;have y2:=YX.z 5;have f0:=YX.frozen 3;have f1:=YX.frozen 4;have f2:=YX.frozen 5;have YXK:=Ae YX;clear YX;refine CO (i:=13) rfl rfl (by kernel_rfl) (C:=fun v w'=>v=undef∧w'=((X3.setCell ((w.heap.size+3) 3) (.slice q0 s.nd c0)).setCell ((w.heap.size+3) 4) (.slice q1 s.nc c1)).setCell ((w.heap.size+3) 5) (.slice q2 s.nr c2)) ?k1_g13 ?k1_n13;case k1_g13=>
       intro a' K Q ha hK;have e0:=te ha 29;have e1:=te ha 27;clear ha;go_simp;exact hK _ _ ⟨rfl,rfl⟩
      case k1_n13=>
      rintro v0 w6 ⟨rfl,rfl⟩;have KS:AD (fun j=>j=w.heap.size+3) X3 (((X3.setCell ((w.heap.size+3) 3) (.slice q0 s.nd c0)).setCell ((w.heap.size+3) 4) (.slice q1 s.nc c1)).setCell ((w.heap.size+3) 5) (.slice q2 s.nr c2)):=((keeps_set _).t (keeps_set _)).t (keeps_set _);have KS:=Ae KS;refine⟨SNK.out _ ((KN3.out.mono fun j e=>e.elim).trans KS.out (fun j _ e=>e)),?_⟩;simp only [Act.put];refine⟨by kernel_rfl,?_⟩;clear y0 y1 y2 f0 f1 f2 S1 S2 S3 hE;go_wp2;go_roundw;case measure=>simp [intOf]
      case rel=>
       have ks:=KS.out;have z1:=r0.lt;have z2:=r1.lt;have z3:=r2.lt;have zx:=KXK.out.size;have z4:=k1.size;have z5:=k2.size;have zd:X.heap.size=X.drew.heap.size:=rfl;have hk3:=KN3.out;have kall:=((KXK.out.then_ hk3).mono fun j e=>e.elim).trans ks (fun j _ e=>e);have k13:=((k1.then_ k2).mono fun j e=>e.elim).trans ks (fun j _ e=>e);have k23:=(k2.mono fun j e=>e.elim).trans ks (fun j _ e=>e);have hDz:=HDz.out;refine⟨1+1,by omega,by go_num,KW.out.trans kall (fun j hj e=>by omega),⟨RB.out.1.keep kall (by omega),RB.out.2.keep kall (by omega)⟩,updW bb' 1 q0 q1 q2,updW cp' 1 c0 c1 c2,?_,fun g j hg hj=>?_,fun g j g' j' h1 h2 h3 h4 e=>?_⟩
       . have hx:=((YXK.out.set 3 (.slice q0 s.nd c0)).set 4 (.slice q1 s.nc c1)).set 5 (.slice q2 s.nr c2);simpa [dnL,dnV,Ao,updW] using hx
       . by_cases eg:g=1
         . subst eg
           match j,hj with
           | 0,_=>exact⟨r0.keep k13 (show¬q0=w.heap.size+3 by omega),by show _<=q0;omega⟩
           | 1,_=>exact⟨r1.keep k23 (show¬q1=w.heap.size+3 by omega),by show _<=q1;omega⟩
           | 2,_=>exact⟨r2.keep ks (show¬q2=w.heap.size+3 by omega),by show _<=q2;omega⟩
         . obtain⟨h1,h2⟩:=RR.out g j (by omega) hj;rw [Db eg];exact⟨h1.keep kall (by omega),h2⟩
       . exact PK (B:=wr.heap.size) (fun g j hg hj=>(RR.out g j hg hj).1.lt) RD.out (by omega) (by omega) (by omega) h1 h2 h3 h4 e
  . have a0:=RB.out.1.z 0;have a1:=RB.out.1.z 1;have y0:wr.cell? ((w.heap.size+1+1+1) 0)=some (.slice (bb' 0 0) s.nd (cp' 0 0)):=by have h:=YB.out.cell 0;simpa [dnV,Ao,show 0<k by omega] using h
    have y1:wr.cell? ((w.heap.size+1+1+1) 1)=some (.slice (bb' 0 1) s.nc (cp' 0 1)):=by have h:=YB.out.cell 1;simpa [dnV,Ao,show 0<k by omega] using h
    have y2:wr.cell? ((w.heap.size+1+1+1) 2)=some (.slice (bb' 0 2) s.nr (cp' 0 2)):=by have h:=YB.out.cell 2;simpa [dnV,Ao,show 0<k by omega] using h
    have LI:AG (∀n,Calls prog 201 #[.pointer (some ((w.heap.size+1+1+1) 0)), .int .u8 t] (wr.drewN n) fun e w'=>e= .returned (.slice (some ((bb' 0 (Ft t)) 0)) (Ao s (Ft t)) (cp' 0 (Ft t)))∧w'=wr.drewN n):=
     ⟨fun n=>Ko (w:=wr.drewN n) (fun j=> .slice (some (bb' 0 j 0)) (Ao s j) (cp' 0 j)) y0 y1 y2 HT.out⟩
    clear y0 y1 y2;obtain⟨q,hq⟩:=ex (bb' 0 (Ft t));obtain⟨m,hm⟩:=ex (Ao s (Ft t));obtain⟨c,hc⟩:=ex (cp' 0 (Ft t));have QR:AG (Row wr q 4 m (fun i=> .bool (wish 0 (Ft t) i))∧w.heap.size+4<=q):=⟨by rw [<-hq, <-hm];exact RR.out 0 (Ft t) (by omega) (S8 t)⟩;have hmi:i<m:=by rw [<-hm];exact HI.out
    have hml:m<=9:=by rw [<-hm];unfold Ao;split <;> omega
    have HQ:=Ae hq;have HM:=Ae hm;rw [hq,hm,hc] at LI;clear hq hm hc;go_wp2_with fail;go_quiet (first | (go_at_call 201;exact Calls.quiet_of_same (LI.out _)));obtain⟨V0,hV0⟩:=ex (wr.drewN nq);have kv:AJ wr V0:=by rw [<-hV0];exact(kx_).drewN _
    rw [hV0];have KV:=Ae kv;have RV:=Ae (show AF V0 (w.heap.size+1) 126 [.int .u8 t, .int .i64 i]∧AF V0 (w.heap.size+2) 120 [.slice none 0 0, .slice none 0 0, .slice none 0 0, .slice none 0 0, .slice none 0 0, .slice none 0 0] from⟨RB.out.1.keep kv id,RB.out.2.keep kv id⟩);have YV:=Ae (YB.out.keep kv id);have QV:=Ae (QR.out.1.keep kv id);have a0:=RV.out.1.z 0;have a1:=RV.out.1.z 1;have h0i:(0:Int)<=(i:Int):=by omega
    have him:(i:Int)<(m:Int):=by omega
    clear hV0 kv LI;go_wp2_with fail;have SNK:AG (∀w',AD (fun j=>j=q) V0 w'->(w'.cell? ((w.heap.size+1) 0)=some (.int .u8 t)∧w'.cell? ((w.heap.size+1) 1)=some (.int .i64 i))):=⟨fun w' kk=>by
     have bb:=RV.out.1.keep kk (by have:=QR.out.2;omega);exact⟨bb.cell 0,bb.cell 1⟩⟩
    refine rh_ (fun w'=>(w'.cell? ((w.heap.size+1) 0)=some (.int .u8 t)∧w'.cell? ((w.heap.size+1) 1)=some (.int .i64 i))) (SNK.out _ ((AD.refl _ V0).drew)) (fun hE=>?_);clear a0 a1;refine tk 0 hE ?_;refine tk 1 hE ?_;refine tk 2 hE ?_;refine tk 3 hE ?_;refine tk 4 hE ?_;refine oA_ 5 59 (fun u w'=>u= .bool (Wh t)∧w'=V0.drew) ?e_g5 ?e_n5;case e_g5=>
     intro a' K Q ha hK;have e0:=te ha 58;clear ha;go_simp;refine(PX HT.out V0.drew).mono ?_;rintro e w' ⟨rfl,rfl⟩;exact hK _ _ ⟨rfl,rfl⟩
    case e_n5=>
    rintro u5 w5 ⟨rfl,rfl⟩;refine⟨hE,?_⟩;simp only [pu,s0,s1];refine tk 6 (v:= .pointer (some (q i))) hE ?_;have g0:=QV.out.cell hmi;have f0:=QV.out.frozen i;refine CO (i:=7) rfl rfl (by kernel_rfl) (C:=fun v w'=>v=undef∧w'=V0.drew.setCell (q i) (.bool (Wh t))) ?e_g7 ?e_n7;case e_g7=>
     intro a' K Q ha hK;have e0:=te ha 60;have e1:=te ha 59;clear ha;go_simp;exact hK _ _ ⟨rfl,rfl⟩
    case e_n7=>
    rintro v0 w6 ⟨rfl,rfl⟩;refine⟨SNK.out _ (((AD.refl _ V0).drew).t (keeps_set _)),?_⟩;simp only [Act.put];refine⟨by kernel_rfl,?_⟩;clear g0 f0 hE;obtain⟨V,hV⟩:=ex (V0.drew.setCell (q i) (.bool (Wh t)));have kq:AD (fun j=>j=q) V0 V:=by rw [<-hV];exact((AD.refl _ V0).drew).t (keeps_set _)
    have rq:Row V q 4 m (fun i'=> .bool (if i'=i then Wh t else wish 0 (Ft t) i')):=by
     rw [<-hV];exact((show Row V0.drew q 4 m _ from QV.out).set i (.bool (Wh t))).congr fun j _=>by by_cases e:j=i <;> simp [e]
    rw [hV];have qn:=QR.out.2;have RV:=Ae (show AF V (w.heap.size+1) 126 [.int .u8 t, .int .i64 i]∧AF V (w.heap.size+2) 120 [.slice none 0 0, .slice none 0 0, .slice none 0 0, .slice none 0 0, .slice none 0 0, .slice none 0 0] from⟨RV.out.1.keep kq (by omega),RV.out.2.keep kq (by omega)⟩);have YV:=Ae (YV.out.keep kq (by omega));have KQ:=Ae kq;have RQ:=Ae rq;clear hV kq rq;have y0:V.cell? ((w.heap.size+1+1+1) 0)=some (.slice (bb' 0 0) s.nd (cp' 0 0)):=by have h:=YV.out.cell 0;simpa [dnV,Ao,show 0<k by omega,show 1<k by omega] using h
    have r0:=RV.out.2.z 0;have f0:=RV.out.2.frozen 0;have y1:V.cell? ((w.heap.size+1+1+1) 1)=some (.slice (bb' 0 1) s.nc (cp' 0 1)):=by have h:=YV.out.cell 1;simpa [dnV,Ao,show 0<k by omega,show 1<k by omega] using h
    have r1:=RV.out.2.z 1;have f1:=RV.out.2.frozen 1;have y2:V.cell? ((w.heap.size+1+1+1) 2)=some (.slice (bb' 0 2) s.nr (cp' 0 2)):=by have h:=YV.out.cell 2;simpa [dnV,Ao,show 0<k by omega,show 1<k by omega] using h
    have r2:=RV.out.2.z 2;have f2:=RV.out.2.frozen 2;have y3:V.cell? ((w.heap.size+1+1+1) 3)=some (.slice (bb' 1 0) s.nd (cp' 1 0)):=by have h:=YV.out.cell 3;simpa [dnV,Ao,show 0<k by omega,show 1<k by omega] using h
    have r3:=RV.out.2.z 3;have f3:=RV.out.2.frozen 3;have y4:V.cell? ((w.heap.size+1+1+1) 4)=some (.slice (bb' 1 1) s.nc (cp' 1 1)):=by have h:=YV.out.cell 4;simpa [dnV,Ao,show 0<k by omega,show 1<k by omega] using h
    have r4:=RV.out.2.z 4;have f4:=RV.out.2.frozen 4;have y5:V.cell? ((w.heap.size+1+1+1) 5)=some (.slice (bb' 1 2) s.nr (cp' 1 2)):=by have h:=YV.out.cell 5;simpa [dnV,Ao,show 0<k by omega,show 1<k by omega] using h
    have r5:=RV.out.2.z 5;have f5:=RV.out.2.frozen 5;go_wp2_with fail;obtain⟨W9,hW9⟩:=ex (((((((V).setCell ((w.heap.size+1+1) 0) (.slice (bb' 0 0) s.nd (cp' 0 0))).setCell ((w.heap.size+1+1) 1) (.slice (bb' 0 1) s.nc (cp' 0 1))).setCell ((w.heap.size+1+1) 2) (.slice (bb' 0 2) s.nr (cp' 0 2))).setCell ((w.heap.size+1+1) 3) (.slice (bb' 1 0) s.nd (cp' 1 0))).setCell ((w.heap.size+1+1) 4) (.slice (bb' 1 1) s.nc (cp' 1 1))).setCell ((w.heap.size+1+1) 5) (.slice (bb' 1 2) s.nr (cp' 1 2)));have krs:AD (fun j=>j=w.heap.size+2) V W9:=by
     rw [<-hW9];exact(((((keeps_set _).t (keeps_set _)).t (keeps_set _)).t (keeps_set _)).t (keeps_set _)).t (keeps_set _)
    have bw:AF W9 (w.heap.size+1+1) 120 (UT bb' cp' s):=by
     rw [<-hW9];exact((((((RV.out.2).set 0 (.slice (bb' 0 0) s.nd (cp' 0 0))).set 1 (.slice (bb' 0 1) s.nc (cp' 0 1))).set 2 (.slice (bb' 0 2) s.nr (cp' 0 2))).set 3 (.slice (bb' 1 0) s.nd (cp' 1 0))).set 4 (.slice (bb' 1 1) s.nc (cp' 1 1))).set 5 (.slice (bb' 1 2) s.nr (cp' 1 2))
    rw [hW9];have KR:=Ae krs;have z0:=bw.z 0;have z1:=bw.z 1;have z2:=bw.z 2;have z3:=bw.z 3;have z4:=bw.z 4;have z5:=bw.z 5;clear hW9 krs bw y0 y1 y2 y3 y4 y5 r0 r1 r2 r3 r4 r5 f0 f1 f2 f3 f4 f5;refine bodyPost_ret (v:= .agg (Kh bb' cp' s)) ?_ rfl ?_
    . simp [results,results141,go_sem,z0,z1,z2,z3,z4,z5]
    have kv9:AD (fun j=>j=q∨j=w.heap.size+2) wr W9:=((KV.out.mono fun j e=>e.elim).trans (KQ.out.mono fun j e=> .inl e) (fun j _ e=>e)).trans (KR.out.mono fun j e=> .inr e) (fun j _ e=>e);refine⟨bb',cp',rfl,KW.out.trans kv9 (fun j hj e=>by omega),fun g j hg hj=>?_⟩;obtain⟨h1,h2⟩:=RR.out g j (by omega) hj;refine⟨?_,by omega⟩;by_cases e:g=0∧j=Ft t
    . obtain⟨rfl,rfl⟩:=e;have h3:=RQ.out.keep KR.out (by omega);rw [<-HQ.out, <-HM.out] at h3;exact h3.congr fun i' _=>by simp [Br]
    . have hne:bb' g j≠q:=fun e2=>e (by
       rw [<-HQ.out] at e2;exact RD.out g j 0 (Ft t) (by omega) hj (by omega) (S8 t) e2)
      refine(h1.keep kv9 (by omega)).congr fun i' _=>?_;have:¬(g=0∧j=Ft t∧i'=i):=fun h=>e ⟨h.1,h.2.1⟩;simp [Br,this]
end
end Go.Proofs.YtpekoejdnhaohaaGreatDoor
