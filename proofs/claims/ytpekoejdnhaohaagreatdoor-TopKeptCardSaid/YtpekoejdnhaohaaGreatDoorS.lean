/- What the world's tell, end, call, Do, Round and Events leave and answer. For every world in memory. -/
import Derived.Maps.AppendAt
import Derived.Test.YtpekoejdnhaohaaGreatDoorR
namespace Go.Proofs.YtpekoejdnhaohaaGreatDoor
open Go.RowKit Tryz
set_option maxRecDepth 100000
set_option maxHeartbeats 40000000
set_option linter.all false
variable {b:Fb} {lab lab':Nat->Lb} {S:Nat->Prop} {w w':World}
structure Ev where
 kind:Int
 task:Nat
 c:Cl
 err:Int
 res:Int
 aid:Int
 adev:Int
 aval:Int
 alive:Bool
abbrev Ev.cells (e:Ev):List Value:=
 [.int .u8 e.kind, .int .i64 e.task, .int .u8 e.c.kind, .int .i64 e.c.dev, .int .i64 e.c.reg, .int .u32 e.c.val, .int .i64 e.err, .int .u32 e.res, .int .i64 e.aid, .int .i64 e.adev, .bool false, .int .u32 e.aval, .bool e.alive, .slice none 0 0]
def GB (l:List Ev):List Value:=l.flatMap Ev.cells
inductive Qs where
 | none:Qs
 | sent (p tok i x:Nat):Qs
 | done:Qs
def Z2 (w:World) (lab:Nat->Lb) (b:Fb):Qs->Prop
 | .none=>True
 | .sent p tok i x=>b.qn=3∧An w b.q p tok i x∧lab b.q= .obj 0∧b.q<w.heap.size
 | .done=>b.qn=2∧w.cell? ⟨b.q,1,Option.none⟩=some (.int .u32 0)∧lab b.q= .obj 0∧b.q<w.heap.size
theorem Z2.keep {q:Qs} (h:Z2 w lab b q) (k:AD S w w') (n:∀j,lab j= .obj 0->¬S j):Z2 w' lab b q:=by
 cases q with
 | none=>trivial
 | sent p tok i x=>exact⟨h.1,h.2.1.keep k (n _ h.2.2.1),h.2.2.1,Bo h.2.2.2 k.size⟩
 | done=>exact⟨h.1,(k.cell h.2.2.2 (n _ h.2.2.1)).trans h.2.1,h.2.2.1,Bo h.2.2.2 k.size⟩
theorem Z2.relab {q:Qs} (h:Z2 w lab b q) (e:∀j,j<w.heap.size->lab' j=lab j):Z2 w lab' b q:=by
 cases q with
 | none=>trivial
 | sent p tok i x=>exact⟨h.1,h.2.1,(e _ h.2.2.2).trans h.2.2.1,h.2.2.2⟩
 | done=>exact⟨h.1,h.2.1,(e _ h.2.2.2).trans h.2.2.1,h.2.2.2⟩
structure St where
 hx:Hw
 fm:Fm
 rm:Rm
 n:Nat
 cnt:Nat->Nat
 asl:Bool
 calls:Nat->Cl
 waits:Nat->Bool
 ev:List Ev
 q:Qs
structure Wb where
 hb:Hb
 fb:Fb
 rb:Rb
 cb:Cb
 W:Nat
 ev:Value
abbrev CQ (s:AE) (B:Wb) (X:St):List Value:=
 [.pointer B.hb.H, .pointer B.fb.F, .pointer B.rb.R, .int .i64 s.nv, .int .i64 ((s.nd+s.nc+s.nr:Nat):Int),
  .int .u8 (X.calls 0).kind, .int .i64 ((X.calls 0).dev:Int), .int .i64 ((X.calls 0).reg:Int), .int .u32 (X.calls 0).val,
  .int .u8 (X.calls 1).kind, .int .i64 ((X.calls 1).dev:Int), .int .i64 ((X.calls 1).reg:Int), .int .u32 (X.calls 1).val,
  .int .u8 (X.calls 2).kind, .int .i64 ((X.calls 2).dev:Int), .int .i64 ((X.calls 2).reg:Int), .int .u32 (X.calls 2).val,
  .bool (X.waits 0), .bool (X.waits 1), .bool (X.waits 2),B.ev]
def Lb.mut:Lb->Bool
 | .obj k=>decide (1<=k)&&decide (k<=12)
 | .sub _ _=>true
abbrev SL (lab:Nat->Lb) (p:Lb->Bool):Nat->Prop:=fun j=>p (lab j)=true
structure EvAt (w:World) (lab:Nat->Lb) (v:Value) (l:List Ev):Prop where
 own:w.ownsRow 0 55 14 v l.length (GB l)
 lab:∀j,v.ownBlock=some j->lab j= .obj 12
structure AN (w:World) (lab:Nat->Lb) (s:AE) (B:Wb) (X:St):Prop where
 hard:AH w lab s B.hb X.hx
 firm:AP w lab s B.hb.H B.fb X.fm
 rpm:Ac w lab s B.hb.H B.fb.F B.cb.C B.rb X.rm
 cnt:A7 w lab s B.cb X.n X.cnt X.asl
 wd:AF w B.W 77 (CQ s B X)
 ev:EvAt w lab B.ev X.ev
 lW:lab B.W= .obj 11
 fr:∀j,w.heap.size<=j->lab j= .obj 0
 le:Ai w
 l1:lab 1= .obj 0
 q:Z2 w lab B.fb X.q
structure Jj (B B':Wb):Prop where
 hb:B'.hb=B.hb
 F:B'.fb.F=B.fb.F
 R:B'.rb.R=B.rb.R
 cb:B'.cb=B.cb
 W:B'.W=B.W
theorem Jj.refl (B:Wb):Jj B B:=⟨rfl,rfl,rfl,rfl,rfl⟩
theorem Jj.trans {A B C:Wb} (h:Jj A B) (k:Jj B C):Jj A C:=⟨k.hb.trans h.hb,k.F.trans h.F,k.R.trans h.R,k.cb.trans h.cb,k.W.trans h.W⟩
structure Cs (w:World) (lab:Nat->Lb) (s:AE) (B:Wb) (X':St) (w':World) (lab':Nat->Lb) (B':Wb):Prop where
 k:AD (SL lab Lb.mut) w w'
 e:∀j,j<w.heap.size->lab' j=lab j
 b:Jj B B'
 h:AN w' lab' s B' X'
def WP (w:World) (lab:Nat->Lb) (s:AE) (B:Wb) (X':St) (v:Value) (e:Ending) (w':World):Prop:=
 e= .returned v∧∃lab' B',Cs w lab s B X' w' lab' B'
theorem Cs.trans {w2:World} {lab2:Nat->Lb} {s:AE} {B B' B2:Wb} {X X2:St} (h:Cs w lab s B X w' lab' B') (k:Cs w' lab' s B' X2 w2 lab2 B2):Cs w lab s B X2 w2 lab2 B2:=
 ⟨h.k.trans k.k fun j hj c=>by have c:(lab' j).mut=true:=c;rw [h.e j hj] at c;exact c,
  fun j hj=>(k.e j (Bo hj h.k.size)).trans (h.e j hj),h.b.trans k.b,k.h⟩
namespace AN
variable {w w':World} {lab lab':Nat->Lb} {s:AE} {B:Wb} {X:St} {p:Lb->Bool}
theorem new (h:AN w lab s B X) (k:AJ w w'):AN w' lab s B X:=
 ⟨h.hard.new k,h.firm.new k,h.rpm.new k,h.cnt.new k,h.wd.keep k id,⟨AW h.ev.own k (fun _ _=>id),h.ev.lab⟩,h.lW,fun j hj=>h.fr j (Nat.le_trans k.size hj),h.le.keep k id,h.l1,h.q.keep k fun _ _=>id⟩
theorem turn_new (h:AN w lab s B X) (k:AJ w w'):Cs w lab s B X w' lab B:=⟨k.mono fun _ e=>e.elim,fun _ _=>rfl, .refl B,h.new k⟩
theorem lk (e:∀j,j<w.heap.size->lab' j=lab j) (k:AD (SL lab p) w w'):AD (SL lab' p) w w':=
 ⟨k.os,k.tape,k.output,k.size,fun j hj hn=>k.block j hj fun c=>hn (by show p (lab' j)=true;rw [e j hj];exact c)⟩
theorem hard_k (h:AN w lab s B X) (e:∀j,j<w.heap.size->lab' j=lab j) (k:AD (SL lab p) w w') (hp:∀l:Lb,l.isHard=true->p l=false):AH w' lab' s B.hb X.hx:=
 (h.hard.relab e).keep (lk e k) fun j e c=>by have c:p (lab' j)=true:=c;rw [hp _ e] at c;cases c
theorem firm_k (h:AN w lab s B X) (e:∀j,j<w.heap.size->lab' j=lab j) (k:AD (SL lab p) w w') (h0:p (.obj 0)=false) (h6:p (.obj 6)=false):AP w' lab' s B.hb.H B.fb X.fm:=
 (h.firm.relab e).keep (lk e k) fun j e c=>by have c:p (lab' j)=true:=c;rcases e with e | e <;> (rw [e] at c;first | (rw [h0] at c;cases c) | (rw [h6] at c;cases c))
theorem rpm_k (h:AN w lab s B X) (e:∀j,j<w.heap.size->lab' j=lab j) (k:AD (SL lab p) w w') (h0:p (.obj 0)=false) (h6:p (.obj 10)=false):Ac w' lab' s B.hb.H B.fb.F B.cb.C B.rb X.rm:=
 (h.rpm.relab e).keep (lk e k) fun j e c=>by have c:p (lab' j)=true:=c;rcases e with e | e <;> (rw [e] at c;first | (rw [h0] at c;cases c) | (rw [h6] at c;cases c))
theorem cnt_k (h:AN w lab s B X) (e:∀j,j<w.heap.size->lab' j=lab j) (k:AD (SL lab p) w w') (h0:p (.obj 0)=false) (h8:p (.obj 8)=false) (h9:p (.obj 9)=false):A7 w' lab' s B.cb X.n X.cnt X.asl:=
 (h.cnt.relab e).keep (lk e k) fun j e c=>by have c:p (lab' j)=true:=c;rcases e with e | e | e <;> (rw [e] at c;first | (rw [h0] at c;cases c) | (rw [h8] at c;cases c) | (rw [h9] at c;cases c))
theorem wd_k (h:AN w lab s B X) (k:AD (SL lab p) w w') (h6:p (.obj 11)=false):AF w' B.W 77 (CQ s B X):=
 h.wd.keep k fun c=>by have c:p (lab B.W)=true:=c;rw [h.lW,h6] at c;cases c
theorem ev_k (h:AN w lab s B X) (e:∀j,j<w.heap.size->lab' j=lab j) (k:AD (SL lab p) w w') (h6:p (.obj 12)=false):EvAt w' lab' B.ev X.ev:=
 ⟨AW h.ev.own k fun j e c=>(by have c:p (lab j)=true:=c;rw [h.ev.lab j e,h6] at c;cases c),fun j hj=>(e j (h.ev.own.lt j hj).2).trans (h.ev.lab j hj)⟩
theorem q_k (h:AN w lab s B X) (e:∀j,j<w.heap.size->lab' j=lab j) (k:AD (SL lab p) w w') (h0:p (.obj 0)=false):Z2 w' lab' B.fb X.q:=
 (h.q.relab e).keep (lk e k) fun j e c=>by have c:p (lab' j)=true:=c;rw [e,h0] at c;cases c
theorem lW_k (h:AN w lab s B X) (e:∀j,j<w.heap.size->lab' j=lab j):lab' B.W= .obj 11:=(e _ h.wd.lt).trans h.lW
theorem l1_k (h:AN w lab s B X) (e:∀j,j<w.heap.size->lab' j=lab j):lab' 1= .obj 0:=(e 1 h.le.lt).trans h.l1
theorem le_k (h:AN w lab s B X) (k:AD (SL lab p) w w') (h0:p (.obj 0)=false):Ai w':=h.le.keep k fun c=>by have c:p (lab 1)=true:=c;rw [h.l1,h0] at c;cases c
theorem fr_k (h:AN w lab s B X) (k:AD S w w'):∀j,w'.heap.size<=j->lab j= .obj 0:=fun j hj=>h.fr j (Nat.le_trans k.size hj)
theorem l1_lt (h:AN w lab s B X):1<w.heap.size:=h.le.lt
theorem ev_lt (h:AN w lab s B X) {j:Nat} (e:B.ev.ownBlock=some j):j<w.heap.size:=(h.ev.own.lt j e).2
theorem relab (h:AN w lab s B X) (e:∀j,j<w.heap.size->lab' j=lab j) (fr:∀j,w.heap.size<=j->lab' j= .obj 0):AN w lab' s B X:=
 ⟨h.hard.relab e,h.firm.relab e,h.rpm.relab e,h.cnt.relab e,h.wd,⟨h.ev.own,fun j hj=>(e j (h.ev_lt hj)).trans (h.ev.lab j hj)⟩,(e _ h.wd.lt).trans h.lW,fr,h.le,(e 1 h.l1_lt).trans h.l1,h.q.relab e⟩
end AN
theorem ON:inf_ prog 55=some (some (.agg #[.int .u8 0, .int .i64 0, .int .u8 0, .int .i64 0, .int .i64 0, .int .u32 0, .int .i64 0, .int .u32 0, .int .i64 0, .int .i64 0, .bool false, .int .u32 0, .bool false, .slice none 0 0]),14,120):=by kernel_rfl
theorem QO (l:List Ev):(GB l).length=l.length*14:=by
 induction l with
 | nil=>rfl
 | cons q l ih=>rw [GB,List.flatMap_cons,CX, <-GB,ih];simp;omega
theorem QP (l m:List Ev):GB (l++m)=GB l++GB m:=List.flatMap_append
theorem QM (l:List Ev):∀u ∈ GB l,u.oneCell'=true:=by
 intro u hu;obtain⟨e,_,h⟩:=List.mem_flatMap.1 hu;simp only [Ev.cells,m1,m0,or_false] at h;rcases h with rfl | rfl | rfl | rfl | rfl | rfl | rfl | rfl | rfl | rfl | rfl | rfl | rfl | rfl <;> rfl
section
variable {w:World} {lab:Nat->Lb} {s:AE} {B:Wb} {X:St}
def St.tell (X:St) (l:List Ev):St:={ X with ev:=X.ev++l }
theorem GJ (h:AN w lab s B X) (l:List Ev) (hl:l.length<=1) (hn:X.ev.length<=1000) (g c:Nat) (hc:∀j u,(GB l)[j]?=some u->w.cell? ((⟨g,0,none⟩:Addr).add j)=some u):
 Calls prog 40 #[.pointer B.W, .slice g l.length c] w (WP w lab s B (X.tell l) (.tuple #[])):=by
 obtain⟨i0,KI,KZ0,KZ1,KZ2⟩:=ik_ ON;have c20:=h.wd.z 20;have lW:=h.wd.lt;have H:=Ae h;have HC:=Ae hc;obtain⟨a0,cap0,hv0⟩:=AI h.ev.own;have HV0:=Ae hv0;rw [hv0] at c20;have OW:AG (w.ownsRow 0 55 14 (.slice a0 X.ev.length cap0) X.ev.length (GB X.ev)):=⟨by rw [<-hv0];exact h.ev.own⟩;clear h hc hv0;go_in;have nW:AG (¬some B.W=(Value.slice a0 X.ev.length cap0).ownBlock):=⟨fun e=>by
  have:=H.out.ev.lab B.W (by rw [HV0.out];exact e.symm);rw [H.out.lW] at this;cases this⟩
 go_wp2_with (at_builtin;refine wpList_append_own_at _ rfl (.tmp 8) (.tmp 9) 48 rfl 0 55 i0 _ 14 120 underlying48 KI.out KZ0.out KZ1.out KZ2.out rfl (by decide) _ _ _ rfl OW.out ⟨g,0,none⟩ l.length c (GB l) rfl (QO l) HC.out (QM l) (by unfold maxLen;omega) (by omega) (by omega) ?_;intro v' w1 own1 grow1 _ at1;obtain⟨a1,c1,hv1⟩:=AI own1;subst hv1;have O1:=Ae own1;have KG:AG (AD (fun j=>some j=(Value.slice a0 X.ev.length cap0).ownBlock) w w1):=⟨(AD.refl _ w).grown grow1 (fun j e _=>e.symm)⟩;have AT:AG ((Value.slice a1 (X.ev.length+l.length) c1).ownBlock=(Value.slice a0 X.ev.length cap0).ownBlock∨(Value.slice a1 (X.ev.length+l.length) c1).ownBlock=some w.heap.size):=⟨at1⟩;have c20':w1.cell? ⟨B.W,20,none⟩=some (.slice a0 X.ev.length cap0):=((H.out.wd.keep KG.out nW.out).cell 20).trans (congrArg some HV0.out);have f20:=(H.out.wd.keep KG.out nW.out).frozen 20;clear own1 grow1 at1);go_end0;have hlr:∀j,some j=(Value.slice a0 X.ev.length cap0).ownBlock->lab j= .obj 12:=fun j e=>H.out.ev.lab j (by rw [HV0.out];exact e.symm);have ks:AD (fun j=>j=B.W) w1 (w1.setCell ⟨B.W,20,none⟩ (.slice a1 (X.ev.length+l.length) c1)):=keeps_set _;have k2:AD (SL lab fun q=>decide (q= .obj 12)) w w1:=KG.out.mono fun j e=>by show decide (lab j= .obj 12)=true;rw [hlr j e];rfl
 have kA:AD (SL lab fun q=>decide (q= .obj 12)||decide (q= .obj 11)) w (w1.setCell ⟨B.W,20,none⟩ (.slice a1 (X.ev.length+l.length) c1)):=(k2.mono fun j e=>by
  have e:decide (lab j= .obj 12)=true:=e;show(decide (lab j= .obj 12)||_)=true;rw [e];rfl).then_ (ks.mono fun j e=>by
   rw [show j=B.W from e];show(_||decide (lab B.W= .obj 11))=true;rw [H.out.lW];rfl)
 have hg:∀j,(Value.slice a1 (X.ev.length+l.length) c1).ownBlock=some j->lab j= .obj 12∨j=w.heap.size:=fun j e=>by
  rcases AT.out with e2 | e2
  . exact .inl (hlr j (by rw [<-e2,e]))
  . rw [e] at e2;injection e2 with e2;exact .inr e2
 obtain⟨lab',hlab'⟩:∃lab':Nat->Lb,lab'=fun j=>if(Value.slice a1 (X.ev.length+l.length) c1).ownBlock=some j then .obj 12 else lab j:=⟨_,rfl⟩
 have el:∀j,j<w.heap.size->lab' j=lab j:=fun j hj=>by
  rw [hlab'];by_cases e:(Value.slice a1 (X.ev.length+l.length) c1).ownBlock=some j
  . dsimp only;rw [if_pos e];rcases hg j e with e3 | e3
    . exact e3.symm
    . omega
  . dsimp only;rw [if_neg e]
 have hh:=H.out;have z:=kA.size;have own3:(w1.setCell ⟨B.W,20,none⟩ (.slice a1 (X.ev.length+l.length) c1)).ownsRow 0 55 14 (.slice a1 (X.ev.length+l.length) c1) (X.ev++l).length (GB (X.ev++l)):=by
  rw [QP,List.length_append];exact AW O1.out ks fun j e c=>by
   rw [show j=B.W from c] at e;rcases hg _ e with e3 | e3
   . rw [hh.lW] at e3;cases e3
   . omega
 refine⟨rfl,lab',{ B with ev:= .slice a1 (X.ev.length+l.length) c1 },kA.mono fun j e=>?_,el,⟨rfl,rfl,rfl,rfl,rfl⟩,?_⟩
 . show(lab j).mut=true;have e:(decide (lab j= .obj 12)||decide (lab j= .obj 11))=true:=e;rw [Bool.or_eq_true,decide_eq_true_eq,decide_eq_true_eq] at e;rcases e with e | e <;> (rw [e];rfl)
 . refine⟨hh.hard_k el kA (fun q hq=>?_),hh.firm_k el kA rfl rfl,hh.rpm_k el kA rfl rfl,hh.cnt_k el kA rfl rfl rfl,?_,⟨own3,fun j e=>by rw [hlab'];exact if_pos e⟩,hh.lW_k el,fun j hj=>?_,hh.le_k kA rfl,hh.l1_k el,hh.q_k el kA rfl⟩
   . cases q with
     | obj k=>simp [Lb.isHard] at hq ⊢;omega
     | sub k i=>rfl
   . exact(hh.wd.keep k2 (fun c=>by have c:decide (lab B.W= .obj 12)=true:=c;rw [hh.lW] at c;cases c)).set 20 (.slice a1 (X.ev.length+l.length) c1)
   . rw [hlab'];dsimp only;have z1:=O1.out.lt j;rw [if_neg fun e=>by have:=(z1 e).2;simp at hj;omega];exact hh.fr j (by omega)
end
section
variable {w w':World} {lab:Nat->Lb} {s:AE} {B:Wb} {X:St}
theorem AN.rpmTurn (h:AN w lab s B X) {b':Rb} {y':Rm} (k:AD (fun j=>j=B.rb.R) w w') (hb:b'.R=B.rb.R) (r:Ac w' lab s B.hb.H B.fb.F B.cb.C b' y'):Cs w lab s B { X with rm:=y' } w' lab { B with rb:=b' }:=by
 have kA:AD (SL lab fun q=>decide (q= .obj 10)) w w':=k.mono fun j e=>by rw [show j=B.rb.R from e];show decide (lab B.rb.R= .obj 10)=true;rw [h.rpm.lR];rfl
 have e0:∀j,j<w.heap.size->lab j=lab j:=fun _ _=>rfl;refine⟨kA.mono fun j e=>?_,e0,⟨rfl,rfl,hb,rfl,rfl⟩,⟨h.hard_k e0 kA fun q hq=>?_,h.firm_k e0 kA rfl rfl,r,h.cnt_k e0 kA rfl rfl rfl,?_,h.ev_k e0 kA rfl,h.lW,h.fr_k kA,h.le_k kA rfl,h.l1,h.q_k e0 kA rfl⟩⟩
 . have e:decide (lab j= .obj 10)=true:=e;rw [decide_eq_true_eq] at e;show(lab j).mut=true;rw [e];rfl
 . cases q with
   | obj k=>simp [Lb.isHard] at hq ⊢;omega
   | sub k i=>rfl
 . have g:=h.wd_k kA rfl;unfold AF at g ⊢;rw [g];simp only [CQ,hb]
theorem AN.wdc (h:AN w lab s B X) (t j:Nat) (ht:t=0∨t=1∨t=2) (hj:j<4):w.cell? (B.W (5+t*4+j))=([.int .u8 (X.calls t).kind, .int .i64 ((X.calls t).dev:Int), .int .i64 ((X.calls t).reg:Int), .int .u32 (X.calls t).val]:List Value)[j]?:=by
 refine(h.wd.cell _).trans ?_;rcases ht with rfl | rfl | rfl
 all_goals (match j,hj with
  | 0,_ | 1,_ | 2,_ | 3,_=>rfl)
theorem AN.wdw (h:AN w lab s B X) (t:Nat) (ht:t=0∨t=1∨t=2):w.cell? (B.W (17+t))=some (.bool (X.waits t)):=by
 refine(h.wd.cell _).trans ?_;rcases ht with rfl | rfl | rfl <;> rfl
abbrev Bm (t:Nat) (c:Cl) (er x:Int):Ev:=⟨101,t,c,er,x,0,0,0,false⟩
abbrev CJ (t:Nat) (c:Cl):Ev:=⟨98,t,c,0,0,0,0,0,false⟩
theorem Nl (h:AN w lab s B X) (t:Nat) (ht:t=0∨t=1∨t=2) {q:Int} (h0:(X.rm.tk t).st=q) (hq:q≠3):
 Calls prog 86 #[.pointer B.W, .int .i64 t] w (WP w lab s B X (.tuple #[])):=by
 have c2:=h.wd.z 2;have H:=Ae h;clear h;go_in;go_wp2_with fail;refine(Pc H.out.rpm t ht h0 hq).mono ?_;rintro e w1 ⟨rfl,k1⟩;have K1:=Ae k1;clear k1;go_wp2;go_end0;exact⟨rfl,lab,B,H.out.turn_new (K1.out.alloc _)⟩
def St.ended (X:St) (t:Nat):St:=({ X with rm:={ X.rm with tk:=upd X.rm.tk t (X.rm.tk t).taken } }:St).tell [Bm t (X.calls t) (X.rm.tk t).err (X.rm.tk t).res]
theorem UO (h:AN w lab s B X) (t:Nat) (ht:t=0∨t=1∨t=2) (h0:(X.rm.tk t).st=3) (hn:X.ev.length<=1000):
 Calls prog 86 #[.pointer B.W, .int .i64 t] w (WP w lab s B (X.ended t) (.tuple #[])):=by
 have c2:=h.wd.z 2;have H:=Ae h;have HT:=Ae ht;have ht3:(t:Int)<3:=by omega
 obtain⟨er,her⟩:=ex ((X.rm.tk t).err);obtain⟨x,hx⟩:=ex ((X.rm.tk t).res);obtain⟨c,hc⟩:=ex (X.calls t);have HE:=Ae (And.intro her (And.intro hx hc));have DN:=Ae (XR h.rpm t ht h0);rw [her,hx] at DN;clear h ht h0 her hx hc;go_in;go_wp2_with fail;refine DN.out.mono ?_;rintro e w1 ⟨rfl,k1,sv,r1⟩;have T1:=Ae (H.out.rpmTurn (b':={ B.rb with sv:=sv }) k1 rfl r1);clear k1 r1;go_wp2_with fail;have kb:=(nr w1).alloc (.cells #[.int .i64 er, .int .u32 x] 51);have bb:=AF.new w1 [.int .i64 er, .int .u32 x] 51;obtain⟨bx,hbx⟩:=ex w1.heap.size;obtain⟨W,hW⟩:=ex (w1.alloc (.cells #[.int .i64 er, .int .u32 x] 51));rw [hW,hbx] at bb;rw [hW] at kb;rw [hW,hbx];obtain⟨Y,hY⟩:=ex W.drew;have kY:AJ w1 Y:=by rw [<-hY];exact kb.drew
 have WY:=Ae (T1.out.h.new kY);have bY:AF Y bx 51 [.int .i64 er, .int .u32 x]:=by rw [<-hY];exact bb
 have KY:=Ae kY;have BY:=Ae bY;have L0:AG (lab bx= .obj 0):=⟨H.out.fr bx (by rw [<-hbx];exact T1.out.k.size)⟩;have x0:=bY.z 0;have x1:=bY.z 1;have q0:Y.cell? (B.W (5+t*4))=some (.int .u8 c.kind):=by rw [<-HE.out.2.2];exact WY.out.wdc t 0 HT.out (by omega)
 have q1:Y.cell? (B.W (5+t*4+1))=some (.int .i64 c.dev):=by rw [<-HE.out.2.2];exact WY.out.wdc t 1 HT.out (by omega)
 have q2:Y.cell? (B.W (5+t*4+2))=some (.int .i64 c.reg):=by rw [<-HE.out.2.2];exact WY.out.wdc t 2 HT.out (by omega)
 have q3:Y.cell? (B.W (5+t*4+3))=some (.int .u32 c.val):=by rw [<-HE.out.2.2];exact WY.out.wdc t 3 HT.out (by omega)
 refine rh_ (fun wz=>wz.cell? (bx 0)=some (.int .i64 er)∧wz.cell? (bx 1)=some (.int .u32 x)) (by rw [hY];exact⟨x0,x1⟩) (fun hE=>?_);rw [hY] at hE ⊢;clear hY hW hbx kY bY kb bb c2;refine tk 0 hE ?_;refine tk 1 hE ?_;refine tk 8 hE ?_ (hy:=by intro oi ho;cases ho;refine Or.inl ⟨by rfl,?_⟩;intro w' hS;have g0:=hS.1;have g1:=hS.2;go_simp;try with_reducible rfl);change wpAnyH _ _ _ _ _ (([2,3,4,5,6]:List Nat).length+4) _ _ Y;refine wl_ [2,3,4,5,6] (fun i vals _=>vals i=([undef,undef, .pointer B.W, .int .i64 t, .pointer B.W, .pointer (some (B.W 5)), .pointer (some (B.W (5+t*4)))]:List Value).getD i undef) (fun w=>w=Y) (fun _ _ _=>True) rfl ?lstep ?lfin;case lstep=>
  intro i hi oo ho vals ρ w' hw hd hf;subst hw;simp only [m1,m0,or_false] at hi;rcases hi with rfl | rfl | rfl | rfl | rfl
  . cases ho;intro a' K Q ha hK;have e0:=th_ (.pointer B.W) ha hf 0;clear ha;go_simp;exact hK _ _ ⟨trivial,rfl,⟨x0,x1⟩,Ap⟩
  . cases ho;intro a' K Q ha hK;have e1:=th_ (.int .i64 t) ha hf 1;clear ha;go_simp;exact hK _ _ ⟨trivial,rfl,⟨x0,x1⟩,Ap⟩
  . cases ho;intro a' K Q ha hK;have e18:=td (.pointer (some (B.W 0))) ha 18 (he_ hd 2);clear ha;go_simp;exact hK _ _ ⟨trivial,rfl,⟨x0,x1⟩,Ap⟩
  . cases ho;intro a' K Q ha hK;have e20:=td (.pointer (some (B.W 0))) ha 20 (he_ hd 4);clear ha;go_simp;exact hK _ _ ⟨trivial,rfl,⟨x0,x1⟩,Ap⟩
  . cases ho;intro a' K Q ha hK;have e21:=td (.pointer (some (B.W 5))) ha 21 (he_ hd 5);have e19:=td (.int .i64 (t:Int)) ha 19 (he_ hd 3);clear ha;go_simp;exact hK _ _ ⟨trivial,rfl,⟨x0,x1⟩,Ap⟩
 case lfin=>
 rintro vals w' hw hv;subst hw;have v2:=Jh hv 2;have v3:=Jh hv 3;have v4:=Jh hv 4;have v5:=Jh hv 5;have v6:=Jh hv 6;clear hv;simp only [Am,AR,dstOf,De,Bl,Bk,CM,pu,s0,s1,if_true,v2,v3,v4,v5,v6];clear v2 v3 v4 v5 v6;change wpAnyH _ _ _ _ _ (([7,9]:List Nat).length+2) _ _ w';refine wl_ [7,9] (fun i vals _=>vals i=([undef,undef,undef,undef,undef,undef,undef, .agg #[.int .u8 c.kind, .int .i64 c.dev, .int .i64 c.reg, .int .u32 c.val],undef, .agg #[.int .u8 101, .int .i64 t, .int .u8 c.kind, .int .i64 c.dev, .int .i64 c.reg, .int .u32 c.val, .int .i64 er, .int .u32 x, .int .i64 0, .int .i64 0, .bool false, .int .u32 0, .bool false, .slice none 0 0]]:List Value).getD i undef) (fun w=>w=w') (fun _ _ _=>True) rfl ?lstep ?lfin;case lstep=>
  intro i hi oo ho vals ρ w' hw hd hf;subst hw;simp only [m1,m0,or_false] at hi;rcases hi with rfl | rfl
  . cases ho;intro a' K Q ha hK;have e22:=th_ (.pointer (some (B.W (5+t*4)))) ha hf 22;clear ha;go_simp;exact hK _ _ ⟨trivial,rfl,⟨x0,x1⟩,Ap⟩
  . cases ho;intro a' K Q ha hK;have e17:=th_ (.int .i64 t) ha hf 17;have e24:=th_ (.agg #[.int .i64 er, .int .u32 x]) ha hf 24;have e23:=td (.agg #[.int .u8 c.kind, .int .i64 (c.dev:Int), .int .i64 (c.reg:Int), .int .u32 c.val]) ha 23 (he_ hd 7);clear ha;go_simp;exact hK _ _ ⟨trivial,rfl,⟨x0,x1⟩,Ap⟩
 case lfin=>
 rintro vals w' hw hv;subst hw;have v7:=Jh hv 7;have v9:=Jh hv 9;clear hv;simp only [Am,AR,dstOf,De,Bl,Bk,CM,pu,s0,s1,if_true,v7,v9];clear v7 v9;refine oA_ 10 26 (fun u w2=>u= .slice w'.heap.size 1 1∧w2=w'.alloc (.cells #[.int .u8 101, .int .i64 t, .int .u8 c.kind, .int .i64 c.dev, .int .i64 c.reg, .int .u32 c.val, .int .i64 er, .int .u32 x, .int .i64 0, .int .i64 0, .bool false, .int .u32 0, .bool false, .slice none 0 0] 55)) ?n_g10 ?n_n10;case n_g10=>
  intro a' K Q ha hK;have e0:=te ha 25;clear ha;go_simp;exact hK _ _ ⟨rfl,rfl⟩
 case n_n10=>
 rintro u w2 ⟨rfl,rfl⟩;refine⟨⟨(BY.out.keep ((kx_).alloc _:AJ w' _) id).cell 0,(BY.out.keep ((kx_).alloc _:AJ w' _) id).cell 1⟩,?_⟩;simp only [pu,s0,s1];refine oA_ 11 27 (fun u w3=>u= .tuple #[]∧WP w lab s B (X.ended t) (.tuple #[]) (.returned (.tuple #[])) w3∧w3.cell? (bx 0)=some (.int .i64 er)∧w3.cell? (bx 1)=some (.int .u32 x)) ?n_g11 ?n_n11;case n_g11=>
  intro a' K Q ha hK;have e0:=te ha 16;have e1:=te ha 26;clear ha;go_simp;refine(GJ (WY.out.new ((kx_).alloc _)) [Bm t c er x] (al11_ 1) hn w'.heap.size 1 fun j u hj=>?_).mono ?_
  . have b:=(AF.new w' [.int .u8 101, .int .i64 t, .int .u8 c.kind, .int .i64 c.dev, .int .i64 c.reg, .int .u32 c.val, .int .i64 er, .int .u32 x, .int .i64 0, .int .i64 0, .bool false, .int .u32 0, .bool false, .slice none 0 0] 55).cell j;rw [show(((w'.heap.size 0):Addr).add j)=(w'.heap.size j) from by simp [Addr.add];exact fun h=>h.symm];exact b.trans hj
  rintro e w3 ⟨rfl,lab3,B3,T3⟩;have z3:=(BY.out.keep ((kx_).alloc _:AJ w' _) id).keep T3.k (fun c=>by have c:(lab bx).mut=true:=c;rw [L0.out] at c;cases c);refine hK _ _ ⟨rfl,⟨rfl,lab3,B3,?_⟩,z3.cell 0,z3.cell 1⟩;have T4:=(T1.out.trans (T1.out.h.turn_new (KY.out.then_ (((kx_).alloc _:AJ w' _))))).trans T3;rw [St.ended,HE.out.1,HE.out.2.1,HE.out.2.2];exact T4
 case n_n11=>
 rintro u w3 ⟨rfl,hwp,z0,z1⟩;refine⟨⟨z0,z1⟩,?_⟩;simp only [pu,s0,s1];refine⟨by kernel_rfl,?_⟩;have HW:=Ae hwp;go_wp2;go_end0;exact HW.out
end
section
variable {w w':World} {lab:Nat->Lb} {s:AE} {B:Wb} {X:St}
theorem TX (s:AE) (B:Wb) (X:St) (t:Nat) (ht:t=0∨t=1∨t=2) (v:Bool):(CQ s B X).set (17+t) (.bool v)=CQ s B { X with waits:=upd X.waits t v }:=by
 rcases ht with rfl | rfl | rfl <;> rfl
theorem Z7 (s:AE) (B:Wb) (X:St) (t:Nat) (ht:t=0∨t=1∨t=2) (c:Cl):((((CQ s B X).set (5+t*4) (.int .u8 c.kind)).set (5+t*4+1) (.int .i64 c.dev)).set (5+t*4+2) (.int .i64 c.reg)).set (5+t*4+3) (.int .u32 c.val)=CQ s B { X with calls:=upd X.calls t c }:=by
 rcases ht with rfl | rfl | rfl <;> rfl
theorem wdc' (h:AF w B.W 77 (CQ s B X)) (t:Nat) (ht:t=0∨t=1∨t=2) {c:Cl} (hc:X.calls t=c):w.cell? (B.W (5+t*4))=some (.int .u8 c.kind)∧w.cell? (B.W (5+t*4+1))=some (.int .i64 c.dev)∧w.cell? (B.W (5+t*4+2))=some (.int .i64 c.reg)∧w.cell? (B.W (5+t*4+3))=some (.int .u32 c.val):=by
 subst hc;rcases ht with rfl | rfl | rfl <;> exact⟨h.cell _,h.cell _,h.cell _,h.cell _⟩
theorem wdw' (h:AF w B.W 77 (CQ s B X)) (t:Nat) (ht:t=0∨t=1∨t=2):w.cell? (B.W (17+t))=some (.bool (X.waits t)):=by
 rcases ht with rfl | rfl | rfl <;> exact h.cell _
theorem AN.wdTurn (h:AN w lab s B X) {X':St} (k:AD (fun j=>j=B.W) w w') (hb:AF w' B.W 77 (CQ s B X')) (e:X'={ X with calls:=X'.calls,waits:=X'.waits }):Cs w lab s B X' w' lab B:=by
 have kA:AD (SL lab fun q=>decide (q= .obj 11)) w w':=k.mono fun j e=>by rw [show j=B.W from e];show decide (lab B.W= .obj 11)=true;rw [h.lW];rfl
 have e0:∀j,j<w.heap.size->lab j=lab j:=fun _ _=>rfl;refine⟨kA.mono fun j e=>?_,e0, .refl _,?_⟩
 . have e:decide (lab j= .obj 11)=true:=e;rw [decide_eq_true_eq] at e;show(lab j).mut=true;rw [e];rfl
 . rw [e] at hb ⊢;refine⟨h.hard_k e0 kA fun q hq=>?_,h.firm_k e0 kA rfl rfl,h.rpm_k e0 kA rfl rfl,h.cnt_k e0 kA rfl rfl rfl,hb,h.ev_k e0 kA rfl,h.lW,h.fr_k kA,h.le_k kA rfl,h.l1,h.q_k e0 kA rfl⟩
   cases q with
   | obj k=>simp [Lb.isHard] at hq ⊢;omega
   | sub k i=>rfl
def St.called (X:St) (t:Nat) (c:Cl):St:={ X with rm:={ X.rm with tk:=upd X.rm.tk t { X.rm.tk t with st:=1,c:=c } },calls:=upd X.calls t c,waits:=upd X.waits t true }
theorem RJ (h:AN w lab s B X) (t:Nat) (ht:t=0∨t=1∨t=2) (h0:(X.rm.tk t).st=0) (c:Cl) (hk:JA c.kind):
 Calls prog 34 #[.pointer B.W, .int .i64 t,c.V] w (WP w lab s B (X.called t c) (.int .i64 0)):=by
 have ht3:(t:Int)<3:=by omega
 obtain⟨bx,hbx⟩:=ex w.heap.size;have H:=Ae h;have HT:=Ae ht;have H0:=Ae h0;have HK:=Ae hk;obtain⟨X1,hX1⟩:∃X1:St,{ X with rm:={ X.rm with tk:=upd X.rm.tk t { X.rm.tk t with st:=1,c:=c } } }=X1:=⟨_,rfl⟩;have HX:=Ae hX1;clear h ht h0 hk hX1;go_in;go_wp2_with fail;have kb:=(nr w).alloc (.cells #[.int .u8 c.kind, .int .i64 c.dev, .int .i64 c.reg, .int .u32 c.val] 43);have bb:=AF.new w [.int .u8 c.kind, .int .i64 c.dev, .int .i64 c.reg, .int .u32 c.val] 43;obtain⟨W1,hW1⟩:=ex (w.alloc (.cells #[.int .u8 c.kind, .int .i64 c.dev, .int .i64 c.reg, .int .u32 c.val] 43));rw [hW1] at kb bb ⊢;rw [hbx] at bb;clear hW1;obtain⟨Y,hY⟩:=ex W1.drew;have kY:AJ w Y:=by rw [<-hY];exact kb.drew
 have bY:AF Y bx 43 [.int .u8 c.kind, .int .i64 c.dev, .int .i64 c.reg, .int .u32 c.val]:=by rw [<-hY];exact bb
 have KY:=Ae kY;have BY:=Ae bY;have TY:=Ae (H.out.turn_new kY);have L0:AG (lab bx= .obj 0∧bx≠B.W):=⟨H.out.fr bx (by omega),by have:=H.out.wd.lt;omega⟩;have c2:=TY.out.h.wd.z 2;have x0:=bY.z 0;have x1:=bY.z 1;have x2:=bY.z 2;have x3:=bY.z 3;refine rh_ (fun _=>True) trivial (fun hE=>?_);rw [hY];clear hY hbx kY bY kb bb;change wpAnyH _ _ _ _ _ (([0,1,2,3,4,5]:List Nat).length+2) _ _ Y;refine wl_ [0,1,2,3,4,5] (fun i vals _=>vals i=([.pointer B.W, .pointer B.W, .pointer (some (B.W 2)), .pointer B.rb.R, .int .i64 t, .agg #[.int .u8 c.kind, .int .i64 c.dev, .int .i64 c.reg, .int .u32 c.val]]:List Value).getD i undef) (fun w=>w=Y) (fun _ _ _=>True) rfl ?lstep ?lfin;case lstep=>
  intro i hi oo ho vals ρ w' hw hd hf;subst hw;simp only [m1,m0,or_false] at hi;rcases hi with rfl | rfl | rfl | rfl | rfl | rfl
  . cases ho;intro a' K Q ha hK;have e0:=th_ (.pointer B.W) ha hf 0;clear ha;go_simp;exact hK _ _ ⟨trivial,rfl,trivial,Ap⟩
  . cases ho;intro a' K Q ha hK;have e8:=td (.pointer (some (B.W 0))) ha 8 (he_ hd 0);clear ha;go_simp;exact hK _ _ ⟨trivial,rfl,trivial,Ap⟩
  . cases ho;intro a' K Q ha hK;have e9:=td (.pointer (some (B.W 0))) ha 9 (he_ hd 1);clear ha;go_simp;exact hK _ _ ⟨trivial,rfl,trivial,Ap⟩
  . cases ho;intro a' K Q ha hK;have e10:=td (.pointer (some (B.W 2))) ha 10 (he_ hd 2);clear ha;go_simp;exact hK _ _ ⟨trivial,rfl,trivial,Ap⟩
  . cases ho;intro a' K Q ha hK;have e1:=th_ (.int .i64 t) ha hf 1;clear ha;go_simp;exact hK _ _ ⟨trivial,rfl,trivial,Ap⟩
  . cases ho;have h5:ρ (.tmp 5)= .pointer bx:=hf (.tmp 5) (by kernel_rfl);intro a' K Q ha hK;have e5:=tf (.pointer bx) ha 5 h5;clear ha;go_simp;exact hK _ _ ⟨trivial,rfl,trivial,Ap⟩
 case lfin=>
 rintro vals w' hw hv;subst hw;have v0:=Jh hv 0;have v1:=Jh hv 1;have v2:=Jh hv 2;have v3:=Jh hv 3;have v4:=Jh hv 4;have v5:=Jh hv 5;clear hv;simp only [Am,AR,dstOf,De,Bl,Bk,CM,pu,s0,s1,if_true,v0,v1,v2,v3,v4,v5];clear v0 v1 v2 v3 v4 v5;refine oA_ 6 14 (fun u w3=>u= .int .i64 0∧AF w3 bx 43 [.int .u8 c.kind, .int .i64 c.dev, .int .i64 c.reg, .int .u32 c.val]∧∃B1,B1.W=B.W∧Cs w lab s B X1 w3 lab B1) ?n_g6 ?n_n6;case n_g6=>
  intro a' K Q ha hK;have e0:=te ha 11;have e1:=te ha 12;have e2:=te ha 13;clear ha;go_simp;refine(Up TY.out.h.rpm t HT.out H0.out c HK.out).mono ?_;rintro e w3 ⟨rfl,k3,sv,r3⟩;have T3:=TY.out.trans (TY.out.h.rpmTurn (b':={ B.rb with sv:=sv }) k3 rfl r3);rw [HX.out] at T3;refine hK _ _ ⟨rfl,BY.out.keep k3 fun e=>?_,{ B with rb:={ B.rb with sv:=sv } },rfl,T3⟩;have l:=TY.out.h.rpm.lR;rw [<-show bx=B.rb.R from e,L0.out.1] at l;cases l
 case n_n6=>
 rintro u w3 ⟨rfl,b3,B1,hB1,T3⟩;refine⟨trivial,?_⟩;simp only [pu,s0,s1];refine oA_ 7 7 (fun u w4=>u= .int .i64 0∧w4=w3) ?n_g7 ?n_n7;case n_g7=>
  intro a' K Q ha hK;have e0:=te ha 14;clear ha;go_simp;exact hK _ _ ⟨rfl,rfl⟩
 case n_n7=>
 rintro u w4 ⟨rfl,rfl⟩;refine⟨trivial,?_⟩;simp only [pu,s0,s1];refine⟨by kernel_rfl,?_⟩;clear c2 x0 x1 x2 x3 hE;have T3:=Ae T3;have B3:=Ae b3;clear b3;go_wp2_with fail;obtain⟨V,hV⟩:=ex w4.drew;have kV:AJ w4 V:=by rw [<-hV];exact(kx_).drew
 have BV:=Ae (B3.out.keep kV id);have T4:=Ae (T3.out.trans (T3.out.h.turn_new kV));have HV:AG (AF V B.W 77 (CQ s B1 X1)):=⟨by rw [<-hB1];exact T4.out.h.wd⟩;refine rh_ (fun wz=>wz.cell? (bx 0)=some (.int .u8 c.kind)∧wz.cell? (bx 1)=some (.int .i64 c.dev)∧wz.cell? (bx 2)=some (.int .i64 c.reg)∧wz.cell? (bx 3)=some (.int .u32 c.val)) (by rw [hV];exact⟨BV.out.cell 0,BV.out.cell 1,BV.out.cell 2,BV.out.cell 3⟩) (fun hE=>?_);rw [hV] at hE ⊢;clear hV kV;refine tk 0 hE ?_;refine tk 1 hE ?_;refine tk 2 hE ?_;refine tk 3 hE ?_;refine tk 4 hE ?_ (hy:=by intro oi ho;cases ho;refine Or.inl ⟨by rfl,?_⟩;intro w' hS;have g0:=hS.1;have g1:=hS.2.1;have g2:=hS.2.2.1;have g3:=hS.2.2.2;go_simp;try with_reducible rfl);refine tk 5 hE ?_;refine tk 6 hE ?_;refine tk 7 hE ?_;refine tk 9 hE ?_;refine tk 10 hE ?_;have HVo:=HV.out;obtain⟨q0,q1,q2,q3⟩:=wdc' (B:={ B1 with W:=B.W }) HVo t HT.out rfl;have fr:=fun i=>HVo.frozen i;have lW:=HVo.lt;clear HVo;refine oN_ 8 (fun wz=>wz=((((V.setCell (B.W (5+t*4)) (.int .u8 c.kind)).setCell (B.W (5+t*4+1)) (.int .i64 c.dev)).setCell (B.W (5+t*4+2)) (.int .i64 c.reg)).setCell (B.W (5+t*4+3)) (.int .u32 c.val))) ?q_g8 ?q_n8;case q_g8=>
  intro a' K Q ha hK;have e25:=te ha 25;have e22:=te ha 22;clear ha;go_simp;exact hK undef _ rfl
 case q_n8=>
 rintro w5 h5;have k5:AD (fun j=>j=B.W) V w5:=by rw [h5];exact(((keeps_set _).t (keeps_set _)).t (keeps_set _)).t (keeps_set _)
 have b5:AF w5 B.W 77 (CQ s B1 { X1 with calls:=upd X1.calls t c }):=by rw [h5, <-Z7 s B1 X1 t HT.out c];exact(((HV.out.set _ _).set _ _).set _ _).set _ _
 have z5:=BV.out.keep k5 L0.out.2;refine⟨⟨z5.cell 0,z5.cell 1,z5.cell 2,z5.cell 3⟩,?_⟩;have hH5:(fun wz=>wz.cell? (bx 0)=some (.int .u8 c.kind)∧wz.cell? (bx 1)=some (.int .i64 c.dev)∧wz.cell? (bx 2)=some (.int .i64 c.reg)∧wz.cell? (bx 3)=some (.int .u32 c.val)) w5:=⟨z5.cell 0,z5.cell 1,z5.cell 2,z5.cell 3⟩;clear q0 q1 q2 q3 fr lW hE h5;refine tk 11 hH5 ?_;have q0:=wdw' (B:={ B1 with W:=B.W }) b5 t HT.out;have fr:=fun i=>b5.frozen i;have lW:=b5.lt;have B5:=Ae b5;have K5:=Ae k5;have Z5:=Ae z5;clear b5 k5 z5 hH5;refine oN_ 12 (fun wz=>wz=w5.setCell (B.W (17+t)) (.bool true)) ?q_g12 ?q_n12;case q_g12=>
  intro a' K Q ha hK;have e28:=te ha 28;clear ha;go_simp;exact hK undef _ rfl
 case q_n12=>
 rintro w6 h6;have k6:AD (fun j=>j=B.W) w5 w6:=by rw [h6];exact keeps_set _
 have b6:AF w6 B.W 77 (CQ s B1 { X1 with calls:=upd X1.calls t c,waits:=upd X1.waits t true }):=by rw [h6, <-TX s B1 { X1 with calls:=upd X1.calls t c } t HT.out true];exact B5.out.set _ _
 have z6:=Z5.out.keep k6 L0.out.2;refine⟨⟨z6.cell 0,z6.cell 1,z6.cell 2,z6.cell 3⟩,?_⟩;have T6:=Ae (T4.out.trans (T4.out.h.wdTurn (X':={ X1 with calls:=upd X1.calls t c,waits:=upd X1.waits t true }) (by rw [hB1];exact K5.out.trans k6 fun j _ e=>e) (by rw [hB1];exact b6) rfl));clear q0 fr lW h6 k6 b6 z6;refine⟨by kernel_rfl,?_⟩;go_wp2;go_ret;refine⟨rfl,lab,B1,?_⟩;have h:=T6.out;rw [<-HX.out] at h;exact h
end
section
variable {s:AE} {X X':St}
def Ez (s:AE) (f:Nat) (args:Wb->Array Value) (v:Value) (X X':St):Prop:=∀ (w:World) (lab:Nat->Lb) (B:Wb),AN w lab s B X->Calls prog f (args B) w (WP w lab s B X' v)
abbrev GH (s:AE) (t:Nat) (X X':St):Prop:=Ez s 35 (fun B=> #[.pointer B.W, .int .i64 t]) (.tuple #[]) X X'
abbrev GI (s:AE) (X X':St):Prop:=Ez s 36 (fun B=> #[.pointer B.fb.F]) (.tuple #[]) X X'
abbrev Hk (s:AE) (X X':St):Prop:=Ez s 37 (fun B=> #[.pointer B.W, .int .u32 0]) (.tuple #[]) X X'
theorem UD (t:Nat) (ht:t=0∨t=1∨t=2) (h0:(X.rm.tk t).st=0) (c:Cl) (hk:JA c.kind):Ez s 14 (fun B=> #[.pointer B.W, .agg #[.int .u8 99, .int .i64 t, .int .u8 c.kind, .int .i64 c.dev, .int .i64 c.reg, .int .u32 c.val, .int .u32 0, .slice none 0 0]]) (.int .i64 0) X (X.called t c):=by
 intro w lab B h;obtain⟨bx,hbx⟩:=ex w.heap.size;have HA:=Ae (And.intro ht (And.intro h0 hk));clear ht h0 hk;have c1:=h.wd.z 1;have lW:=h.wd.lt;rw [hbx] at lW;have H:=Ae h;clear h;go_in;go_wp2_with fail;have kb:=(nr w).alloc (.cells #[.int .u8 99, .int .i64 t, .int .u8 c.kind, .int .i64 c.dev, .int .i64 c.reg, .int .u32 c.val, .int .u32 0, .slice none 0 0] 80);have bb:=AF.new w [.int .u8 99, .int .i64 t, .int .u8 c.kind, .int .i64 c.dev, .int .i64 c.reg, .int .u32 c.val, .int .u32 0, .slice none 0 0] 80;obtain⟨W1,hW1⟩:=ex (w.alloc (.cells #[.int .u8 99, .int .i64 t, .int .u8 c.kind, .int .i64 c.dev, .int .i64 c.reg, .int .u32 c.val, .int .u32 0, .slice none 0 0] 80));rw [hW1] at kb bb ⊢;rw [hbx] at bb;clear hW1;have T1:=Ae (H.out.turn_new kb);have b0:=bb.z 0;have b1:=bb.z 1;have b2:=bb.z 2;have b3:=bb.z 3;have b4:=bb.z 4;have b5:=bb.z 5;have b6:=bb.z 6;clear kb bb hbx
 try go_wp2_with fail
 refine(RJ T1.out.h t HA.out.1 HA.out.2.1 c HA.out.2.2).mono ?_;rintro e w2 ⟨rfl,lab2,B2,T2⟩;have T3:=Ae (T1.out.trans T2);clear T2 T1 b0 b1 b2 b3 b4 b5 b6 c1;go_wp2;go_ret;exact⟨rfl,lab2,B2,T3.out⟩
theorem xV (t:Nat) (g:GH s t X X'):Ez s 14 (fun B=> #[.pointer B.W, .agg #[.int .u8 116, .int .i64 t, .int .u8 Cl.none.kind, .int .i64 Cl.none.dev, .int .i64 Cl.none.reg, .int .u32 Cl.none.val, .int .u32 0, .slice none 0 0]]) (.int .i64 0) X X':=by
 intro w lab B h;obtain⟨bx,hbx⟩:=ex w.heap.size;have HA:=Ae g;clear g;have c1:=h.wd.z 1;have lW:=h.wd.lt;rw [hbx] at lW;have H:=Ae h;clear h;go_in;go_wp2_with fail;have kb:=(nr w).alloc (.cells #[.int .u8 116, .int .i64 t, .int .u8 Cl.none.kind, .int .i64 Cl.none.dev, .int .i64 Cl.none.reg, .int .u32 Cl.none.val, .int .u32 0, .slice none 0 0] 80);have bb:=AF.new w [.int .u8 116, .int .i64 t, .int .u8 Cl.none.kind, .int .i64 Cl.none.dev, .int .i64 Cl.none.reg, .int .u32 Cl.none.val, .int .u32 0, .slice none 0 0] 80;obtain⟨W1,hW1⟩:=ex (w.alloc (.cells #[.int .u8 116, .int .i64 t, .int .u8 Cl.none.kind, .int .i64 Cl.none.dev, .int .i64 Cl.none.reg, .int .u32 Cl.none.val, .int .u32 0, .slice none 0 0] 80));rw [hW1] at kb bb ⊢;rw [hbx] at bb;clear hW1;have T1:=Ae (H.out.turn_new kb);have b0:=bb.z 0;have b1:=bb.z 1;have b2:=bb.z 2;have b3:=bb.z 3;have b4:=bb.z 4;have b5:=bb.z 5;have b6:=bb.z 6;clear kb bb hbx
 try go_wp2_with fail
 refine(HA.out _ _ _ T1.out.h).mono ?_;rintro e w2 ⟨rfl,lab2,B2,T2⟩;have T3:=Ae (T1.out.trans T2);clear T2 T1 b0 b1 b2 b3 b4 b5 b6 c1;go_wp2;go_ret;exact⟨rfl,lab2,B2,T3.out⟩
theorem xX (g:GI s X X'):Ez s 14 (fun B=> #[.pointer B.W, .agg #[.int .u8 102, .int .i64 0, .int .u8 Cl.none.kind, .int .i64 Cl.none.dev, .int .i64 Cl.none.reg, .int .u32 Cl.none.val, .int .u32 0, .slice none 0 0]]) (.int .i64 0) X X':=by
 intro w lab B h;obtain⟨bx,hbx⟩:=ex w.heap.size;have HA:=Ae g;clear g;have c1:=h.wd.z 1;have lW:=h.wd.lt;rw [hbx] at lW;have H:=Ae h;clear h;go_in;go_wp2_with fail;have kb:=(nr w).alloc (.cells #[.int .u8 102, .int .i64 0, .int .u8 Cl.none.kind, .int .i64 Cl.none.dev, .int .i64 Cl.none.reg, .int .u32 Cl.none.val, .int .u32 0, .slice none 0 0] 80);have bb:=AF.new w [.int .u8 102, .int .i64 0, .int .u8 Cl.none.kind, .int .i64 Cl.none.dev, .int .i64 Cl.none.reg, .int .u32 Cl.none.val, .int .u32 0, .slice none 0 0] 80;obtain⟨W1,hW1⟩:=ex (w.alloc (.cells #[.int .u8 102, .int .i64 0, .int .u8 Cl.none.kind, .int .i64 Cl.none.dev, .int .i64 Cl.none.reg, .int .u32 Cl.none.val, .int .u32 0, .slice none 0 0] 80));rw [hW1] at kb bb ⊢;rw [hbx] at bb;clear hW1;have T1:=Ae (H.out.turn_new kb);have b0:=bb.z 0;have b1:=bb.z 1;have b2:=bb.z 2;have b3:=bb.z 3;have b4:=bb.z 4;have b5:=bb.z 5;have b6:=bb.z 6;clear kb bb hbx
 try go_wp2_with fail
 refine(HA.out _ _ _ T1.out.h).mono ?_;rintro e w2 ⟨rfl,lab2,B2,T2⟩;have T3:=Ae (T1.out.trans T2);clear T2 T1 b0 b1 b2 b3 b4 b5 b6 c1;go_wp2;go_ret;exact⟨rfl,lab2,B2,T3.out⟩
theorem xU (g:Hk s X X'):Ez s 14 (fun B=> #[.pointer B.W, .agg #[.int .u8 104, .int .i64 0, .int .u8 Cl.none.kind, .int .i64 Cl.none.dev, .int .i64 Cl.none.reg, .int .u32 Cl.none.val, .int .u32 0, .slice none 0 0]]) (.int .i64 0) X X':=by
 intro w lab B h;obtain⟨bx,hbx⟩:=ex w.heap.size;have HA:=Ae g;clear g;have c1:=h.wd.z 1;have lW:=h.wd.lt;rw [hbx] at lW;have H:=Ae h;clear h;go_in;go_wp2_with fail;have kb:=(nr w).alloc (.cells #[.int .u8 104, .int .i64 0, .int .u8 Cl.none.kind, .int .i64 Cl.none.dev, .int .i64 Cl.none.reg, .int .u32 Cl.none.val, .int .u32 0, .slice none 0 0] 80);have bb:=AF.new w [.int .u8 104, .int .i64 0, .int .u8 Cl.none.kind, .int .i64 Cl.none.dev, .int .i64 Cl.none.reg, .int .u32 Cl.none.val, .int .u32 0, .slice none 0 0] 80;obtain⟨W1,hW1⟩:=ex (w.alloc (.cells #[.int .u8 104, .int .i64 0, .int .u8 Cl.none.kind, .int .i64 Cl.none.dev, .int .i64 Cl.none.reg, .int .u32 Cl.none.val, .int .u32 0, .slice none 0 0] 80));rw [hW1] at kb bb ⊢;rw [hbx] at bb;clear hW1;have T1:=Ae (H.out.turn_new kb);have b0:=bb.z 0;have b1:=bb.z 1;have b2:=bb.z 2;have b3:=bb.z 3;have b4:=bb.z 4;have b5:=bb.z 5;have b6:=bb.z 6;clear kb bb hbx
 try go_wp2_with fail
 refine(HA.out _ _ _ T1.out.h).mono ?_;rintro e w2 ⟨rfl,lab2,B2,T2⟩;have T3:=Ae (T1.out.trans T2);clear T2 T1 b0 b1 b2 b3 b4 b5 b6 c1;go_wp2;go_ret;exact⟨rfl,lab2,B2,T3.out⟩
end
section
variable {s:AE} {X X':St}
theorem Ez.next {f:Nat} {args:Wb->Array Value} {v:Value} (g:Ez s f args v X X') {w0:World} {lab0:Nat->Lb} {B0 B:Wb} (T:Cs w0 lab0 s B0 X w lab B) {A:Array Value} (hA:args B=A):Calls prog f A w (WP w0 lab0 s B0 X' v):=by
 subst hA;refine(g _ _ _ T.h).mono ?_;rintro e w2 ⟨rfl,lab2,B2,T2⟩;exact⟨rfl,lab2,B2,T.trans T2⟩
theorem PF (Z:Nat->St) (gt:∀t,t=0∨t=1∨t=2->GH s t (Z t) (Z (t+1))) {X4 X5:St} (gf:GI s (Z 3) X4) (gk:Hk s X4 X5):
 Ez s 17 (fun B=> #[.pointer B.W, .int .u32 0]) (.tuple #[]) (Z 0) X5:=by
 intro w lab B h;have T0:=Ae (h.turn_new (kx_));have GT:=Ae gt;have GF:=Ae gf;have GK:=Ae gk;clear h gt gf gk;go_in;go_wp2;go_loopw [5] (fun i wr=>∃k:Nat,k<=3∧i= .int .i64 k∧∃lab1 B1,Cs w lab s B (Z k) wr lab1 B1) (fun i _=>3 - (intOf i).toNat);case atStart=>exact⟨0,by omega,rfl,_,_,T0.out⟩
 case round=>
  obtain⟨k,hk,rfl,lab1,B1,T1⟩:=hrel;by_cases hlt:k<3
  . have T1:=Ae T1;have hc:(k:Int)<3:=by omega
    have hk3:AG (k=0∨k=1∨k=2):=⟨by omega⟩;go_wp2_with fail;refine((xV k (GT.out k hk3.out)).next T1.out (by rw [T1.out.b.W];rfl)).mono ?_;rintro e w2 ⟨rfl,lab2,B2,T2⟩;have T2:=Ae T2;go_wp2;go_roundw;case rel=>exact⟨k+1,by omega,by go_num,lab2,B2,T2.out⟩
    case measure=>simp [intOf];omega
  . obtain rfl:k=3:=by omega
    have T1:=Ae T1;go_wp2_with fail;refine((xX GF.out).next T1.out (by rw [T1.out.b.W];rfl)).mono ?_;rintro e w2 ⟨rfl,lab2,B2,T2⟩;have T2:=Ae T2;go_wp2_with fail;refine((xU GK.out).next T2.out (by rw [T2.out.b.W];rfl)).mono ?_;rintro e w3 ⟨rfl,lab3,B3,T3⟩;have T3:=Ae T3;go_wp2;go_end0;exact⟨rfl,lab3,B3,T3.out⟩
theorem PG (v:Int) (hv:v=10+200*((s.nd+s.nc+s.nr:Nat):Int)) (hs:s.nd<=1000∧s.nc<=1000∧s.nr<=1000):Ez s 15 (fun B=> #[.pointer B.W, .int .i64 0]) (.int .i64 v) X X:=by
 intro w lab B h;have c4:=h.wd.z 4;obtain⟨n,hn⟩:∃n:Nat,s.nd+s.nc+s.nr=n:=⟨_,rfl⟩;rw [hn] at c4 hv;have hn3:n<=3000:=by omega
 have H:=Ae h;subst hv;clear h hn hs;go_in;go_wp2;go_ret;exact⟨by first | go_num | (rw [show min (0:Int) 100=0 from rfl,show wrap64 (10+wrap64 (200*(0+1)*(n:Int)))=10+200*n by unfold wrap64;omega];rfl),lab,B,H.out.turn_new (kx_)⟩
theorem EJ (b:Bool) (hb:b=decide (((X.rm.tk 0).st=0∧(X.rm.tk 1).st=0∧(X.rm.tk 2).st=0)∧X.fm.at_<0)):Ez s 16 (fun B=> #[.pointer B.W]) (.bool b) X X:=by
 intro w lab B h;have c2:=h.wd.z 2;have c1:=h.wd.z 1;have H:=Ae h;have HB:=Ae hb;clear h hb;obtain⟨q0,hq0⟩:∃q,(X.rm.tk 0).st=q:=⟨_,rfl⟩;obtain⟨q1,hq1⟩:∃q,(X.rm.tk 1).st=q:=⟨_,rfl⟩;obtain⟨q2,hq2⟩:∃q,(X.rm.tk 2).st=q:=⟨_,rfl⟩;obtain⟨f,hf⟩:∃q,X.fm.at_=q:=⟨_,rfl⟩;go_in;go_wp2;go_loopw [4] (fun i wr=>wr=w∧∃k:Nat,k<=3∧i= .int .i64 k∧∀t,t<k->(X.rm.tk t).st=0) (fun i _=>3 - (intOf i).toNat);case atStart=>exact⟨rfl,0,by omega,rfl,fun t h=>absurd h (by omega)⟩
 case round=>
  obtain⟨rfl,k,hk,rfl,hz⟩:=hrel;have HZ:=Ae hz;by_cases hlt:k<3
  . have hc:(k:Int)<3:=by omega
    have hk3:AG (k=0∨k=1∨k=2):=⟨by omega⟩;obtain⟨q,hq⟩:=ex ((X.rm.tk k).st);clear hz;go_wp2_with fail;refine mn_ (XS H.out.rpm k hk3.out hq) ?_;by_cases e:q=0
    . have eb:(q !=0)=false:=by rw [e];rfl
      rw [eb];have HQ:=Ae (hq.trans e);clear eb hq e;go_wp2;go_roundw;case rel=>exact⟨by trivial,k+1,by omega,by go_num,fun t ht=>by rcases Ji.1 ht with h | h;exact HZ.out t h;rw [h];exact HQ.out⟩
      case measure=>simp [intOf];omega
    . have eb:(q !=0)=true:=by simpa using e
      rw [eb];have HQ:AG ((X.rm.tk k).st≠0):=⟨by rw [hq];exact e⟩;clear eb hq e;go_wp2;go_ret;have hbv:=HB.out.trans (decide_eq_false (by
       rintro⟨⟨h0,h1,h2⟩, -⟩;rcases hk3.out with e | e | e <;> (rw [e] at HQ;first | exact HQ.out h0 | exact HQ.out h1 | exact HQ.out h2)))
      rw [hbv];exact⟨rfl,lab,B,H.out.turn_new (kx_)⟩
  . obtain rfl:k=3:=by omega
    clear hz;go_wp2_with fail;refine mn_ (OY H.out.firm) ?_;by_cases e:X.fm.at_<0
    . have e2:=e;go_wp2_with fail;refine mn_ (Oa H.out.firm) ?_;go_wp2;go_ret;rw [show b=true from HB.out.trans (decide_eq_true ⟨⟨HZ.out 0 (by omega),HZ.out 1 (by omega),HZ.out 2 (by omega)⟩,e2⟩)];exact⟨rfl,lab,B,H.out.turn_new (kx_)⟩
    . have e2:=e;go_wp2;go_ret;rw [show b=false from HB.out.trans (decide_eq_false fun h=>by have:=h.2;omega)];exact⟨rfl,lab,B,H.out.turn_new (kx_)⟩
theorem PH (hs:s.Ok) (i:Nat) (hi:i<s.nv) (hm:∀i,i<s.nc->(X.hx.ns i).kind≠111->0<(X.hx.ns i).m) {r:Bool} (hr:FX s X.hx i=r):Ez s 179 (fun B=> #[.pointer B.W, .int .i64 i]) (.bool r) X X:=by
 intro w lab B h;have c0:=h.wd.z 0;have H:=Ae h;have HA:=Ae (IX h.hard hs i hi hm hr);clear h hm hr hs;go_in;go_wp2_with fail;refine HA.out.mono ?_;rintro e w1 ⟨rfl,k⟩;have K:=Ae k;clear k;go_wp2;go_ret;exact⟨rfl,lab,B,H.out.turn_new K.out⟩
end
theorem yH (ao:Option Addr) (m c:Nat) (xs:List Value) (w:World) (src:Src w ao m c 14 xs) (hm:m<=100000):
 Calls prog 18 #[.slice ao m c] w (MJ 55 14 w ao m xs):=by
 obtain⟨i0,KI,KZ0,KZ1,KZ2⟩:=ik_ ON;have KS:=Ae src;clear src
 cases ao with
 | none=>
  obtain⟨rfl,rfl⟩:=KS.out.none rfl;have hx:xs=[]:=Gc (by have:=KS.out.len;omega);subst hx;have heq:=fun(W:World)=>Lib.run_eql_slice_nil (P:=prog) W 48 55 none 0 0 0 0 underlying48;go_in;go_wp2;go_ret
  exact⟨none,0,rfl,kx_,Gs,fun _=>rfl⟩
 | some ad=>
  have KO:=Ae (World.ownsRow_lit (base:=w.heap.size) (e:=55) (size:=14) w #[] 0 (al11_ _) (by omega) rfl);have KN:=Ae ((nr w).alloc (.cells #[] 55));have KC:=Ae (KS.out.new KN.out);have KM:=Ae (show 0+m<=maxLen by unfold maxLen;omega);have KL:=Ae (show w.heap.size<=(w.alloc (.cells #[] 55)).heap.size by simp);have heq:=fun(W:World)=>Lib.run_eql_slice_nil (P:=prog) W 48 55 (some ad) m c 0 0 underlying48;go_in;go_wp2_with (at_builtin;refine wpList_append_own _ rfl (.tmp 5) (.tmp 6) 48 rfl w.heap.size 55 i0 _ 14 120 underlying48 KI.out KZ0.out KZ1.out KZ2.out rfl (by decide) _ _ _ rfl KO.out ad m c xs rfl KC.out.len (KC.out.cells ad rfl) KC.out.one KM.out (by omega) KL.out ?_;intro v' w2 own2 grow2 _;obtain⟨a',c',hv⟩:=AI own2;subst hv;have KO2:=Ae own2;have K2:=Ae (KN.out.grown grow2 (fun j e hj=>absurd (KO.out.lt j e).1 (by omega)));clear own2 grow2);have own2:=KO2.out;simp only [Ag,CK] at own2;go_ret;exact⟨a',c',by simp,K2.out,own2,fun e=>by cases e⟩
def YW (l:List Ev) (j:Nat):Value:=(GB l)[j]?.getD undef
theorem evsC_at:∀ (l:List Ev) (i k:Nat),k<14->(GB l)[i*14+k]?=(l[i]?).bind fun e=>e.cells[k]?:=by
 intro l
 induction l with
 | nil=>intro i k _;rfl
 | cons e l ih=>
  intro i k hk;have e1:GB (e::l)=e.cells++GB l:=by rw [GB,List.flatMap_cons];rfl
  rw [e1]
  cases i with
  | zero=>rw [Nat.zero_mul,Ag,List.getElem?_append_left (by simpa using hk)];rfl
  | succ i=>
   rw [ME (by simp;omega),show(i+1)*14+k - e.cells.length=i*14+k from by simp;omega,ih i k hk];rfl
theorem Oc {l:List Ev} {i:Nat} {e:Ev} (h:l[i]?=some e) (k:Nat) (hk:k<14):some (YW l (i*14+k))=e.cells[k]?:=by
 rw [YW,evsC_at l i k hk,h];show some (e.cells[k]?.getD undef)=e.cells[k]?;rw [List.getElem?_eq_getElem (by simpa using hk)];rfl
section
variable {w:World} {lab:Nat->Lb} {s:AE} {B:Wb} {X:St}
def UK (w:World) (lab:Nat->Lb) (s:AE) (B:Wb) (X:St) (e:Ending) (w':World):Prop:=
 AJ w w'∧∃a c,e= .returned (.slice a X.ev.length c)∧(X.ev≠[]->∃g,a=some ⟨g,0,none⟩∧w.heap.size<=g∧Row w' g 55 (X.ev.length*14) (YW X.ev))
theorem GM (h:AN w lab s B X) (hn:X.ev.length<=1000):Calls prog 9 #[.pointer B.W] w (UK w lab s B X):=by
 have c20:=h.wd.z 20;obtain⟨a0,cap0,hv0⟩:=AI h.ev.own;rw [hv0] at c20;have SR:AG (Src w a0 X.ev.length cap0 14 (GB X.ev)):=⟨Ug (by rw [<-hv0];exact h.ev.own) (QM _)⟩;obtain⟨n,hN⟩:=ex X.ev.length;have HN:=Ae hN;have H:=Ae h;clear h hv0;rw [hN] at c20 SR hn;clear hN;go_in;go_wp2_with fail;refine(yH a0 n cap0 _ w SR.out (by omega)).mono ?_;rintro e w1 ⟨a,c,rfl,k1,own, -⟩;have K1:=Ae k1;have RG:AG (X.ev≠[]->∃g,a=some ⟨g,0,none⟩∧w.heap.size<=g∧Row w1 g 55 (n*14) (YW X.ev)):=⟨fun hne=>by
  rcases own.2 with⟨hv,h0⟩ | ⟨g,c',cur,hv,hb,hg,hle,hm,hs,ht⟩
  . rw [<-HN.out] at h0;exact absurd (Gc h0) hne
  . injection hv with h1 h2 h3;refine⟨g,h1,hb,cur,hg,fun i hi=>?_⟩;have hi2:i<(GB X.ev).length:=by rw [QO,HN.out];exact hi
    have h4:(cur.toList.take (n*14))[i]?=(GB X.ev)[i]?:=by rw [ht]
    rw [List.getElem?_take_of_lt hi,Array.getElem?_toList] at h4;rw [h4,YW,List.getElem?_eq_getElem hi2];rfl⟩
 clear own k1 c20;go_wp2;go_loopw [12] (fun i wr=>∃k:Nat,k<=n∧i= .int .i64 k∧AJ w wr∧(X.ev≠[]->∃g,a=some ⟨g,0,none⟩∧w.heap.size<=g∧Row wr g 55 (n*14) (YW X.ev))) (fun i _=>n - (intOf i).toNat);case atStart=>exact⟨0,by omega,rfl,K1.out,RG.out⟩
 case round=>
  obtain⟨k,hk,rfl,kw,rg⟩:=hrel;have KW:=Ae kw;by_cases hlt:k<n
  . obtain⟨g,ha,hg,row⟩:=rg (by intro e;have:=HN.out;rw [e] at this;simp at this;omega);subst ha;obtain⟨ev,hev⟩:∃ev,X.ev[k]?=some ev:=⟨_,List.getElem?_eq_getElem (by rw [HN.out];exact hlt)⟩;have f13:YW X.ev (k*14+13)= .slice none 0 0:=by have h:=Oc hev 13 (by omega);injection h
    have r13:wr.cell? (g (k*14+13))=some (.slice none 0 0):=by rw [row.cell (by omega),f13]
    have HG:=Ae hg;have ROW:=Ae row;have F13:=Ae f13;clear kw rg hg row f13 hev;have hc:(k:Int)<n:=by omega
    go_wp2_with fail;refine(Q9 none 0 0 [] wr ⟨fun _=>⟨rfl,rfl⟩,rfl,fun ad e=>(by cases e),fun ad e=>(by cases e),fun u hu=>(by cases hu)⟩ (by omega)).mono ?_;rintro e w2 ⟨a2,c2,rfl,k2,own2,hz⟩;obtain rfl:=hz rfl;obtain rfl:c2=0:=by
     rcases own2.2 with⟨hv,_⟩ | ⟨g,c',cur,hv,_⟩
     . injection hv
     . injection hv with h1 _ _;cases h1
    have K2:=Ae k2;have row2:=ROW.out.keep k2 id;have ROW2:=Ae row2;have r13':w2.cell? (g (k*14+13))=some (.slice none 0 0):=by rw [row2.cell (by omega),F13.out]
    have fr:=fun i=>row2.frozen i;have lg:=row2.lt;clear k2 own2 hz row2 r13;go_wp2;go_roundw;case rel=>
     refine⟨k+1,by omega,by go_num,?_,fun _=>⟨g,rfl,HG.out,?_⟩⟩
     . refine(KW.out.then_ K2.out).trans (keeps_set _) fun j hj (e:j=g)=>?_;have:=HG.out;omega
     . refine(ROW2.out.set (k*14+13) (.slice none 0 0)).congr fun i hi=>?_;by_cases e:i=k*14+13
       . rw [if_pos e,e,F13.out]
       . rw [if_neg e]
    case measure=>simp [intOf];omega
  . obtain rfl:k=n:=by omega
    have RG2:=Ae rg;clear kw rg;go_wp2;go_ret;refine⟨KW.out,a,c,by rw [HN.out];rfl,?_⟩;rw [HN.out];exact RG2.out
end
end Go.Proofs.YtpekoejdnhaohaaGreatDoor
