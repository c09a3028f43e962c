/- What a range over a function gives, what Contains and Index find, and what Post and Take of the bus leave. For every such bus. -/
import Derived.RangeFuncNested
import Derived.RangeFuncBound
import Derived.RangeFuncCalls
import Derived.RangeFuncLeaves
import Derived.Shelf.Abstract
import Derived.Shelf.RegionOpen
import Derived.OwnWalkIn
import Derived.TacticsInMore
import Derived.LoopNIn
import Derived.LoopIn
import Derived.Deep.RegionLawGrows
import Derived.Test.YtpekoejdnhaohaaGreatDoorD
import Derived.Test.YtpekoejdnhaohaaGreatDoorE
namespace Go.Proofs.YtpekoejdnhaohaaGreatDoor
open Go.RowKit Tryz
set_option maxRecDepth 100000
set_option maxHeartbeats 40000000
set_option linter.all false
variable {a:Act} {listed:Array Bool} {F:Fence} {k:Int} {xs:List Value} {B D c fuel g gr gw m n off:Nat} {rs:Nat->Int} {S:Nat->Prop} {qs:Nat->Value} {P:Program} {v:Value} {X Y w w':World}
section
open Go.Shelf
abbrev NC (B:Nat) (X Y:World):Prop:=AD (fun k=>B<=k∧∃o:Obj,X.heap[k]?=some o∧o.isCells=false) X Y
theorem FT (h:AJ X Y):NC B X Y:=h.mono fun _ e=>e.elim
theorem OJ {l:Nat} {o:Obj} (o':Obj) (hB:B<=l) (h:X.heap[l]?=some o) (ho:o.isCells=false):NC B X (X.putObj l o'):=
 ⟨rfl,rfl,rfl,by simp,fun k hk hn=>World.putObj_heap_other fun e=>hn ⟨by omega,o,by rw [e];exact h,ho⟩⟩
def Held (o:Obj):Prop:=o.isCells=false∨∃c t r,(t=430∨t=359∨t=48)∧o= .cells c t r
structure DW (B:Nat) (X Y:World):Prop where
 size:X.heap.size<=Y.heap.size
 same:∀ (k:Nat) (o:Obj),B<=k->X.heap[k]?=some o->Held o->Y.heap[k]?=some o
theorem DW.trans {Z:World} (h:DW B X Y) (k:DW B Y Z):DW B X Z:=⟨Nat.le_trans h.size k.size,fun i o hB hi ho=>k.same i o hB (h.same i o hB hi ho) ho⟩
theorem DW.new (h:AJ X Y):DW B X Y:=⟨h.size,fun k o _ hk _=>(h.block k (Ci.1 hk).1 id).trans hk⟩
theorem DW.mono {C:Nat} (h:DW B X Y) (e:B<=C):DW C X Y:=⟨h.size,fun k o hB=>h.same k o (by omega)⟩
def G0 (P:Program) (g:Nat) (lb:Array Value) (xs:List (Array Value)) (Mem:World->Prop):Prop:=
 ∀ (l:Nat) (J:Nat->World->Prop) (W:World),
  (∀i X Y,J i X->NC W.heap.size X Y->J i Y)->(∀i X,J i X->Mem X)->
  (∀i (h:i<xs.length) X,J i X->YieldAt Fence.wide 0 P l xs[i] X fun e Y=>e= .returned (.bool true)∧J (i+1) Y∧DW W.heap.size X Y)->
  J 0 W->CallsIn Fence.wide 0 P g (#[.func (.yield l) #[] #[]]++lb) W fun e Y=>(∃v,e= .returned v)∧J xs.length Y
theorem La {p:Prop} (h:Fence.wide.depth.isSome=true):p:=by cases h
theorem Ct {g:Operand} {ps:Array Tmp} {assign body:Code} {Q:Exit->Act->World->Prop} {gf:Nat} {lb:Array Value} {xs:List (Array Value)} {Mem:World->Prop}
 (hg:a.eval g= .func (.func gf) #[] lb) (eg:∀args w,(callFunc gf args).run P w= .ok (.enter gf args) w)
 (hseq:G0 P gf lb xs Mem) (hps:∀i (h:i<xs.length),xs[i].size=ps.size)
 (I:Nat->World->Prop) (hI:∀i X Y,I i X->NC w.heap.size X Y->I i Y) (hM:∀i X,I i X->Mem X) (h0:I 0 w)
 (hround:∀ (l i:Nat) (h:i<xs.length) (X:World),I i X->
  assign.wpIn (Fence.wide.inRound l) 0 P (Exit.then (fun a₁ X1=>AJ X X1∧∀X2,NC w.heap.size X1 X2->body.wpIn (Fence.wide.inRound l) 0 P (fun e _ Y=>e= .normal∧DW w.heap.size X2 Y∧I (i+1) Y) a₁ X2) (fun _ _ _=>False))
   { tmps:=(ps.zip xs[i]).foldl (fun t (p,v)=>t.setIfInBounds p v) a.tmps,defers:=[] } X)
 (hdone:∀ (D:Nat) (W:World),w.heap.size<=D->I xs.length W->W.heap[D]?=some (.deferred (some []))->Q .normal { a with defers:={ target:= .collected D,args:= #[] }::a.defers } W):
 (Code.rangeFunc g ps assign body).wpIn Fence.wide 0 P Q a w:=by
 refine wpIn_rangeFunc ?_;intro fn hfn;obtain⟨rec,hrec⟩:∃rec:LoopState->Loop,rec=fun st=>{ state:=st,pending:=none,fn,tmps:=a.tmps,params:=ps,assign,body,defers:=w.heap.size }:=⟨_,rfl⟩;obtain⟨W1,hW1⟩:=ex ((w.alloc (.deferred (some []))).alloc (.loop (rec .ready)));have k1:AJ w W1:=by rw [<-hW1];exact((AD.refl _ w).alloc _).alloc _
 have z1:W1.heap.size=w.heap.size+2:=by rw [<-hW1];simp
 have hL1:W1.heap[w.heap.size+1]?=some (.loop (rec .ready)):=by
  rw [<-hW1];have:=World.alloc_heap_new (w.alloc (.deferred (some []))) (.loop (rec .ready));rwa [Ay] at this
 have hK1:W1.heap[w.heap.size]?=some (.deferred (some [])):=by
  rw [<-hW1];exact(Below.heap_alloc _ _ _ (by simp)).trans (World.alloc_heap_new w _)
 refine⟨w.heap.size+1,[{ target:= .collected w.heap.size,args:= #[] }],W1,{ target:= .fn (.func gf) lb,args:= #[.func (.yield (w.heap.size+1)) #[] #[]] },W1,gf,
  #[.func (.yield (w.heap.size+1)) #[] #[]]++lb,W1,?_,?_,?_,?_,La,?_⟩
 . rw [<-hW1,hrec];exact run_enterLoop_outer _ _ _ _ _
 . simp only [resolve,hg];simp [go_sem]
 . intro f' hf';trivial
 . simp [invoke,go_sem,eg]
 . refine(hseq (w.heap.size+1) (fun i X=>I i X∧X.heap[w.heap.size+1]?=some (.loop (rec .ready))∧X.heap[w.heap.size]?=some (.deferred (some []))) W1 ?_ (fun i X h=>hM i X h.1) ?_ ⟨hI 0 _ _ h0 (FT k1),hL1,hK1⟩).mono ?_
   . rintro i X Y ⟨hi,hl,hk⟩ hn;have kk:∀k o,k<w.heap.size+2->X.heap[k]?=some o->Y.heap[k]?=some o:=fun k o hk h=>(hn.block k (Ci.1 h).1 fun c=>by have:=c.1;omega).trans h;exact⟨hI i X Y hi (hn.mono fun k c=>⟨by have:=c.1;omega,c.2⟩),kk _ _ (by omega) hl,kk _ _ (by omega) hk⟩
   . rintro i hlt X ⟨hi,hl,hk⟩;have hy:=run_yield (P:=P) (args:=xs[i]) hl (by rw [hrec];exact hps i hlt);rw [hrec] at hy;refine⟨fn,_,assign,body,hy,roundIn_of_wpIn hfn (wpIn_mono (hround _ i hlt X hi) ?_)⟩;intro e a1 X1 hX1
     match e,hX1 with
     | .normal,hX1=>
     obtain⟨kn,hb⟩:=hX1;replace hl:X1.heap[w.heap.size+1]?=some (.loop (rec .ready)):=(kn.block _ (Ci.1 hl).1 id).trans hl;replace hk:X1.heap[w.heap.size]?=some (.deferred (some [])):=(kn.block _ (Ci.1 hk).1 id).trans hk;have hlx:=(Ci.1 hl).1;refine⟨_,run_beginRound hl (by rw [hrec]),?_⟩;have hl2:(X1.putObj (w.heap.size+1) (.loop { rec .ready with state:= .busy })).heap[w.heap.size+1]?=some (.loop { rec .ready with state:= .busy }):=World.putObj_heap_same hlx;refine wpIn_mono (hb _ (OJ _ (by omega) hl rfl)) ?_;rintro e a3 W3 ⟨rfl,hkf,hi3⟩;have hl3:=hkf.same _ _ (by omega) hl2 (.inl rfl);have hk3:=hkf.same _ _ (al11_ _) ((World.putObj_heap_other (by omega)).trans hk) (.inl rfl);have hr:=run_endRound (P:=P) none hl3;refine⟨_,_,hr,rfl,⟨hI _ _ _ hi3 (OJ _ (by omega) hl3 rfl),?_,(World.putObj_heap_other (by omega)).trans hk3⟩,?_⟩
     . rw [hrec];exact World.putObj_heap_same (Ci.1 hl3).1
     . refine⟨by have:=hkf.size;have:=kn.size;simp at this ⊢;simp at*;omega,fun k o hB hX ho=>?_⟩;have e:k≠w.heap.size+1:=by omega
       refine(World.putObj_heap_other e).trans (hkf.same k o (by omega) ((World.putObj_heap_other e).trans ?_) ho);exact(kn.block k (Ci.1 hX).1 id).trans hX
   . rintro e W2 ⟨⟨v,rfl⟩,hi,hl,hk⟩;have hend:=run_endLoop (P:=P) hl (by rw [hrec];simp);rw [hrec] at hend;exact⟨none,_,hend,hdone _ _ (al11_ _) (hI _ _ _ hi (OJ _ (by omega) hl rfl)) ((World.putObj_heap_other (by omega)).trans hk)⟩
structure G6 (B:Nat) (W:World) (ds:List Deferred) (rs:List Nat):Prop where
 eq:ds=rs.map fun r=>{ target:= .collected r,args:= #[] }
 at_:∀r ∈ rs,B<=r∧W.heap[r]?=some (.deferred (some []))
 one:rs.Nodup
theorem Cc {fn:Func} {tmps:Array Value} {R:Ending->World->Prop}:∀ (rs:List Nat) (ds:List Deferred) (W:World),G6 B W ds rs->
 (∀Y,NC B W Y->LeavesInM Fence.wide 0 P fn tmps R [] .returning Y)->LeavesInM Fence.wide 0 P fn tmps R ds .returning W:=by
 intro rs
 induction rs with
 | nil=>
  intro ds W h hR;rw [h.eq]
  exact hR W (FT (kx_))
 | cons r rs ih=>
  intro ds W h hR;rw [h.eq];obtain⟨hr,hone⟩:=List.nodup_cons.1 h.one;obtain⟨hB,hk⟩:=h.at_ r List.mem_cons_self;have hn:NC B W (W.putObj r (.deferred none)):=OJ _ hB hk rfl;refine⟨by simp, .inl ⟨r,_,rfl,run_takeDeferred hk,ih _ _ ⟨rfl,fun q hq=>?_,hone⟩ fun Y hY=>hR Y (hn.trans hY fun j hj c=>?_)⟩⟩
  . obtain⟨h1,h2⟩:=h.at_ q (al19_ _ hq);exact⟨h1,(World.putObj_heap_other (fun e=>hr (by rw [<-e];exact hq))).trans h2⟩
  . obtain⟨c1,o,c2,c3⟩:=c;refine⟨c1,?_⟩;by_cases e:j=r
    . subst e;exact⟨_,hk,rfl⟩
    . rw [World.putObj_heap_other e] at c2;exact⟨o,c2,c3⟩
section
variable {P:Program} {ops:Array Oper} {Q:Exit->Act->World->Prop} {md:Region.Mode}
def G7 (F:Fence) (P:Program) (o:Oper) (ρ:Operand->Value) (w:World) (C:Value->World->Prop):Prop:=
 ∀ (a:Act) (K:Act->World->Prop) (Q:Exit->Act->World->Prop),a.eval=ρ->(∀v w',C v w'->K (a.put o.dst v) w')->o.wpIn F 0 P a w K Q
theorem PE (rem:List Nat) (V:Nat->(Nat->Value)->World->Prop) (J:World->Prop) (R:Nat->World->World->Prop)
 (hsz:listed.size=ops.size) (hord:D7 md ops listed [] rem=true) (hap:Dk ops rem=true) (htl:Fv md ops listed rem 3=true)
 (hdst:(rem.all fun i=>match dstOf ops i with | some d=>decide (d<a.tmps.size) | none=>true)=true)
 (hJ:J w)
 (step:∀i ∈ rem,∀o,ops[i]?=some o->∀ (vals:Nat->Value) (ρ:Operand->Value) (w':World),J w'->
  (∀j ∈ rem,Ad md ops i j=true->V j vals w'∧∀d,dstOf ops j=some d->ρ (.tmp d)=vals j)->
  (∀x,JO ops rem x=true->ρ x=a.eval x)->
  G7 F P o ρ w' fun v w''=>R i w' w''∧J w''∧True∧V i (turn vals i v) w'')
 (stab:∀k ∈ rem,∀i ∈ rem,i≠k->Ad md ops k i=false->∀vals w' w'',R i w' w''->V k vals w'->V k vals w'')
 (cong:∀i ∈ rem,∀vals vals' w',vals i=vals' i->(∀j ∈ rem,Ad md ops i j=true->vals j=vals' j)->V i vals w'->V i vals' w')
 (fin:∀vals w',J w'->(∀i ∈ rem,V i vals w')->wpAnyIn F 0 P md ops Q fuel (JV listed rem) (Am ops vals a rem) w'):
 wpAnyIn F 0 P md ops Q (rem.length+fuel) listed a w:=
 Kb (X:=wpAnyIn F 0 P md ops Q) (Gv:=G7 F P) (S:=fun _=>True) (fun fuel listed a w hne h=>⟨fun e=>absurd e hne,fun i hi=>by
  obtain⟨o,ho,hw,g⟩:=h i hi;unfold wpOpIn;rw [ho];simp only [hw,if_true];exact g a _ Q rfl fun _ _ c=>c.2⟩) (fun o ρ w C C' g hc a K Q ha hK=>g a K Q ha fun v w' c=>hK v w' (hc v w' c)) rem V (fun _ _=>J) R hsz hord hap htl hdst hJ (fun i hi o ho _ vals ρ w' _ hj=>step i hi o ho vals ρ w' hj) stab cong (fun _ vals w' _=>fin vals w')
theorem JZ {S:World->Prop} (rem:List Nat) (V:Nat->(Nat->Value)->World->Prop) (J:(Nat->Bool)->(Nat->Value)->World->Prop) (R:Nat->World->World->Prop)
 (hsz:listed.size=ops.size) (hord:D7 md ops listed [] rem=true) (hap:Dk ops rem=true) (htl:Fv md ops listed rem 3=true)
 (hdst:(rem.all fun i=>match dstOf ops i with | some d=>decide (d<a.tmps.size) | none=>true)=true)
 (hJ:J (fun _=>false) (fun _=>undef) w)
 (step:∀i ∈ rem,∀o,ops[i]?=some o->∀ (done:Nat->Bool) (vals:Nat->Value) (ρ:Operand->Value) (w':World),done i=false->J done vals w'->
  (∀j ∈ rem,Ad md ops i j=true->V j vals w'∧∀d,dstOf ops j=some d->ρ (.tmp d)=vals j)->
  (∀x,JO ops rem x=true->ρ x=a.eval x)->
  Fi P o ρ w' fun v w''=>R i w' w''∧J (turn done i true) (turn vals i v) w''∧S w''∧V i (turn vals i v) w'')
 (stab:∀k ∈ rem,∀i ∈ rem,i≠k->Ad md ops k i=false->∀vals w' w'',R i w' w''->V k vals w'->V k vals w'')
 (cong:∀i ∈ rem,∀vals vals' w',vals i=vals' i->(∀j ∈ rem,Ad md ops i j=true->vals j=vals' j)->V i vals w'->V i vals' w')
 (fin:∀done vals w',(∀i ∈ rem,done i=true)->J done vals w'->(∀i ∈ rem,V i vals w')->wpAnyH P md ops Q S fuel (JV listed rem) (Am ops vals a rem) w'):
 wpAnyH P md ops Q S (rem.length+fuel) listed a w:=
 Kb (X:=wpAnyH P md ops Q S) (Gv:=Fi P) (fun fuel listed a w hne h=>⟨fun e=>absurd e hne,fun i hi=>by
  obtain⟨o,ho,hw,g⟩:=h i hi;unfold wpOp;rw [ho];simp only [hw,if_true];exact .inl (g.wp fun _ _ c=>c)⟩) (fun o ρ w C C' g hc a K Q ha hK=>g a K Q ha fun v w' c=>hK v w' (hc v w' c)) rem V J R hsz hord hap htl hdst hJ step stab cong fin
theorem Bb {i:Nat} {d:Tmp} {o:Oper} {C:Value->World->Prop} (ho:ops[i]?=some o) (hd:dstOf ops i=some d) (hw:Region.wanted o (yielded ops a.tmps)=true) (hr:Region.ready md ops listed=[i]) (g:G7 F P o a.eval w C)
 (h:∀v w',C v w'->wpAnyIn F 0 P md ops Q fuel (listed.setIfInBounds i true) (a.put (some d) v) w'):wpAnyIn F 0 P md ops Q (fuel+1) listed a w:=by
 refine⟨fun e=>(by rw [e] at hr;cases hr),fun j hj=>?_⟩;rw [hr] at hj;obtain rfl:=Dz.1 hj;have e:o.dst=some d:=by unfold dstOf at hd;rw [ho] at hd;exact hd
 unfold wpOpIn;rw [ho];simp only [hw,if_true];exact g a _ Q rfl fun v w' c=>by rw [e];exact h v w' c
end
end
structure UJ (w:World) (ao:Option Addr) (m:Nat) (f:Nat->Int):Prop where
 at_:0<m->∃g o,ao=some ⟨g,o,none⟩∧∀i,i<m->w.cell? ⟨g,o+i,none⟩=some (.int .i64 (f i))
def IndexR (m:Nat) (f:Nat->Int) (x r:Int):Prop:=(r= -1∧∀i,i<m->f i≠x)∨∃i:Nat,r=(i:Int)∧i<m∧f i=x
theorem YM (ao:Option Addr) (m c:Nat) (f:Nat->Int) (x:Int) (w:World) (h:UJ w ao m f) (hm:m<=1000):
 Calls prog 291 #[.slice ao m c, .int .i64 x] w fun e w'=>(∃r,e= .returned (.int .i64 r)∧IndexR m f x r)∧w'=w:=by
 have H:=Ae h;clear h;go_in;go_wp2;go_loopw [8] (fun i wr=>∃k:Nat,k<=m∧i= .int .i64 k∧wr=w∧AG (∀i,i<k->f i≠x)) (fun i _=>m - (intOf i).toNat);case atStart=>exact⟨0,by omega,rfl,rfl,⟨fun i hi=>by omega⟩⟩
 case round=>
  obtain⟨k,hk,rfl,rfl,no⟩:=hrel;by_cases hlt:k<m
  . obtain⟨g,o,rfl,hc⟩:=H.out.at_ (by omega);have c0:=hc k hlt;obtain⟨y,hy⟩:=ex (f k);rw [hy] at c0;have HY:=Ae hy;clear hc hy;by_cases he:x=y
    . subst he;go_wp2;go_ret;exact⟨⟨k,by first | rfl | trivial, .inr ⟨k,rfl,hlt,HY.out⟩⟩,by first | rfl | trivial⟩
    . have hne:=Ae he;go_wp2;go_roundw;case rel=>exact⟨k+1,by omega,by go_num,by first | rfl | trivial,⟨fun i hi=>by
       by_cases e:i=k
       . subst e;rw [HY.out];exact fun e=>hne.out e.symm
       . exact no.out i (by omega)⟩⟩
      case measure=>simp [intOf];omega
  . have hkm:k=m:=by omega
    subst hkm;go_wp2;go_ret;exact⟨⟨-1,by first | rfl | trivial, .inl ⟨rfl,no.out⟩⟩,by first | rfl | trivial⟩
theorem Q7 (ao:Option Addr) (m c:Nat) (f:Nat->Int) (x:Int) (w:World) (h:UJ w ao m f) (hm:m<=1000) {b:Bool} (hb:b=decide (∃i,i<m∧f i=x)):
 Calls prog 255 #[.slice ao m c, .int .i64 x] w fun e w'=>e= .returned (.bool b)∧w'=w:=by
 have H:=Ae h;have HB:=Ae hb;clear h hb;go_in;go_wp2_with fail;refine(YM ao m c f x _ H.out hm).mono ?_;rintro e w2 ⟨⟨r,rfl,hr⟩,rfl⟩;have HR:=Ae hr;clear hr;go_wp2;go_ret;refine⟨?_,rfl⟩;rw [HB.out];rcases HR.out with⟨rfl,no⟩ | ⟨i,rfl,hi,hf⟩
 . have:¬ ∃i,i<m∧f i=x:=fun⟨i,hi,hf⟩=>no i hi hf;simp [this]
 . have:∃i,i<m∧f i=x:=⟨i,hi,hf⟩;simp [this]
def RX (id:Int) (b:Bool) (r v:Int):List Value:=[.int .i64 id, .bool b, .int .i64 r, .int .u32 v]
def El (w:World) (v:Value) (m:Nat) (xs:List Value):Prop:=
 w.ownsRow 0 305 4 v m xs∨
 (∃b off,v= .slice (some ⟨b,off,none⟩) m m∧xs.length=m*4∧b<w.heap.size∧∀j u,xs[j]?=some u->w.cell? ⟨b,off+j,none⟩=some u)
theorem Ab.setPosted (h:Ab w B gr gw n rs qs k) (x:Int):
 Ab (w.setCell (B 2) (.int .i64 x)) B gr gw n rs qs x:=
 ⟨(FI (fun e=>by injection e with _ e;omega)).trans h.c0,(FI (fun e=>by injection e with _ e;omega)).trans h.c1,World.cell?_setCell_same _ _ _ h.c2,fun o=>(World.frozen?_setCell _ _ _ _).trans (h.fb o),by simpa using h.lb,h.r.setOther (fun e=>h.ne1 e.symm) _,h.q.setOther (fun e=>h.ne2 e.symm) _,h.ne1,h.ne2,h.ne3⟩
theorem Ab.setQueue (h:Ab w B gr gw n rs qs k) (D:Nat) (v:Value):
 Ab (w.setCell (gw D) v) B gr gw n rs (fun j=>if j=D then v else qs j) k:=by
 have ne:∀o,((gw D):Addr)≠(B o):=fun o e=>h.ne2 (by injection e with e;exact e.symm);exact⟨(FI (ne 0)).trans h.c0,(FI (ne 1)).trans h.c1,(FI (ne 2)).trans h.c2,fun o=>(World.frozen?_setCell _ _ _ _).trans (h.fb o),by simpa using h.lb,h.r.setOther h.ne3 _,h.q.set D v,h.ne1,h.ne2,h.ne3⟩
theorem Ab.grown {row:Option Nat} (h:Ab w B gr gw n rs qs k) (hg:w.grownBy w' row) (hr:∀j,row=some j->j≠B∧j≠gr∧j≠gw):Ab w' B gr gw n rs qs k:=by
 have hB:=hg.block B h.lb (fun e=>(hr _ e.symm).1 rfl);exact⟨(World.cell?_of_block (a:=(B 0)) hB).trans h.c0,(World.cell?_of_block (a:=(B 1)) hB).trans h.c1,(World.cell?_of_block (a:=(B 2)) hB).trans h.c2,fun o=>(World.frozen?_of_block (a:=(B o)) hB).trans (h.fb o),Bo h.lb hg.size,
  h.r.of_block (hg.block _ h.r.lt (fun e=>(hr _ e.symm).2.1 rfl)),h.q.of_block (hg.block _ h.q.lt (fun e=>(hr _ e.symm).2.2 rfl)),h.ne1,h.ne2,h.ne3⟩
theorem Ab.keep (h:Ab w B gr gw n rs qs k) (m:AD S w w') (hB:¬S B) (hr:¬S gr) (hw:¬S gw):Ab w' B gr gw n rs qs k:=
 ⟨(m.cell (p:=(B 0)) h.lb hB).trans h.c0,(m.cell (p:=(B 1)) h.lb hB).trans h.c1,(m.cell (p:=(B 2)) h.lb hB).trans h.c2,fun o=>(m.frozen (p:=(B o)) h.lb hB).trans (h.fb o),Bo h.lb m.size,h.r.of_block (m.block _ h.r.lt hr),h.q.of_block (m.block _ h.q.lt hw),h.ne1,h.ne2,h.ne3⟩
theorem Ab.drew (h:Ab w B gr gw n rs qs k):Ab w.drew B gr gw n rs qs k:=
 ⟨h.c0,h.c1,h.c2,h.fb,h.lb,h.r,h.q,h.ne1,h.ne2,h.ne3⟩
theorem Ab.alloc (h:Ab w B gr gw n rs qs k) (o:Obj):Ab (w.alloc o) B gr gw n rs qs k:=h.below ((Below.refl _ w).alloc (al11_ _) o)
theorem Ry {base e size:Nat} (h:w.ownsRow base e size v n xs) (b:Below w.heap.size w w'):w'.ownsRow base e size v n xs:=by
 refine⟨h.1,?_⟩;rcases h.2 with h0 | ⟨g,cap,cur,hv,hb,hg,r⟩
 . exact .inl h0
 . exact .inr ⟨g,cap,cur,hv,hb,(b.block g (Ci.1 hg).1).trans hg,r⟩
theorem Fr (w:World) (p:Addr) (v:Value):w.grownBy (w.setCell p v) (some p.block):=
 ⟨rfl,rfl,rfl,by simp,fun k _ hne=>by simp [World.setCell,Array.getElem?_modify];intro e;exact absurd (by rw [e]) hne⟩
theorem QI (w:World) (x y z u:Value) (t:TypeId):∀j s,[x,y,z,u][j]?=some s->(w.alloc (.cells #[x,y,z,u] t)).cell? (((w.heap.size 0):Addr).add j)=some s:=by
 intro j s hj
 match j,hj with
 | 0,hj=>simp at hj;subst hj;simp [Addr.add]
 | 1,hj=>simp at hj;subst hj;simp [Addr.add]
 | 2,hj=>simp at hj;subst hj;simp [Addr.add]
 | 3,hj=>simp at hj;subst hj;simp [Addr.add]
 | k+4,hj=>simp at hj
theorem UG (b off j:Nat):((b off):Addr).add j=(b (off+j)):=by unfold Addr.add;split <;> simp_all
def PostL (S:Nat->Prop) (w:World) (B gr gw n:Nat) (rs:Nat->Int) (qs:Nat->Value) (k:Int) (D m:Nat) (xs:List Value) (e:Ending) (w':World):Prop:=
 ∃v cap g,v= .slice (some ⟨g,0,none⟩) (m+1) cap∧e=Tl k 0∧AD S w w'∧Ab w' B gr gw n rs (fun j=>if j=D then v else qs j) (k+1)∧w'.ownsRow 0 305 4 v (m+1) xs∧((qs D).ownBlock=some g∨w.heap.size<=g)
theorem Xa (S:Nat->Prop) (h:Ab w B gr gw n rs qs k) (sB:S B) (sw:S gw)
 (W D R:Nat) (b:Bool) (v r:Int) (hW:W<4294967296) (hs:MI W (D:Int) (R:Int)) (hD:D<n) (hr:rs D=r) (hq:(R:Int)<r) (k0:0<=k) (k1:k<=1000) {a:Option Addr} {m c:Nat} {xs:List Value} (hm:qs D= .slice a m c) (h4:m<4) (hf:∀j,(Value.slice a m c).ownBlock=some j->j≠B∧j≠gr∧j≠gw) (sq:∀j,(Value.slice a m c).ownBlock=some j->S j) (ho:w.ownsRow 0 305 4 (.slice a m c) m xs):
 Calls prog 362 #[.pointer B, .int .u32 W, .bool b, .int .u32 v] w (PostL S w B gr gw n rs qs k D m (xs++RX k b R v)):=by
 obtain⟨i0,KI,KZ0,KZ1,KZ2⟩:=ik_ QA;have H:=Ae h;have HS:=Ae hs;have HW:=Ae hW;have HR:=Ae hr;have HM:=Ae hm;have HO:=Ae ho;clear h hs hW hr hm ho;go_in;go_wp2_with fail;refine(Ku _ HW.out rfl HS.out).mono ?_;rintro e w1 ⟨rfl,m1⟩;have H1:=Ae (H.out.mild m1);have M1:AG (AD S w w1):=⟨m1.new.mono fun _ s=>s.elim⟩;have L1:=m1.below.size;have O1:=Ae (Ry HO.out m1.below);clear m1 H HO;go_wp2_with fail;refine(Hv H1.out D hD).mono ?_;rintro e w' ⟨rfl,rfl⟩;have c0:=H1.out.c0;have c1:=H1.out.c1;have c2:=H1.out.c2;have f2:=H1.out.fb 2;have r0:=(H1.out.r.cell hD).trans (by rw [HR.out]);have q0:=(H1.out.q.cell hD).trans (by rw [HM.out]);go_wp2_with fail;have U0:=H1.out.setPosted (k+1);have O20:(w'.setCell (B 2) (.int .i64 (k+1))).ownsRow 0 305 4 (.slice a m c) m xs:=O1.out.kept (Fr w' (B 2) (.int .i64 (k+1))) (Or.inr (fun e=>(hf B e).1 rfl));have M20:AD S w (w'.setCell (B 2) (.int .i64 (k+1))):=AD.setCell (S:=S) M1.out (p:=(B 2)) (fun _=>sB) _;obtain⟨w2,hw2⟩:∃w2:World,w'.setCell (B 2) (.int .i64 (k+1))=w2:=⟨_,rfl⟩;rw [hw2] at U0 O20 M20 ⊢;have U:=Ae U0;have O2:=Ae O20;have M2:=Ae M20;clear hw2 U0 O20 M20 c0 c1 c2 f2 r0 q0 O1 M1 H1;have hsz:=M2.out.size;have c1:=U.out.c1;have q1:=(U.out.q.cell hD).trans (by rw [HM.out]);have fq:=U.out.q.frozen D;have lB:=U.out.lb;have lq:=U.out.q.lt;have HR2:=Ae hf;have SQ:=Ae sq;clear hf sq;go_region_law (refine step_append_lies _ rfl (.tmp 68) (.tmp 74) 311 rfl 0 305 i0 _ 4 32 underlying311 KI.out KZ0.out KZ1.out KZ2.out rfl (by decide) (.slice a m c) m xs (by simp [Act.eval]) (O2.out.alloc _).drew (w2.heap.size 0) 1 1 (RX k b R v) (by simp [Act.eval]) rfl (QI w2 _ _ _ _ _) (by simp [RX,Value.oneCell']) (by omega) (by unfold maxLen;omega) (by omega) (Nat.zero_le _) _ rfl ?_;intro g cap w3 own3 grow3 hat hlt;have N3:=Ae ((M2.out.alloc (.cells #[.int .i64 k, .bool b, .int .i64 R, .int .u32 v] 305)).drew.grown grow3 (fun j e _=>SQ.out j e));have U3:=Ae (Ab.grown (U.out.alloc (.cells #[.int .i64 k, .bool b, .int .i64 R, .int .u32 v] 305)).drew grow3 HR2.out);have c1':=U3.out.c1;have fq':=U3.out.q.frozen D;have q1':=U3.out.q.cell hD;have Z3:=Ae own3;have G3:g≠gw∧((Value.slice a m c).ownBlock=some g∨w.heap.size<=g):=(by rcases hat with e | e;exact⟨(HR2.out g e).2.2,Or.inl e⟩;exact⟨by rw [e];simp;omega,Or.inr (by rw [e];simp;omega)⟩);clear own3 grow3 hat)
 all_goals go_wp2_with fail
 all_goals have KO:=Ae (Z3.out.kept (Fr w3 (gw D) (.slice g (m+1) cap)) (Or.inr (by have:=G3.1;simp [Value.ownBlock];omega)))
 all_goals go_ret2
 all_goals exact⟨_,cap,g,rfl,rfl,AD.setCell (S:=S) N3.out (p:=(gw D)) (fun _=>sw) _,U3.out.setQueue D _,KO.out,by rw [HM.out];exact G3.2⟩
theorem Rp (S:Nat->Prop) (h:Ab w B gr gw n rs qs k) (sB:S B) (sw:S gw)
 (W D R:Nat) (b:Bool) (v r:Int) (hW:W<4294967296) (hs:MI W (D:Int) (R:Int)) (hD:D<n) (hr:rs D=r) (hq:(R:Int)<r) (k0:0<=k) (k1:k<=1000) {qb off m:Nat} {xs:List Value} (hm:qs D= .slice (some (qb off)) m m) (h4:m<4) (hl:xs.length=m*4) (hb:qb<w.heap.size) (hbb:qb≠B) (ho:∀j u,xs[j]?=some u->w.cell? (qb (off+j))=some u):
 Calls prog 362 #[.pointer B, .int .u32 W, .bool b, .int .u32 v] w (PostL S w B gr gw n rs qs k D m (xs++RX k b R v)):=by
 obtain⟨i0,KI,KZ0,KZ1,KZ2⟩:=ik_ QA;have H:=Ae h;have HS:=Ae hs;have HW:=Ae hW;have HR:=Ae hr;have HM:=Ae hm;have HO:=Ae ho;clear h hs hW hr hm ho;go_in;go_wp2_with fail;refine(Ku _ HW.out rfl HS.out).mono ?_;rintro e w1 ⟨rfl,m1⟩;have H1:=Ae (H.out.mild m1);have M1:AG (AD S w w1):=⟨m1.new.mono fun _ s=>s.elim⟩;have L1:=m1.below.size;have O1:=Ae (fun j u hj=>(m1.cell (p:=(qb (off+j))) hb).trans (HO.out j u hj));have hb1:qb<w1.heap.size:=Bo hb m1.below.size;clear m1 H HO;go_wp2_with fail;refine(Hv H1.out D hD).mono ?_;rintro e w' ⟨rfl,rfl⟩;have c0:=H1.out.c0;have c1:=H1.out.c1;have c2:=H1.out.c2;have f2:=H1.out.fb 2;have r0:=(H1.out.r.cell hD).trans (by rw [HR.out]);have q0:=(H1.out.q.cell hD).trans (by rw [HM.out]);go_wp2_with fail;have U0:=H1.out.setPosted (k+1);have O20:∀j u,xs[j]?=some u->(w'.setCell (B 2) (.int .i64 (k+1))).cell? (qb (off+j))=some u:=fun j u hj=>(FI (fun e=>by injection e with e;omega)).trans (O1.out j u hj);have hb20:qb<(w'.setCell (B 2) (.int .i64 (k+1))).heap.size:=by simpa using hb1
 have M20:AD S w (w'.setCell (B 2) (.int .i64 (k+1))):=AD.setCell (S:=S) M1.out (p:=(B 2)) (fun _=>sB) _;obtain⟨w2,hw2⟩:∃w2:World,w'.setCell (B 2) (.int .i64 (k+1))=w2:=⟨_,rfl⟩;rw [hw2] at U0 O20 M20 hb20 ⊢;have U:=Ae U0;have O2:=Ae O20;have M2:=Ae M20;clear hw2 U0 O20 M20 c0 c1 c2 f2 r0 q0 O1 M1 H1;have hsz:=M2.out.size;have c1:=U.out.c1;have q1:=(U.out.q.cell hD).trans (by rw [HM.out]);have fq:=U.out.q.frozen D;have lB:=U.out.lb;have lq:=U.out.q.lt;go_region_law (refine step_append_grows rfl (.tmp 68) (.tmp 74) 311 rfl 305 i0 _ 4 32 underlying311 KI.out KZ0.out KZ1.out KZ2.out rfl (by decide) (some (qb off)) m m xs (by simp [Act.eval]) (fun e=>by cases e) hl (fun ad e j u hj=>(by injection e with e;subst e;rw [UG];exact(World.cell?_alloc_lt w2 _ (qb (off+j)) hb20).trans (O2.out j u hj))) (w2.heap.size 0) 1 1 (RX k b R v) (by simp [Act.eval]) rfl (QI w2 _ _ _ _ _) (by simp [RX,Value.oneCell']) (by omega) (by unfold maxLen;omega) (by omega) ?_;intro v' w3 own3 grow3;obtain⟨g,cap,hv⟩:=Joins.ownsRow_form own3 (by omega);subst hv;have N3:=Ae ((M2.out.alloc (.cells #[.int .i64 k, .bool b, .int .i64 R, .int .u32 v] 305)).drew.grown grow3 (fun j e _=>by cases e));have U3:=Ae (Ab.grown (U.out.alloc (.cells #[.int .i64 k, .bool b, .int .i64 R, .int .u32 v] 305)).drew grow3 (fun j e=>by cases e));have c1':=U3.out.c1;have fq':=U3.out.q.frozen D;have q1':=U3.out.q.cell hD;have Z3:=Ae (Joins.ownsRow_le own3 (Nat.zero_le _));have gl:=(own3.lt g rfl).1;have G3:g≠gw∧w.heap.size<=g:=(by simp at gl;omega);clear own3 grow3 gl)
 all_goals go_wp2_with fail
 all_goals have KO:=Ae (Z3.out.kept (Fr w3 (gw D) (.slice g (m+1) cap)) (Or.inr (by have:=G3.1;simp [Value.ownBlock];omega)))
 all_goals go_ret2
 all_goals exact⟨_,cap,g,rfl,rfl,AD.setCell (S:=S) N3.out (p:=(gw D)) (fun _=>sw) _,U3.out.setQueue D _,KO.out,Or.inr G3.2⟩
abbrev Zh (id:Int) (b:Bool) (r v:Int) (ok:Bool):Ending:= .returned (.tuple #[.agg #[.int .i64 id, .bool b, .int .i64 r, .int .u32 v], .bool ok])
theorem Ua (h:Ab w B gr gw n rs qs k) (D:Nat) (hD:D<n) {a:Option Addr} (hq:qs D= .slice a m c) (hm:m<=0):
 Calls prog 222 #[.pointer B, .int .i64 D] w fun e w'=>e=Zh 0 false 0 0 false∧CG w w':=by
 obtain rfl:m=0:=by omega
 have H:=Ae (h.alloc (.cells #[.int .i64 0, .bool false, .int .i64 0, .int .u32 0] 305));have HM:=Ae hq;clear h hq;go_in;go_wp2_with fail;refine mn_ (Hv H.out D hD) ?_;have c1:=H.out.c1;have q1:=(H.out.q.cell hD).trans (by rw [HM.out]);go_wp2_with fail;refine bodyPost_ret (v:= .tuple #[.agg #[.int .i64 0, .bool false, .int .i64 0, .int .u32 0], .bool false]) (by simp [results,results222,go_sem]) rfl ⟨rfl,?_⟩;exact(CG.refl _).alloc _ _
def IJ (S:Nat->Prop) (w:World) (B gr gw n:Nat) (rs:Nat->Int) (qs:Nat->Value) (k:Int) (D:Nat) (v:Value) (w':World):Prop:=
 AD S w w'∧Ab w' B gr gw n rs (fun j=>if j=D then v else qs j) k∧w.heap.size<=w'.heap.size∧∀p:Addr,p.block<w.heap.size->p.block≠gw->w'.cell? p=w.cell? p
theorem Ab.setFar (h:Ab w B gr gw n rs qs k) {p:Addr} (h1:p.block≠B) (h2:p.block≠gr) (h3:p.block≠gw) (x:Value):Ab (w.setCell p x) B gr gw n rs qs k:=by
 have ne:∀o,p≠(B o):=fun o e=>h1 (by rw [e]);exact⟨(FI (ne 0)).trans h.c0,(FI (ne 1)).trans h.c1,(FI (ne 2)).trans h.c2,fun o=>(World.frozen?_setCell _ _ _ _).trans (h.fb o),by simpa using h.lb,h.r.setOther (fun e=>h2 e.symm) _,h.q.setOther (fun e=>h3 e.symm) _,h.ne1,h.ne2,h.ne3⟩
theorem IJ.set (h:IJ S w B gr gw n rs qs k D v w') (lB:B<w.heap.size) (lr:gr<w.heap.size) (lw:gw<w.heap.size) (o:Nat) (x:Value):
 IJ S w B gr gw n rs qs k D v (w'.setCell (w.heap.size o) x):=
 ⟨AD.setCell (S:=S) h.1 (p:=(w.heap.size o)) (fun e=>absurd e (DE _)) _,h.2.1.setFar (by dsimp only;omega) (by dsimp only;omega) (by dsimp only;omega) _,by simpa using h.2.2.1,fun p hp hn=>(FI (fun e=>by rw [<-e] at hp;dsimp only at hp;omega)).trans (h.2.2.2 p hp hn)⟩
theorem IJ.drew (h:IJ S w B gr gw n rs qs k D v w'):IJ S w B gr gw n rs qs k D v w'.drew:=
 ⟨h.1.drew,h.2.1.drew,h.2.2.1,h.2.2.2⟩
theorem Ub (S:Nat->Prop) (h:Ab w B gr gw n rs qs k) (sw:S gw) (D:Nat) (hD:D<n) (hq:qs D= .slice (some (g off)) (m+1) c) (hc:(m+1)<=c) (hg:g<w.heap.size) (hgb:g≠gw)
 (id r v:Int) (b:Bool) (x0:w.cell? (g off)=some (.int .i64 id)) (x1:w.cell? (g (off+1))=some (.bool b)) (x2:w.cell? (g (off+2))=some (.int .i64 r)) (x3:w.cell? (g (off+3))=some (.int .u32 v)) (hm:0<m):
 Calls prog 222 #[.pointer B, .int .i64 D] w fun e w'=>e=Zh id b r v true∧IJ S w B gr gw n rs qs k D (.slice (some (g (off+4))) m m) w':=by
 have H:=Ae (h.alloc (.cells #[.int .i64 0, .bool false, .int .i64 0, .int .u32 0] 305));have HM:=Ae hq;have lw:=h.q.lt;have lr:=h.r.lt;have lB:=h.lb;have R0:=World.rowIs_alloc (w.setCell (gw D) (.slice (some (g (off+4))) m m)) #[.int .i64 0, .bool false, .int .i64 0, .int .u32 0] 305 (fun i=>(#[.int .i64 0, .bool false, .int .i64 0, .int .u32 0]:Array Value).getD i undef) (fun i hi=>by simp [Array.getD,show i<4 from hi]);rw [Fg] at R0;have ne:∀o,((gw D):Addr)≠(g (off+o)):=fun o e=>by injection e with e;omega
 have al:∀o,((w.setCell (gw D) (.slice (some (g (off+4))) m m)).alloc (.cells #[.int .i64 0, .bool false, .int .i64 0, .int .u32 0] 305)).cell? (g (off+o))=w.cell? (g (off+o)):=fun o=>(World.cell?_alloc_lt (w.setCell (gw D) (.slice (some (g (off+4))) m m)) _ (g (off+o)) (by simpa using hg)).trans (FI (ne o));have U:=Ae ((h.setQueue D (.slice (some (g (off+4))) m m)).alloc (.cells #[.int .i64 0, .bool false, .int .i64 0, .int .u32 0] 305));have L0:AD S w ((w.setCell (gw D) (.slice (some (g (off+4))) m m)).alloc (.cells #[.int .i64 0, .bool false, .int .i64 0, .int .u32 0] 305)):=(AD.setCell (S:=S) (AD.refl S w) (p:=(gw D)) (fun _=>sw) (.slice (some (g (off+4))) m m)).alloc _;have L:=Ae L0;have KY:=Ae (And.intro ((al 0).trans x0) (And.intro ((al 1).trans x1) (And.intro ((al 2).trans x2) ((al 3).trans x3))));have KR:=Ae R0;have KF:AG (∀p:Addr,p.block<w.heap.size->p.block≠gw->((w.setCell (gw D) (.slice (some (g (off+4))) m m)).alloc (.cells #[.int .i64 0, .bool false, .int .i64 0, .int .u32 0] 305)).cell? p=w.cell? p):=⟨fun p hp hn=>(World.cell?_alloc_lt (w.setCell (gw D) (.slice (some (g (off+4))) m m)) _ p (by simpa using hp)).trans (FI (fun e=>hn (by rw [<-e])))⟩;clear h hq R0 ne al x0 x1 x2 x3 L0;go_in;go_wp2_with fail;refine mn_ (Hv H.out D hD) ?_;have c1:=H.out.c1;have q1:=(H.out.q.cell hD).trans (by rw [HM.out]);have fq:=H.out.q.frozen D;go_wp2_with fail;go_region;clear c1 q1 fq;obtain⟨w2,hw2⟩:∃w2:World,(w.setCell (gw D) (.slice (some (g (off+4))) m m)).alloc (.cells #[.int .i64 0, .bool false, .int .i64 0, .int .u32 0] 305)=w2:=⟨_,rfl⟩;rw [hw2] at KY KR U L KF ⊢;clear hw2 H;have y0:w2.cell? (g off)=some (.int .i64 id):=KY.out.1;have y1:=KY.out.2.1;have y2:=KY.out.2.2.1;have y3:=KY.out.2.2.2;have z0:w2.cell? (w.heap.size 0)=some (.int .i64 0):=KR.out.cell (i:=0) (by simp);have z1:w2.cell? (w.heap.size 1)=some (.bool false):=KR.out.cell (i:=1) (by simp);have z2:w2.cell? (w.heap.size 2)=some (.int .i64 0):=KR.out.cell (i:=2) (by simp);have z3:w2.cell? (w.heap.size 3)=some (.int .u32 0):=KR.out.cell (i:=3) (by simp);have f0:=KR.out.frozen 0;have f1:=KR.out.frozen 1;have f2:=KR.out.frozen 2;have f3:=KR.out.frozen 3;go_wp2_with fail;have o:∀i j:Nat,i≠j->((w.heap.size i):Addr)≠(w.heap.size j):=fun i j h e=>h (by injection e);have s0:=World.cell?_setCell_same w2 (w.heap.size 0) (.int .i64 id) z0;have s1:=World.cell?_setCell_same (w2.setCell (w.heap.size 0) (.int .i64 id)) (w.heap.size 1) (.bool b) ((FI (o 0 1 (by omega))).trans z1);have s2:=World.cell?_setCell_same ((w2.setCell (w.heap.size 0) (.int .i64 id)).setCell (w.heap.size 1) (.bool b)) (w.heap.size 2) (.int .i64 r) ((FI (o 1 2 (by omega))).trans ((FI (o 0 2 (by omega))).trans z2));have s3:=World.cell?_setCell_same (((w2.setCell (w.heap.size 0) (.int .i64 id)).setCell (w.heap.size 1) (.bool b)).setCell (w.heap.size 2) (.int .i64 r)) (w.heap.size 3) (.int .u32 v) ((FI (o 2 3 (by omega))).trans ((FI (o 1 3 (by omega))).trans ((FI (o 0 3 (by omega))).trans z3)));refine bodyPost_ret (v:= .tuple #[.agg #[.int .i64 id, .bool b, .int .i64 r, .int .u32 v], .bool true]) (by simp [results,results222,go_sem,s0,s1,s2,s3]) rfl ⟨rfl,?_⟩;clear s0 s1 s2 s3 o y0 y1 y2 y3 z0 z1 z2 z3 f0 f1 f2 f3;have T:IJ S w B gr gw n rs qs k D (.slice (some (g (off+4))) m m) w2:=⟨L.out,U.out,L.out.size,KF.out⟩;exact((((T.set lB lr lw 0 _).set lB lr lw 1 _).set lB lr lw 2 _).set lB lr lw 3 _).drew
theorem Uc (S:Nat->Prop) (h:Ab w B gr gw n rs qs k) (sw:S gw) (D:Nat) (hD:D<n) (hq:qs D= .slice (some (g off)) 1 c) (hc:1<=c) (hc2:c<=9223372036854775807) (hg:g<w.heap.size) (hgb:g≠gw)
 (id r v:Int) (b:Bool) (x0:w.cell? (g off)=some (.int .i64 id)) (x1:w.cell? (g (off+1))=some (.bool b)) (x2:w.cell? (g (off+2))=some (.int .i64 r)) (x3:w.cell? (g (off+3))=some (.int .u32 v)):
 Calls prog 222 #[.pointer B, .int .i64 D] w fun e w'=>e=Zh id b r v true∧IJ S w B gr gw n rs qs k D (.slice (some (g off)) 0 0) w':=by
 have H:=Ae (h.alloc (.cells #[.int .i64 0, .bool false, .int .i64 0, .int .u32 0] 305));have HM:=Ae hq;have lw:=h.q.lt;have lr:=h.r.lt;have lB:=h.lb;have R0:=World.rowIs_alloc (w.setCell (gw D) (.slice (some (g off)) 0 0)) #[.int .i64 0, .bool false, .int .i64 0, .int .u32 0] 305 (fun i=>(#[.int .i64 0, .bool false, .int .i64 0, .int .u32 0]:Array Value).getD i undef) (fun i hi=>by simp [Array.getD,show i<4 from hi]);rw [Fg] at R0;have ne:∀o,((gw D):Addr)≠(g (off+o)):=fun o e=>by injection e with e;omega
 have al:∀o,((w.setCell (gw D) (.slice (some (g off)) 0 0)).alloc (.cells #[.int .i64 0, .bool false, .int .i64 0, .int .u32 0] 305)).cell? (g (off+o))=w.cell? (g (off+o)):=fun o=>(World.cell?_alloc_lt (w.setCell (gw D) (.slice (some (g off)) 0 0)) _ (g (off+o)) (by simpa using hg)).trans (FI (ne o));have U:=Ae ((h.setQueue D (.slice (some (g off)) 0 0)).alloc (.cells #[.int .i64 0, .bool false, .int .i64 0, .int .u32 0] 305));have L0:AD S w ((w.setCell (gw D) (.slice (some (g off)) 0 0)).alloc (.cells #[.int .i64 0, .bool false, .int .i64 0, .int .u32 0] 305)):=(AD.setCell (S:=S) (AD.refl S w) (p:=(gw D)) (fun _=>sw) (.slice (some (g off)) 0 0)).alloc _;have L:=Ae L0;have KY:=Ae (And.intro ((al 0).trans x0) (And.intro ((al 1).trans x1) (And.intro ((al 2).trans x2) ((al 3).trans x3))));have KR:=Ae R0;have KF:AG (∀p:Addr,p.block<w.heap.size->p.block≠gw->((w.setCell (gw D) (.slice (some (g off)) 0 0)).alloc (.cells #[.int .i64 0, .bool false, .int .i64 0, .int .u32 0] 305)).cell? p=w.cell? p):=⟨fun p hp hn=>(World.cell?_alloc_lt (w.setCell (gw D) (.slice (some (g off)) 0 0)) _ p (by simpa using hp)).trans (FI (fun e=>hn (by rw [<-e])))⟩;clear h hq R0 ne al x0 x1 x2 x3 L0;go_in;go_wp2_with fail;refine mn_ (Hv H.out D hD) ?_;have c1:=H.out.c1;have q1:=(H.out.q.cell hD).trans (by rw [HM.out]);have fq:=H.out.q.frozen D;go_wp2_with fail;go_region;clear c1 q1 fq;obtain⟨w2,hw2⟩:∃w2:World,(w.setCell (gw D) (.slice (some (g off)) 0 0)).alloc (.cells #[.int .i64 0, .bool false, .int .i64 0, .int .u32 0] 305)=w2:=⟨_,rfl⟩;rw [hw2] at KY KR U L KF ⊢;clear hw2 H;have y0:w2.cell? (g off)=some (.int .i64 id):=KY.out.1;have y1:=KY.out.2.1;have y2:=KY.out.2.2.1;have y3:=KY.out.2.2.2;have z0:w2.cell? (w.heap.size 0)=some (.int .i64 0):=KR.out.cell (i:=0) (by simp);have z1:w2.cell? (w.heap.size 1)=some (.bool false):=KR.out.cell (i:=1) (by simp);have z2:w2.cell? (w.heap.size 2)=some (.int .i64 0):=KR.out.cell (i:=2) (by simp);have z3:w2.cell? (w.heap.size 3)=some (.int .u32 0):=KR.out.cell (i:=3) (by simp);have f0:=KR.out.frozen 0;have f1:=KR.out.frozen 1;have f2:=KR.out.frozen 2;have f3:=KR.out.frozen 3;go_wp2_with fail;have o:∀i j:Nat,i≠j->((w.heap.size i):Addr)≠(w.heap.size j):=fun i j h e=>h (by injection e);have s0:=World.cell?_setCell_same w2 (w.heap.size 0) (.int .i64 id) z0;have s1:=World.cell?_setCell_same (w2.setCell (w.heap.size 0) (.int .i64 id)) (w.heap.size 1) (.bool b) ((FI (o 0 1 (by omega))).trans z1);have s2:=World.cell?_setCell_same ((w2.setCell (w.heap.size 0) (.int .i64 id)).setCell (w.heap.size 1) (.bool b)) (w.heap.size 2) (.int .i64 r) ((FI (o 1 2 (by omega))).trans ((FI (o 0 2 (by omega))).trans z2));have s3:=World.cell?_setCell_same (((w2.setCell (w.heap.size 0) (.int .i64 id)).setCell (w.heap.size 1) (.bool b)).setCell (w.heap.size 2) (.int .i64 r)) (w.heap.size 3) (.int .u32 v) ((FI (o 2 3 (by omega))).trans ((FI (o 1 3 (by omega))).trans ((FI (o 0 3 (by omega))).trans z3)));refine bodyPost_ret (v:= .tuple #[.agg #[.int .i64 id, .bool b, .int .i64 r, .int .u32 v], .bool true]) (by simp [results,results222,go_sem,s0,s1,s2,s3]) rfl ⟨rfl,?_⟩;clear s0 s1 s2 s3 o y0 y1 y2 y3 z0 z1 z2 z3 f0 f1 f2 f3;have T:IJ S w B gr gw n rs qs k D (.slice (some (g off)) 0 0) w2:=⟨L.out,U.out,L.out.size,KF.out⟩;exact((((T.set lB lr lw 0 _).set lB lr lw 1 _).set lB lr lw 2 _).set lB lr lw 3 _).drew
theorem El.keep (h:El w v m xs) (k:AD S w w') (hn:∀j,v.ownBlock=some j->¬S j):El w' v m xs:=by
 rcases h with h | ⟨qb,off,h1,h2,h3,h5⟩
 . refine .inl ⟨h.1,?_⟩;rcases h.2 with h0 | ⟨g,cap,cur,hv,hb,hg,r⟩
   . exact .inl h0
   . exact .inr ⟨g,cap,cur,hv,hb,(k.block g (Ci.1 hg).1 (hn g (by rw [hv];rfl))).trans hg,r⟩
 . exact .inr ⟨qb,off,h1,h2,Bo h3 k.size,fun j u hj=>(k.cell (p:=(qb (off+j))) h3 (hn qb (by rw [h1];rfl))).trans (h5 j u hj)⟩
theorem El.form (h:El w v m xs):∃a c,v= .slice a m c:=by
 rcases h with h | ⟨qb,off,h1,_⟩
 . rcases h.2 with⟨hv,h0⟩ | ⟨g,c,cur,hv,_⟩
   . exact⟨none,0,by rw [hv,h0]⟩
   . exact⟨_,_,hv⟩
 . exact⟨_,_,h1⟩
theorem El.open (h:El w v m xs) (hm:0<m) (h4:m<=4):
 ∃g off c,v= .slice (some ⟨g,off,none⟩) m c∧m<=c∧c<=maxLen∧g<w.heap.size∧xs.length=m*4∧∀j u,xs[j]?=some u->w.cell? ⟨g,off+j,none⟩=some u:=by
 rcases h with h | ⟨qb,off,h1,h2,h3,h5⟩
 . obtain⟨g,c,hv⟩:=Joins.ownsRow_form h hm;subst hv;rcases h.2 with⟨hv,h0⟩ | ⟨g',c',cur,hv,hb,hg,hle,hmx,_⟩
   . omega
   . injection hv with e1 e2 e3;injection e1 with e1;injection e1 with e1;subst e1 e3;refine⟨g,0,c,rfl,hle,hmx,(Ci.1 hg).1,h.1,fun j u hj=>?_⟩;have:=h.cells rfl j u hj;rw [UG] at this;exact this
 . subst h1;exact⟨qb,off,m,rfl,al11_ _,by unfold maxLen;omega,h3,h2,h5⟩
def PostQ (S:Nat->Prop) (w:World) (B gr gw n:Nat) (rs:Nat->Int) (qs:Nat->Value) (k:Int) (D m:Nat) (xs:List Value) (e:Ending) (w':World):Prop:=
 ∃v g,e=Tl k 0∧AD S w w'∧Ab w' B gr gw n rs (fun j=>if j=D then v else qs j) (k+1)∧El w' v (m+1) xs∧v.ownBlock=some g∧((qs D).ownBlock=some g∨w.heap.size<=g)
theorem post_q (S:Nat->Prop) (h:Ab w B gr gw n rs qs k) (sB:S B) (sw:S gw)
 (W D R:Nat) (b:Bool) (v r:Int) (hW:W<4294967296) (hs:MI W (D:Int) (R:Int)) (hD:D<n) (hr:rs D=r) (hq:(R:Int)<r) (k0:0<=k) (k1:k<=1000) {m:Nat} {xs:List Value} (h4:m<4)
 (hf:∀j,(qs D).ownBlock=some j->j≠B∧j≠gr∧j≠gw) (sq:∀j,(qs D).ownBlock=some j->S j) (hQ:El w (qs D) m xs):
 Calls prog 362 #[.pointer B, .int .u32 W, .bool b, .int .u32 v] w (PostQ S w B gr gw n rs qs k D m (xs++RX k b R v)):=by
 obtain⟨a,c,hv⟩:=hQ.form;rcases hQ with ho | ⟨qb,off,h1,h2,h3,h5⟩
 . rw [hv] at ho hf sq;exact(Xa S h sB sw W D R b v r hW hs hD hr hq k0 k1 hv h4 hf sq ho).mono fun e w' ⟨u,cap,g,hu,he,t1,t2,t3,t4⟩=>⟨u,g,he,t1,t2, .inl t3,by rw [hu];rfl,t4⟩
 . exact(Rp S h sB sw W D R b v r hW hs hD hr hq k0 k1 h1 h4 h2 h3 (hf qb (by rw [h1];rfl)).1 h5).mono fun e w' ⟨u,cap,g,hu,he,t1,t2,t3,t4⟩=>⟨u,g,he,t1,t2, .inl t3,by rw [hu];rfl,t4⟩
def TakeQ (S:Nat->Prop) (w:World) (B gr gw n:Nat) (rs:Nat->Int) (qs:Nat->Value) (k:Int) (D m:Nat) (xs:List Value) (id r v:Int) (b:Bool) (e:Ending) (w':World):Prop:=
 e=Zh id b r v true∧∃v',AD S w w'∧Ab w' B gr gw n rs (fun j=>if j=D then v' else qs j) k∧El w' v' m xs∧v'.ownBlock=(qs D).ownBlock
theorem take_q (S:Nat->Prop) (h:Ab w B gr gw n rs qs k) (sw:S gw)
 (D:Nat) (hD:D<n) {m:Nat} {xs:List Value} (h4:m<4) (id r v:Int) (b:Bool) (hf:∀j,(qs D).ownBlock=some j->j≠gw) (hQ:El w (qs D) (m+1) (RX id b r v++xs)):
 Calls prog 222 #[.pointer B, .int .i64 D] w (TakeQ S w B gr gw n rs qs k D m xs id r v b):=by
 obtain⟨g,off,c,hv,hc,hc2,hg,hl,hx⟩:=hQ.open (by omega) (by omega);have hgb:g≠gw:=hf g (by rw [hv];rfl);have x0:=hx 0 _ rfl;have x1:=hx 1 _ rfl;have x2:=hx 2 _ rfl;have x3:=hx 3 _ rfl;have hlx:xs.length=m*4:=by simp [RX] at hl;omega
 have hys:∀j u,xs[j]?=some u->w.cell? (g (off+4+j))=some u:=fun j u hj=>by
  rw [show off+4+j=off+(j+4) by omega];exact hx (j+4) u (by simpa [RX] using hj)
 by_cases hm:m=0
 . subst hm;obtain rfl:xs=[]:=Gc (by omega);refine(Uc S h sw D hD hv hc (by unfold maxLen at hc2;omega) hg hgb id r v b x0 x1 x2 x3).mono fun e w' ⟨he,t1,t2,t3,t4⟩=>⟨he,_,t1,t2,?_,by rw [hv];rfl⟩;exact Or.inr ⟨g,off,rfl,rfl,by omega,fun j u hj=>by simp at hj⟩
 . refine(Ub S h sw D hD hv hc hg hgb id r v b x0 x1 x2 x3 (by omega)).mono fun e w' ⟨he,t1,t2,t3,t4⟩=>⟨he,_,t1,t2,?_,by rw [hv];rfl⟩;exact Or.inr ⟨g,off+4,rfl,hlx,by omega,fun j u hj=>(t4 (g (off+4+j)) hg (by dsimp only;omega)).trans (hys j u hj)⟩
end Go.Proofs.YtpekoejdnhaohaaGreatDoor
