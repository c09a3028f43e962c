/- What the table's small questions and forms compute, and one tick of the tree of clocks. For every such table and tree. -/
import Derived.DeepKeys4
import Derived.Deep.DeepCutAuto
import Derived.Test.YtpekoejdnhaohaaGreatDoorD
import Derived.Test.YtpekoejdnhaohaaGreatDoorE
namespace Go.Proofs.YtpekoejdnhaohaaGreatDoor
open Go.RowKit Tryz
set_option maxRecDepth 100000
set_option maxHeartbeats 40000000
set_option linter.all false
variable {D:DataW Unit} {M T cap gn i j m n:Nat} {ns:Nat->Nd} {o:Oper} {C:Value->World->Prop} {w w':World}
section
attribute [local go_sem] BI Fx
def EI (t:Int):Prop:=t=117∨t=100∨t=107∨t=99∨t=111∨t=114
def Wh (t:Int):Bool:=t==117||t==99||t==114
theorem PX {t:Int} (h:EI t) (w:World):Calls prog 196 #[.int .u8 t] w fun e w'=>e= .returned (.bool (Wh t))∧w'=w:=by
 rcases h with rfl | rfl | rfl | rfl | rfl | rfl
 all_goals go_in
 all_goals go_wp2_with fail
 all_goals go_ret
 all_goals exact⟨rfl,rfl⟩
def AE.many (s:AE) (p:Int):Nat:=if p=17 then s.nd else if p=20 then s.nc else if p=22 then s.nr else 0
theorem DP (s:AE) (v:Bx) {p:Int} (hp:p=17∨p=20∨p=22):Calls prog 253 #[.agg (BI v s), .int .i64 p] w fun e w'=>e= .returned (.int .i64 (s.many p:Int))∧AJ w w':=by
 rcases hp with rfl | rfl | rfl
 all_goals go_in
 all_goals go_wp2_with fail
 all_goals go_ret
 all_goals exact⟨rfl,(AD.refl _ w).alloc _⟩
theorem Gg (k:Int) (a:Option Addr) (m c:Nat) (x1 x2 x3 x4:Int) (hk:k=112∨k=103∨k=111∨k=100∨k=109):Calls prog 254 #[.agg #[.int .u8 k, .slice a m c, .int .u64 x1, .int .i64 x2, .int .i64 x3, .int .i64 x4]] w fun e w'=>e= .returned (.bool (k==112||k==103))∧AJ w w':=by
 rcases hk with rfl | rfl | rfl | rfl | rfl
 all_goals go_in
 all_goals go_wp2_with fail
 all_goals go_ret
 all_goals exact⟨rfl,(AD.refl _ w).alloc _⟩
end
section
variable {P:Program} {ops:Array Oper} {Q:Exit->Act->World->Prop} {md:Region.Mode} {S:World->Prop}
theorem CO {fuel:Nat} {listed:Array Bool} {a:Act} (ho:ops[i]?=some o) (hg:o.guard=none) (hr:Region.ready md ops listed=[i]) (g:Fi P o a.eval w C)
 (h:∀v w',C v w'->S w'∧wpAnyH P md ops Q S fuel (listed.setIfInBounds i true) (a.put o.dst v) w'):wpAnyH P md ops Q S (fuel+1) listed a w:=by
 refine⟨fun e=>(by rw [e] at hr;cases hr),fun j hj=>?_⟩;rw [hr] at hj;obtain rfl:=Dz.1 hj;unfold wpOp;rw [ho];have hw:Region.wanted o (yielded ops a.tmps)=true:=by unfold Region.wanted;rw [hg]
 simp only [hw,if_true];exact .inl (g.wp h)
end
abbrev Pp (p m:Int):Value:= .agg #[.int .i64 p, .int .i64 m]
abbrev Jd (f:Int × Int × Int × Int × Int):Value:= .agg #[.int .i64 f.1, .int .i64 f.2.1, .int .u8 f.2.2.1, .int .u8 f.2.2.2.1, .int .u8 f.2.2.2.2]
def fmDat (f:Int × Int × Int × Int × Int):DataW Unit:= .agg [.lit (.int .i64 f.1), .lit (.int .i64 f.2.1), .lit (.int .u8 f.2.2.1), .lit (.int .u8 f.2.2.2.1), .lit (.int .u8 f.2.2.2.2)]
def Tv (l:List Value):Option (DataW Unit × List MemPlace):=
 match l with
 | [.int .i64 a, .int .i64 b, .int .u8 x, .int .u8 y, .int .u8 z]=>some (fmDat (a,b,x,y,z),[])
 | _=>none
def Es (v:Value):Option (DataW Unit × List MemPlace):=
 match v with
 | .agg cs=>Tv cs.toList
 | _=>none
theorem NQ (f:Int × Int × Int × Int × Int):Es (Jd f)=some (fmDat f,[]):=rfl
theorem Sh {v:Value} {f:Int × Int × Int × Int × Int} {ps:List MemPlace} (h:Es v=some (fmDat f,ps)):v=Jd f:=by
 unfold Es at h;split at h
 . rename_i cs;unfold Tv at h;split at h
   . rename_i a b x y z e;simp only [Option.some.injEq,Prod.mk.injEq,fmDat,DataW.agg.injEq,List.cons.injEq,DataW.lit.injEq,Lit.int.injEq] at h;obtain⟨⟨⟨_,rfl⟩,⟨_,rfl⟩,⟨_,rfl⟩,⟨_,rfl⟩,⟨_,rfl⟩,_⟩,_⟩:=h;have:cs= #[.int .i64 f.1, .int .i64 f.2.1, .int .u8 f.2.2.1, .int .u8 f.2.2.2.1, .int .u8 f.2.2.2.2]:=by
      apply Array.ext';exact e
     rw [this]
   . cases h
 . cases h
theorem Px:laidOutB prog=true:=by kernel_rfl
theorem Gx:Maps.Keyed prog 348:=Maps.Keyed.of_law (deep_law_laid Px (m:=2) (by omega) (of_decide_eq_true (by kernel_rfl)) (by kernel_rfl) (by kernel_rfl))
def msgs:Nat->Int × Int
 | 0=>(16,0) | 1=>(17,0) | 2=>(20,0) | 3=>(22,0) | 4=>(16,1) | 5=>(17,4) | 6=>(17,5) | 7=>(20,6) | 8=>(20,7) | _=>(22,4)
def Iq:Nat->Int × Int × Int × Int × Int
 | 0=>(0,0,0,0,0) | 1=>(0,0,0,0,0) | 2=>(0,0,0,0,0) | 3=>(0,0,0,0,0) | 4=>(0,0,0,0,0) | 5=>(2,3,100,117,107) | 6=>(1,0,0,0,0) | 7=>(1,0,0,0,0) | 8=>(2,2,111,99,0) | _=>(2,2,114,97,0)
theorem Po (i:Nat) (hi:i<10):∃l,keyOf prog 348 (Pp (msgs i).1 (msgs i).2)=some l:=by
 match i,hi with
 | 0,_ | 1,_ | 2,_ | 3,_ | 4,_ | 5,_ | 6,_ | 7,_ | 8,_ | 9,_=>exact Option.isSome_iff_exists.1 (by kernel_rfl)
structure KeyFn where
 K:Nat->Lit
 of:∀i,i<10->keyOf prog 348 (Pp (msgs i).1 (msgs i).2)=some (K i)
theorem VO:Nonempty KeyFn:=⟨⟨fun i=>if h:i<10 then(Po i h).choose else .bool false,fun i hi=>by rw [dif_pos hi];exact(Po i hi).choose_spec⟩⟩
noncomputable def keyFn:KeyFn:=Classical.choice VO
noncomputable def KL (i:Nat):Lit:=keyFn.K i
theorem Qt (i:Nat) (hi:i<10):keyOf prog 348 (Pp (msgs i).1 (msgs i).2)=some (KL i):=keyFn.of i hi
theorem Xo:∀i,i<10->∀j,j<10->msgs i=msgs j->i=j:=by decide
theorem UI (hi:i<10) (hj:j<10) (h:i≠j):KL i≠KL j:=fun e=>h (Xo i hi j hj (by
 have h2:=Qt j hj;rw [<-e] at h2;have:=Gx.inj (Qt i hi) h2;simp only [Value.agg.injEq,Array.mk.injEq,List.cons.injEq,Value.int.injEq,true_and,and_true] at this;exact Prod.ext this.1 this.2))
theorem PA (hi:i<10):WideAt.IsKeyLit (KL i):=Gx.key (Qt i hi)
theorem Vv {p q:Nat->Bool} (h:∀i,i≠j->q i=p i) (hp:p j=false) (hq:q j=true):∀l:List Nat,l.Nodup->l.countP q=l.countP p+if j ∈ l then 1 else 0:=by
 intro l
 induction l with
 | nil=>intro _;rfl
 | cons i r ih=>
  intro hn;obtain⟨h1,h2⟩:=List.nodup_cons.1 hn;rw [List.countP_cons,List.countP_cons,ih h2];by_cases e:i=j
  . subst e;rw [hp,hq,if_neg h1,if_pos List.mem_cons_self];simp
  . rw [h i e];have:(j ∈ i::r) ↔ j ∈ r:=by rw [List.mem_cons];exact⟨fun h=>h.resolve_left fun e'=>e e'.symm, .inr⟩
    simp only [this];omega
def Kd (w:World) (M:Nat):Prop:=∃D,w.ownsMap prog 348 Es M 10 D∧Maps.size D=(List.range 10).countP (fun i=>Maps.has D (KL i))
def CU (w:World) (M i:Nat):Prop:=∃n D,w.ownsMap prog 348 Es M n D∧Maps.has D (KL i)=true∧∀z,D.atKey (KL i) z=fmDat (Iq i)
def Da (w:World) (M i:Nat) (w':World):Prop:=w.mapTurned w' M∧∀n D,w.ownsMap prog 348 Es M n D->∃n',w'.ownsMap prog 348 Es M n' (D.put (KL i) (fmDat (Iq i)))
theorem Xe {E:DataW Unit} (h:w.ownsMap prog 348 Es M n D) (k:w.ownsMap prog 348 Es M m E):D=E:=by
 obtain⟨es,c,h1,_,_,rfl⟩:=h;obtain⟨es',c',h2,_,_,rfl⟩:=k;rw [h1] at h2;injection h2 with h2;injection h2 with h2 h3;subst h2;rfl
theorem CU.put (h:CU w M i) (hi:i<10) (hj:j<10) (hne:j≠i) (p:Da w M j w'):CU w' M i:=by
 obtain⟨n,D,o,h1,h2⟩:=h;obtain⟨n',o'⟩:=p.2 n D o;exact⟨n',_,o',by rw [Maps.has_put_other (UI hi hj (Ne.symm hne))];exact h1,fun z=>by rw [Maps.atKey_put_other (UI hi hj (Ne.symm hne))];exact h2 z⟩
theorem Wx {b:Nat} (h:w.ownsMap prog 348 Es b m D):w.ownsMap prog 348 Es b (Maps.size D) D:=by
 obtain⟨es,clock,h1,h2,h3,rfl⟩:=h;exact⟨es,clock,h1,h2,by show es.size<=(List.foldr DataW.insert [] _).length;rw [length_sorted];simp,rfl⟩
theorem Co (h:Kd w M) (hi:i<10):∃w',(Instr.mapUpdate 345 (.map (some M)) (Pp (msgs i).1 (msgs i).2) (Jd (Iq i))).run prog w= .ok () w'∧Da w M i w'∧Kd w' M∧CU w' M i:=by
 obtain⟨D,o,hs⟩:=h;obtain⟨w',hrun,o',ht⟩:=o.store Gx underlying345 (by unfold maxLen;omega) (Qt i hi) (NQ (Iq i));have hD:=o.tidy Gx;have hM:=o.isMap;refine⟨w',hrun,⟨ht,fun n E o2=>⟨11,by rw [Xe o2 o];exact o'⟩⟩,⟨D.put (KL i) (fmDat (Iq i)),?_,?_⟩,⟨11,_,o',Maps.has_put_same hM (PA hi) _,fun z=>Maps.atKey_put_same hM (PA hi) _ _⟩⟩;case refine_2=>
  rw [Maps.size_put hD,hs];by_cases c:Maps.has D (KL i)=true
  . rw [if_pos c];refine List.countP_congr fun j hj=>?_;by_cases e:j=i
    . subst e;rw [Maps.has_put_same hM (PA hi),c]
    . rw [Maps.has_put_other (UI (List.mem_range.1 hj) hi e)]
  . rw [if_neg c];have hc:Maps.has D (KL i)=false:=by simpa using c
    have:=Vv (p:=fun j=>if j<10 then Maps.has D (KL j) else false) (q:=fun j=>if j<10 then Maps.has (D.put (KL i) (fmDat (Iq i))) (KL j) else false) (j:=i)
     (fun j hj=>by by_cases e:j<10 <;> simp only [e,if_true,if_false,Bool.false_eq_true];rw [Maps.has_put_other (UI e hi hj)]) (by rw [if_pos hi];exact hc) (by rw [if_pos hi];exact Maps.has_put_same hM (PA hi) _) (List.range 10) List.nodup_range
    rw [if_pos (List.mem_range.2 hi)] at this;rw [<-List.countP_congr (p:=fun j=>if j<10 then Maps.has D (KL j) else false) (q:=fun j=>Maps.has D (KL j)) (fun j hj=>by rw [if_pos (List.mem_range.1 hj)]),
     <-List.countP_congr (p:=fun j=>if j<10 then Maps.has (D.put (KL i) (fmDat (Iq i))) (KL j) else false) (q:=fun j=>Maps.has (D.put (KL i) (fmDat (Iq i))) (KL j)) (fun j hj=>by rw [if_pos (List.mem_range.1 hj)])]
    exact this.symm
 case refine_1=>
  have h1:=Wx o';refine h1.mono ?_;rw [Maps.size_put hD,hs];by_cases c:Maps.has D (KL i)=true
  . rw [if_pos c];exact Nat.le_trans (List.countP_le_length ..) (by simp)
  . rw [if_neg c];have h2:(List.range 10).countP (fun j=>Maps.has D (KL j))<(List.range 10).length:=by
     refine Nat.lt_of_le_of_ne (List.countP_le_length ..) fun e=>c ?_;exact(List.countP_eq_length.1 e) i (List.mem_range.2 hi)
    have h3:(List.range 10).countP (fun j=>Maps.has D (KL j))<10:=by simpa using h2
    omega
theorem Bg {ρ:Operand->Value} {W:World} {t:TypeId} {m x v:Operand} {mv key val:Value} (hop:o.op= .insert t m x v) (hm:ρ m=mv) (hx:ρ x=key) (hv:ρ v=val)
 (hrun:(Instr.mapUpdate t mv key val).run prog W= .ok () w') (hC:C undef w'):Fi prog o ρ W C:=by
 intro a K Q ha hK;subst ha;unfold Oper.wp;simp [execOp,hop,hm,hx,hv,hrun,Result.andThen];exact hK _ _ hC
def ZQ (w:World) (e:Ending) (w':World):Prop:=
 ∃M,e= .returned (.map (some M))∧AJ w w'∧w.heap.size<=M∧∀i,i<10->CU w' M i
theorem Bf {a b:World} (h:AJ w a) (t:a.mapTurned b M) (hM:w.heap.size<=M):AJ w b:=h.grown t.grown fun k e hk=>by injection e with e;omega
theorem PY (w:World):Calls prog 252 #[] w (ZQ w):=by
 have hmk:∀W:World,(Instr.makeMap 345 none).run prog W= .ok (.map (some W.heap.size)) (W.alloc (.map #[] 0)):=fun W=>by simp [Instr.makeMap]
 obtain⟨FP,hFP⟩:∃FP:Ending->World->Prop,FP=ZQ w:=⟨_,rfl⟩;rw [<-hFP];have HFP:=Ae hFP;clear hFP;go_in;go_upto_region 1 with fail;refine rh_ (fun _=>True) trivial (fun hE=>?_);refine tk 1 hE ?_;refine tk 2 hE ?_;refine tk 4 hE ?_;refine tk 5 hE ?_;refine tk 7 hE ?_;refine tk 8 hE ?_;refine tk 10 hE ?_;refine tk 11 hE ?_;refine tk 13 hE ?_;refine tk 14 hE ?_;refine tk 16 hE ?_;refine tk 17 hE ?_;refine tk 18 hE ?_;refine tk 20 hE ?_;refine tk 21 hE ?_;refine tk 23 hE ?_;refine tk 24 hE ?_;refine tk 26 hE ?_;refine tk 27 hE ?_;refine tk 28 hE ?_;refine tk 30 hE ?_;refine tk 31 hE ?_;refine tk 32 hE ?_;refine CO (i:=0) rfl rfl (by kernel_rfl) (C:=fun v w'=>v= .map (some w.heap.size)∧w'=w.drew.alloc (.map #[] 0)) ?g0 ?n0;case g0=>
  intro a K Q ha hK;clear ha;go_simp;exact hK _ _ ⟨rfl,rfl⟩
 case n0=>
 rintro v0 w0 ⟨rfl,rfl⟩;refine⟨trivial,?_⟩;simp only [Act.put,List.setIfInBounds_toArray,List.set_cons_zero,List.set_cons_succ];obtain⟨M,hM⟩:=ex w.heap.size;obtain⟨W0,hW0⟩:=ex (w.drew.alloc (.map #[] 0));have J0:Kd W0 M:=by
  refine⟨.map [],?_,?_⟩
  . rw [<-hW0, <-hM];exact(World.ownsMap_made w.drew prog 348 Es).mono (Nat.zero_le 10)
  . rfl
 have K0:AJ w W0:=by rw [<-hW0];exact((AD.refl _ w).drew).alloc _
 rw [hW0,hM];clear hW0 hmk
 refine wl_ (fuel:=2) [3,6,9,12,15,19,22,25,29,33] (fun i vals W=>match i with
  | 3=>CU W M 0
  | 6=>CU W M 1
  | 9=>CU W M 2
  | 12=>CU W M 3
  | 15=>CU W M 4
  | 19=>CU W M 5
  | 22=>CU W M 6
  | 25=>CU W M 7
  | 29=>CU W M 8
  | _=>CU W M 9) (fun W=>Kd W M∧AJ w W) (fun i W W'=>match i with
  | 3=>Da W M 0 W'
  | 6=>Da W M 1 W'
  | 9=>Da W M 2 W'
  | 12=>Da W M 3 W'
  | 15=>Da W M 4 W'
  | 19=>Da W M 5 W'
  | 22=>Da W M 6 W'
  | 25=>Da W M 7 W'
  | 29=>Da W M 8 W'
  | _=>Da W M 9 W') ?j ?step ?fin (stab:=?stab) (cong:=?cong)
 case j=>exact⟨J0,K0⟩
 case step=>
  intro i hi o ho vals ρ W hJ hd ev;simp only [m1,m0,or_false] at hi;rcases hi with rfl | rfl | rfl | rfl | rfl | rfl | rfl | rfl | rfl | rfl
  . cases ho;obtain⟨W',hrun,h1,h2,h3⟩:=Co (i:=0) hJ.1 (by omega);exact Bg rfl (by rw [ev (.tmp 1) (by kernel_rfl)];rfl) (by rw [ev (.tmp 2) (by kernel_rfl)];rfl) (by rw [ev (.tmp 3) (by kernel_rfl)];rfl) hrun ⟨h1,⟨h2,Bf hJ.2 h1.1 (by omega)⟩,trivial,h3⟩
  . cases ho;obtain⟨W',hrun,h1,h2,h3⟩:=Co (i:=1) hJ.1 (by omega);exact Bg rfl (by rw [ev (.tmp 1) (by kernel_rfl)];rfl) (by rw [ev (.tmp 4) (by kernel_rfl)];rfl) (by rw [ev (.tmp 5) (by kernel_rfl)];rfl) hrun ⟨h1,⟨h2,Bf hJ.2 h1.1 (by omega)⟩,trivial,h3⟩
  . cases ho;obtain⟨W',hrun,h1,h2,h3⟩:=Co (i:=2) hJ.1 (by omega);exact Bg rfl (by rw [ev (.tmp 1) (by kernel_rfl)];rfl) (by rw [ev (.tmp 6) (by kernel_rfl)];rfl) (by rw [ev (.tmp 7) (by kernel_rfl)];rfl) hrun ⟨h1,⟨h2,Bf hJ.2 h1.1 (by omega)⟩,trivial,h3⟩
  . cases ho;obtain⟨W',hrun,h1,h2,h3⟩:=Co (i:=3) hJ.1 (by omega);exact Bg rfl (by rw [ev (.tmp 1) (by kernel_rfl)];rfl) (by rw [ev (.tmp 8) (by kernel_rfl)];rfl) (by rw [ev (.tmp 9) (by kernel_rfl)];rfl) hrun ⟨h1,⟨h2,Bf hJ.2 h1.1 (by omega)⟩,trivial,h3⟩
  . cases ho;obtain⟨W',hrun,h1,h2,h3⟩:=Co (i:=4) hJ.1 (by omega);exact Bg rfl (by rw [ev (.tmp 1) (by kernel_rfl)];rfl) (by rw [ev (.tmp 10) (by kernel_rfl)];rfl) (by rw [ev (.tmp 11) (by kernel_rfl)];rfl) hrun ⟨h1,⟨h2,Bf hJ.2 h1.1 (by omega)⟩,trivial,h3⟩
  . cases ho;obtain⟨W',hrun,h1,h2,h3⟩:=Co (i:=5) hJ.1 (by omega);exact Bg rfl (by rw [ev (.tmp 1) (by kernel_rfl)];rfl) (by rw [ev (.tmp 12) (by kernel_rfl)];rfl) (by rw [ev (.tmp 14) (by kernel_rfl)];rfl) hrun ⟨h1,⟨h2,Bf hJ.2 h1.1 (by omega)⟩,trivial,h3⟩
  . cases ho;obtain⟨W',hrun,h1,h2,h3⟩:=Co (i:=6) hJ.1 (by omega);exact Bg rfl (by rw [ev (.tmp 1) (by kernel_rfl)];rfl) (by rw [ev (.tmp 15) (by kernel_rfl)];rfl) (by rw [ev (.tmp 16) (by kernel_rfl)];rfl) hrun ⟨h1,⟨h2,Bf hJ.2 h1.1 (by omega)⟩,trivial,h3⟩
  . cases ho;obtain⟨W',hrun,h1,h2,h3⟩:=Co (i:=7) hJ.1 (by omega);exact Bg rfl (by rw [ev (.tmp 1) (by kernel_rfl)];rfl) (by rw [ev (.tmp 17) (by kernel_rfl)];rfl) (by rw [ev (.tmp 18) (by kernel_rfl)];rfl) hrun ⟨h1,⟨h2,Bf hJ.2 h1.1 (by omega)⟩,trivial,h3⟩
  . cases ho;obtain⟨W',hrun,h1,h2,h3⟩:=Co (i:=8) hJ.1 (by omega);exact Bg rfl (by rw [ev (.tmp 1) (by kernel_rfl)];rfl) (by rw [ev (.tmp 19) (by kernel_rfl)];rfl) (by rw [ev (.tmp 21) (by kernel_rfl)];rfl) hrun ⟨h1,⟨h2,Bf hJ.2 h1.1 (by omega)⟩,trivial,h3⟩
  . cases ho;obtain⟨W',hrun,h1,h2,h3⟩:=Co (i:=9) hJ.1 (by omega);exact Bg rfl (by rw [ev (.tmp 1) (by kernel_rfl)];rfl) (by rw [ev (.tmp 22) (by kernel_rfl)];rfl) (by rw [ev (.tmp 24) (by kernel_rfl)];rfl) hrun ⟨h1,⟨h2,Bf hJ.2 h1.1 (by omega)⟩,trivial,h3⟩
 case stab=>
  intro k hk i hi hne hw vals W W' hR hV;simp only [m1,m0,or_false] at hi hk;rcases hk with rfl | rfl | rfl | rfl | rfl | rfl | rfl | rfl | rfl | rfl <;> rcases hi with rfl | rfl | rfl | rfl | rfl | rfl | rfl | rfl | rfl | rfl
  all_goals first
   | exact absurd rfl hne
   | exact CU.put hV (by omega) (by omega) (by omega) hR
 case cong=>
  intro k hk vals vals' W he hd hV;exact hV
 case fin=>
  intro vals W hJ hV;simp only [Am,AR,dstOf,De,Bl,Bk,CM,pu,s0,s1,if_true];refine tk 34 trivial ?_;refine tk 35 trivial ?_;refine⟨by kernel_rfl,?_⟩;go_wp2_with fail;rw [HFP.out];refine⟨M,rfl,hJ.2,by omega,fun i hi=>?_⟩
  match i,hi with
  | 0,_=>exact Jh hV 3
  | 1,_=>exact Jh hV 6
  | 2,_=>exact Jh hV 9
  | 3,_=>exact Jh hV 12
  | 4,_=>exact Jh hV 15
  | 5,_=>exact Jh hV 19
  | 6,_=>exact Jh hV 22
  | 7,_=>exact Jh hV 25
  | 8,_=>exact Jh hV 29
  | 9,_=>exact Jh hV 33
def Nd.tick (d:Nd) (r:Bool):Nd:=
 if d.kind=112∧d.on=true then(if r then(if 0<d.left then { d with left:=d.left - 1 } else d) else { d with left:=d.lock }) else d
def J9 (ns:Nat->Nd) (j:Nat):Nat:=(ns j).src (ns j).set
def EC (ns:Nat->Nd) (n k:Nat):Nat->Nd:=fun j=>if j<k then(ns j).tick (Ar ns n (J9 ns j)) else ns j
theorem Nd.tick_same (d:Nd) (r:Bool):(d.tick r).fb=d.fb∧(d.tick r).m=d.m∧(d.tick r).src=d.src∧(d.tick r).set=d.set∧(d.tick r).kind=d.kind:=by
 unfold Nd.tick;split
 . split
   . split <;> exact⟨rfl,rfl,rfl,rfl,rfl⟩
   . exact⟨rfl,rfl,rfl,rfl,rfl⟩
 . exact⟨rfl,rfl,rfl,rfl,rfl⟩
theorem VE (ns:Nat->Nd) (n:Nat):EC ns n 0=ns:=by funext j;simp [EC]
theorem Ex (ns:Nat->Nd) (n k:Nat):EC ns n k k=ns k:=by simp [EC]
theorem JG (ns:Nat->Nd) (n k:Nat):upd (EC ns n k) k ((ns k).tick (Ar ns n (J9 ns k)))=EC ns n (k+1):=by
 funext j;by_cases e:j=k
 . subst e;rw [upd_same];simp [EC]
 . rw [uo_ e];by_cases h:j<k
   . simp [EC,h,show j<k+1 by omega]
   . simp [EC,h,show¬j<k+1 by omega]
theorem I8 {α:Type} (f:Nat->α) (i:Nat) {x:α} (h:x=f i):upd f i x=f:=by
 funext k;by_cases e:k=i
 . subst e;rw [upd_same,h]
 . rw [uo_ e]
theorem Hr {k:Nat} (h:(ns k).tick (Ar ns n (J9 ns k))=ns k):EC ns n (k+1)=EC ns n k:=by
 rw [<-JG,I8];rw [h,Ex]
theorem YL:inf_ prog 4=some (some (.bool false),1,1):=by kernel_rfl
theorem AX.c9 (h:AX w T gn n cap ns) (i:Nat) (hi:i<n):w.cell? (gn (i*11+9))=some (.int .i64 (ns i).want):=h.d.cell i 9 hi (by omega)
theorem AX.setLeft (h:AX w T gn n cap ns) (i:Nat) (hi:i<n) (x:Int) {d:Nd} (hd:ns i=d):AX (w.setCell (gn (i*11+7)) (.int .i64 x)) T gn n cap (upd ns i { d with left:=x }):=by
 subst hd;exact h.put i 7 hi (by omega) (.int .i64 x) { ns i with left:=x } (fun k hk=>by
  match k,hk with
  | 0,_ | 1,_ | 2,_ | 3,_ | 4,_ | 5,_ | 6,_ | 7,_ | 8,_ | 9,_ | 10,_=>rfl
  | k+11,hk=>omega) rfl rfl rfl rfl
def WV (w:World) (T gn n cap:Nat) (ns:Nat->Nd) (e:Ending) (w':World):Prop:=
 e= .returned (.tuple #[])∧AD (· =gn) w w'∧AX w' T gn n cap (EC ns n n)
theorem UZ (h:AX w T gn n cap ns) (hm:∀i,i<n->(ns i).kind≠111->0<(ns i).m) (hw:∀i,i<n->(ns i).kind=109->(ns i).want=(ns i).set) (hl:∀i,i<n->0<=(ns i).left∧(ns i).left<=1000):
 Calls prog 158 #[.pointer T] w (WV w T gn n cap ns):=by
 have hm4:=fun(W:World)=>run_make_row' (P:=prog) 115 4 (.bool false) 1 underlying115 YL rfl .i64 .i64 n (by have:=h.few;omega) (by have:=h.few;omega) W;have c0:=h.field;have hf:=h.few;have lg:=h.d.lt;have lT:=h.t.lt;have HM:=Ae hm;have HW:=Ae hw;have HL:=Ae hl;have K0:=Ae ((nr w).alloc (.cells (madeCells #[.bool false] n) 4));have H:=Ae (h.keep K0.out id id fun _ _ _=>id);have R0:=Ae (CV w (.bool false) n 4);have H0:=Ae h;clear h hm hw hl;go_in;go_wp2_with fail;clear c0;obtain⟨RB,hRB⟩:=ex w.heap.size;obtain⟨W0,hW0⟩:=ex (w.alloc (.cells (madeCells #[.bool false] n) 4));have hz0:RB<W0.heap.size:=by rw [<-hW0, <-hRB];simp
 have nT:T≠RB:=by omega
 have ng:gn≠RB:=by omega
 have nf:AG (∀i,i<n->0<(ns i).m->(ns i).fb≠RB):=⟨fun i hi hm=>by have:=(H0.out.f i hi hm).lt;omega⟩;rw [hRB] at R0;rw [hW0] at H R0 K0;rw [hW0,hRB];have cT:=H.out.field;go_wp2;go_loopw [19] (fun i wr=>∃k:Nat,k<=n∧i= .int .i64 k∧AD (· =RB) W0 wr∧wr.rowIs RB 4 n (fun j=> .bool (if j<k then Ar ns n j else false))) (fun i _=>n - (intOf i).toNat);case atStart=>exact⟨0,by omega,rfl,kx_,R0.out.congr fun j hj=>by simp⟩
 case round=>
  obtain⟨k,hk,rfl,kp0,r0⟩:=hrel;have KP:=Ae kp0;have KR:=Ae r0;have H1:=Ae (H.out.keep kp0 nT ng nf.out);have hsz:=kp0.size;clear kp0 r0;by_cases hlt:k<n
  . go_wp2_with fail;obtain⟨r,hr⟩:=ex (Ar ns n k);refine(Dq H1.out HM.out k hlt hr).mono ?_;rintro z' w2 ⟨rfl,k2⟩;have KR2:=Ae (rowIs_keep KR.out k2 id);have q:=KR2.out.cell hlt;have qf:=KR2.out.frozen k;have KP2:=Ae ((KP.out.then_ (k2.mono fun _ h=>h.elim)));have KS:=Ae ((KR2.out.set k (.bool r)).congr (g:=fun j=> .bool (if j<k+1 then Ar ns n j else false)) fun j hj=>by
     by_cases e:j=k
     . subst e;simp [hr]
     . by_cases e2:j<k
       . simp [e,e2,show j<k+1 by omega]
       . simp [e,e2,show¬j<k+1 by omega])
    clear k2 hr;go_wp2;go_roundw;case rel=>exact⟨k+1,by omega,by go_num,KP2.out.then_ (keeps_set _),KS.out⟩
    case measure=>simp [intOf];omega
  . obtain rfl:n=k:=by omega
    have cT1:=H1.out.field;have KR2:=Ae (KR.out.congr (g:=fun j=> .bool (Ar ns n j)) fun j hj=>by simp [hj]);clear KR;go_wp2_with fail;clear cT1;obtain⟨W1,rfl⟩:∃W1,W1=wr:=⟨_,rfl⟩;go_loopw [34] (fun i wq=>∃k:Nat,k<=n∧i= .int .i64 k∧AD (· =gn) W1 wq∧AX wq T gn n cap (EC ns n k)) (fun i _=>n - (intOf i).toNat);case atStart=>exact⟨0,by omega,rfl,kx_,by rw [VE];exact H1.out⟩
    case round=>
     obtain⟨k,hk,rfl,kp0,t0⟩:=hrel;have KQ:=Ae kp0;have HT:=Ae t0;have KR3:=Ae (rowIs_keep KR2.out kp0 (fun e=>ng e.symm));have cT2:=t0.field;clear kp0 t0;by_cases hlt:k<n
     . have c0:=HT.out.c0 k hlt;have c6:=HT.out.c6 k hlt;have c7:=HT.out.c7 k hlt;rw [Ex] at c0 c6 c7;by_cases k1:(ns k).kind=112
       . obtain⟨r,hr⟩:=ex (Ar ns n (J9 ns k));have mk0:0<(EC ns n k k).m:=by rw [Ex];exact HM.out k hlt (by omega)
         have lk0:=HT.out.less k hlt _ (HT.out.sets k hlt mk0).1;have TK:AG ((ns k).tick (Ar ns n (J9 ns k))=(ns k).tick r):=⟨by rw [hr]⟩;obtain⟨sk,hsk⟩:=ex (J9 ns k);have hs:(EC ns n k k).src (EC ns n k k).set=sk:=by rw [Ex];exact hsk
         rw [hs] at lk0;have hl1:=HL.out k hlt;have MS:=Ae (And.intro mk0 hs);have q:=KR3.out.cell (i:=sk) (by omega);rw [<-hsk,hr,hsk] at q;rw [k1] at c0;have K1:=Ae k1;clear hr hs mk0 k1 hsk;by_cases ho:(ns k).on=true
         . rw [ho] at c6;have HO:=Ae ho;clear ho;cases r
           ·
            have c5:=HT.out.c5 k hlt;rw [Ex] at c5;have f7:=HT.out.d.frozen (k*11+7);go_wp2_with fail;refine(Dh HT.out k hlt MS.out.1 MS.out.2).mono ?_;rintro z' w2 ⟨rfl,q2,rfl⟩;go_wp2;go_roundw;case rel=>exact⟨k+1,by omega,by go_num,(KQ.out.drewN _).then_ (keeps_set _),by rw [<-JG,TK.out,show(ns k).tick false={ ns k with left:=(ns k).lock } by simp [Nd.tick,K1.out,HO.out]];exact(HT.out.drewN q2).setLeft k hlt _ (Ex ns n k)⟩
            case measure=>simp [intOf];omega
           . by_cases hp:0<(ns k).left
             . have f7:=HT.out.d.frozen (k*11+7);have FIN:AG (∀q2,AX ((wr.drewN q2).setCell (gn (k*11+7)) (.int .i64 ((ns k).left - 1))) T gn n cap (EC ns n (k+1))):=⟨fun q2=>by
                rw [<-JG,TK.out,show(ns k).tick true={ ns k with left:=(ns k).left - 1 } by simp [Nd.tick,K1.out,HO.out,hp]];exact(HT.out.drewN q2).setLeft k hlt _ (Ex ns n k)⟩
               generalize (ns k).left=lf at*;go_wp2_with fail;refine(Dh HT.out k hlt MS.out.1 MS.out.2).mono ?_;rintro z' w2 ⟨rfl,q2,rfl⟩;go_wp2;go_roundw;case rel=>exact⟨k+1,by omega,by go_num,(KQ.out.drewN _).then_ (keeps_set _),FIN.out q2⟩
               case measure=>simp [intOf];omega
             . have FIN:AG (∀q2,AX (wr.drewN q2) T gn n cap (EC ns n (k+1))):=⟨fun q2=>by
                rw [Hr (TK.out.trans (by simp [Nd.tick,hp]))];exact HT.out.drewN q2⟩
               have hp':(ns k).left<=0:=by omega
               generalize (ns k).left=lf at*;clear hp;go_wp2_with fail;refine(Dh HT.out k hlt MS.out.1 MS.out.2).mono ?_;rintro z' w2 ⟨rfl,q2,rfl⟩;go_wp2_with fail;go_quiet (skip);go_wp2;go_roundw;case rel=>exact⟨k+1,by omega,by go_num,KQ.out.drewN _,FIN.out _⟩
               case measure=>simp [intOf];omega
         . have ho':(ns k).on=false:=by simpa using ho
           rw [ho'] at c6;have HO:=Ae ho';clear ho ho';go_wp2_with fail;go_quiet (skip);go_wp2;go_roundw;case rel=>exact⟨k+1,by omega,by go_num,KQ.out.drewN _,by rw [Hr (TK.out.trans (by simp [Nd.tick,HO.out]))];exact HT.out.drewN _⟩
           case measure=>simp [intOf];omega
       . have e1:((ns k).kind==112)=false:=by rw [beq_eq_false_iff_ne];exact k1
         have TK:AG ((ns k).tick (Ar ns n (J9 ns k))=ns k):=⟨by simp [Nd.tick,k1]⟩;by_cases k2:(ns k).kind=109
         . have c8:=HT.out.c8 k hlt;have c9:=HT.out.c9 k hlt;rw [Ex,HW.out k hlt k2] at c9;rw [Ex] at c8;rw [k2] at c0;clear k1 k2 e1;go_wp2_with fail;go_quiet (skip);go_wp2;go_roundw;case rel=>exact⟨k+1,by omega,by go_num,KQ.out.drewN _,by rw [Hr TK.out];exact HT.out.drewN _⟩
           case measure=>simp [intOf];omega
         . have e2:((ns k).kind==109)=false:=by rw [beq_eq_false_iff_ne];exact k2
           generalize (ns k).kind=kk at c0 e1 e2;clear k1 k2;go_wp2_with fail;go_quiet (skip);go_wp2;go_roundw;case rel=>exact⟨k+1,by omega,by go_num,KQ.out.drewN _,by rw [Hr TK.out];exact HT.out.drewN _⟩
           case measure=>simp [intOf];omega
     . obtain rfl:n=k:=by omega
       go_wp2_with fail
       first | go_end0 | refine bodyPost_ret (results_none rfl _ _ _) rfl ?_
       have K1:=(((K0.out.mono (T:=(· =gn)) (fun _ h=>h.elim))).trans KP.out (fun j hj e=>absurd hj (by omega))).then_ KQ.out;exact⟨rfl,K1,HT.out⟩
end Go.Proofs.YtpekoejdnhaohaaGreatDoor
