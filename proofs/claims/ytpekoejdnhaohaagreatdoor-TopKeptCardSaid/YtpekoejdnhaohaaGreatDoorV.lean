/- The plain law of plans, of what begins and of a call, no program in sight. For every chip in which nothing is wrong. -/
import Derived.Test.YtpekoejdnhaohaaGreatDoorU
namespace Go.Proofs.YtpekoejdnhaohaaGreatDoor
open Go.RowKit Tryz
set_option maxRecDepth 100000
set_option maxHeartbeats 40000000
set_option linter.all false
variable {s:AE} {q:DX} {x:Hw} {d g k r:Nat} {act p:Nat->Bool} {ord:Nat->Nat} {a b fr tw:Nat->Nat->Bool}
theorem Gn {mk:Nat->DX} {C:Nat->Nat->Nat->Bool}:∀ (n:Nat),(∀m,m<n->p (ord m)=true->Fs s (C m) (mk (ord m)) (C (m+1)))->(∀m,m<n->p (ord m)=false->C (m+1)=C m)->
 ∀ {l:List DX} {cw':Nat->Nat->Bool},Jr s (C n) l cw'->Jr s (C 0) ((flt ord p n).map mk++l) cw':=by
 intro n
 induction n with
 | zero=>intro _ _ l cw' h;exact h
 | succ n ih=>
  intro hit miss l cw' h
  cases e:p (ord n) with
  | true=>
   rw [flt,if_pos e,List.map_append,List.append_assoc]
   exact ih (fun m hm=>hit m (by omega)) (fun m hm=>miss m (by omega)) (.cons (hit n (Nat.lt_succ_self _) e) h)
  | false=>
   rw [flt,if_neg (by simp [e]),List.append_nil];rw [miss n (Nat.lt_succ_self _) e] at h;exact ih (fun m hm=>hit m (by omega)) (fun m hm=>miss m (by omega)) h
theorem flt_none:∀n,(∀i,p i=false)->flt ord p n=[]
 | 0,_=>rfl
 | n+1,h=>by rw [flt,flt_none n h,h];rfl
theorem Tw {x:Nat}:∀n,x ∈ flt ord p n ↔ ∃m,m<n∧ord m=x∧p x=true
 | 0=>by simp [flt]
 | n+1=>by
  rw [flt,List.mem_append,Tw n];constructor
  . rintro(⟨m,hm,e⟩ | h)
    . exact⟨m,by omega,e⟩
    . by_cases e:p (ord n)=true
      . rw [if_pos e,Dz] at h;exact⟨n,by omega,h.symm,by rw [h];exact e⟩
      . rw [if_neg e] at h;cases h
  . rintro⟨m,hm,e,hp⟩;by_cases c:m=n
    . subst c
      right
      rw [e,if_pos hp];exact Dz.2 rfl
    . exact .inl ⟨m,by omega,e,hp⟩
theorem Eg (s:AE) (fr tw:Nat->Nat->Bool):Ax s fr tw=Ep s fr tw 0++(Ep s fr tw 1++(Ep s fr tw 2++(Ep s fr tw 3++(Ep s fr tw 4++(Ep s fr tw 5++[]))))):=by
 simp [Ax,Gb,List.append_assoc]
theorem DS (h:∀i,(Eh k fr tw i&&!EF k fr tw i)=false):Ep s fr tw k=[]:=by
 rw [Ep,flt_none _ h];rfl
structure Whole (s:AE) (tw:Nat->Nat->Bool):Prop where
 dom:∀i,i<s.nd->tw 0 i=true->(s.dm i).above= -1∨∃a:Nat,(s.dm i).above=(a:Int)∧a<s.nd∧tw 0 a=true
 clk:Ef s (tw 1)
 sw:∀i,i<s.nc->tw 1 i=true->Sw s i
def EqW (s:AE) (a b:Nat->Nat->Bool):Prop:=∀j i,j<3->i<Ao s j->a j i=b j i
theorem Tj (hs:s.Ok) (f0:∀i,fr 0 i=false) (f1:∀i,fr 1 i=false) (f2:∀i,fr 2 i=true->tw 2 i=true) (g:Whole s tw):∃cw',Jr s fr (Ax s fr tw) cw'∧EqW s cw' tw:=by
 have z3:Ep s fr tw 3=[]:=DS fun i=>by
  show(fr 2 i&&!tw 2 i)=false
  cases e:fr 2 i with
  | false=>rfl
  | true=>rw [f2 i e];rfl
 have z4:Ep s fr tw 4=[]:=DS fun i=>by show(fr 1 i&&_)=false;rw [f1];rfl
 have z5:Ep s fr tw 5=[]:=DS fun i=>by show(fr 0 i&&_)=false;rw [f0];rfl
 rw [Eg,z3,z4,z5];obtain⟨C2,h2⟩:∃C2:Nat->Nat->Nat->Bool,C2=fun m a i=>if a=0 then(if i<s.nd then tw 0 i else fr 0 i) else if a=1 then(if i<s.nc then tw 1 i else fr 1 i) else if a=2∧i<m then tw 2 i else fr a i:=⟨_,rfl⟩
 obtain⟨C1,h1⟩:∃C1:Nat->Nat->Nat->Bool,C1=fun m a i=>if a=0 then(if i<s.nd then tw 0 i else fr 0 i) else if a=1∧i<m then tw 1 i else fr a i:=⟨_,rfl⟩
 obtain⟨C0,h0⟩:∃C0:Nat->Nat->Nat->Bool,C0=fun m a i=>if a=0∧i<m then tw 0 i else fr a i:=⟨_,rfl⟩
 have s0:C0 0=fr:=by rw [h0];funext a i;exact if_neg fun q=>Nat.not_lt_zero _ q.2
 have s1:C1 0=C0 s.nd:=by
  rw [h0,h1];funext a i;dsimp only;by_cases e:a=0
  . subst e;by_cases l:i<s.nd <;> simp [l]
  . rw [if_neg e,if_neg (fun q=>Nat.not_lt_zero _ q.2),if_neg (fun q=>e q.1)]
 have s2:C2 0=C1 s.nc:=by
  rw [h1,h2];funext a i;dsimp only;by_cases e:a=0
  . rw [if_pos e,if_pos e]
  . rw [if_neg e,if_neg e];by_cases e1:a=1
    . subst e1;by_cases l:i<s.nc <;> simp [l]
    . rw [if_neg e1,if_neg (fun q=>Nat.not_lt_zero _ q.2),if_neg (fun q=>e1 q.1)]
 refine⟨C2 s.nr,?_,?_⟩
 . suffices h:Jr s (C0 0) (Ep s fr tw 0++(Ep s fr tw 1++(Ep s fr tw 2++([]++([]++([]++[])))))) (C2 s.nr) by rw [s0] at h;exact h
   refine Gn s.nd (fun m hm hp=>?_) (fun m hm hp=>?_) ?_
   . have hp:(tw 0 m&&!fr 0 m)=true:=hp;rw [f0,Bool.not_false,Bool.and_true] at hp;have e:C0 (m+1)=C7 (C0 m) 0 m true:=by
      rw [h0];funext a i;unfold C7;dsimp only;by_cases c:a=0∧i=m
      . rw [if_pos ⟨c.1,by omega⟩,if_pos c,c.2];exact hp
      . rw [if_neg c];by_cases c2:a=0∧i<m
        . rw [if_pos c2,if_pos ⟨c2.1,by omega⟩]
        . rw [if_neg c2,if_neg (fun q=>by rcases Ji.1 q.2 with z | z;exact c2 ⟨q.1,z⟩;exact c ⟨q.1,z⟩)]
     rw [e];refine .up m hm (by rw [h0];dsimp only;rw [if_neg (fun q=>DE _ q.2),f0]) ?_;rcases g.dom m hm hp with q | ⟨a,q,la,ta⟩
     . exact .inl q
     . have:=(hs.dm m hm).above;rw [q] at this;exact .inr ⟨a,q,la,by rw [h0];dsimp only;rw [if_pos ⟨rfl,by omega⟩];exact ta⟩
   . have hp:(tw 0 m&&!fr 0 m)=false:=hp;rw [f0,Bool.not_false,Bool.and_true] at hp;rw [h0];funext a i;dsimp only;by_cases c:a=0∧i=m
     . rw [if_pos ⟨c.1,by omega⟩,if_neg (fun q=>by omega),c.1,c.2,hp,f0]
     . by_cases c2:a=0∧i<m
       . rw [if_pos c2,if_pos ⟨c2.1,by omega⟩]
       . rw [if_neg c2,if_neg (fun q=>by rcases Ji.1 q.2 with z | z;exact c2 ⟨q.1,z⟩;exact c ⟨q.1,z⟩)]
   rw [<-s1];refine Gn s.nc (fun m hm hp=>?_) (fun m hm hp=>?_) ?_
   . have hp:(tw 1 m&&!fr 1 m)=true:=hp;rw [f1,Bool.not_false,Bool.and_true] at hp;have e:C1 (m+1)=C7 (C1 m) 1 m true:=by
      rw [h1];funext a i;unfold C7;dsimp only;by_cases c0:a=0
      . rw [if_pos c0,if_pos c0,if_neg (show¬(a=1∧i=m) from fun q=>by omega)]
      rw [if_neg c0,if_neg c0];by_cases c:a=1∧i=m
      . rw [if_pos ⟨c.1,by omega⟩,if_pos c,c.2];exact hp
      . rw [if_neg c];by_cases c2:a=1∧i<m
        . rw [if_pos c2,if_pos ⟨c2.1,by omega⟩]
        . rw [if_neg c2,if_neg (fun q=>by rcases Ji.1 q.2 with z | z;exact c2 ⟨q.1,z⟩;exact c ⟨q.1,z⟩)]
     rw [e];have hk:=g.sw m hm hp;have m0:0<(s.ck m).m:=Qb hs hm (by rcases hk with e | e <;> omega);have sl:=(hs.ck m hm).less 0 m0;refine .on m hm hk (by rw [h1];dsimp only;rw [if_neg (by omega),if_neg (fun q=>DE _ q.2),f1]) fun c hc sw=>?_;have le:=Ix hs s.nc _ _ (by omega) (by omega) hc;rw [h1];dsimp only;rw [if_neg (by omega),if_pos ⟨rfl,by omega⟩];exact g.clk m hm hp c ((Cq hs hm).2 (.inr ⟨by omega,hc⟩)) sw
   . have hp:(tw 1 m&&!fr 1 m)=false:=hp;rw [f1,Bool.not_false,Bool.and_true] at hp;rw [h1];funext a i;dsimp only;by_cases c0:a=0
     . rw [if_pos c0,if_pos c0]
     rw [if_neg c0,if_neg c0];by_cases c:a=1∧i=m
     . rw [if_pos ⟨c.1,by omega⟩,if_neg (fun q=>by omega),c.1,c.2,hp,f1]
     . by_cases c2:a=1∧i<m
       . rw [if_pos c2,if_pos ⟨c2.1,by omega⟩]
       . rw [if_neg c2,if_neg (fun q=>by rcases Ji.1 q.2 with z | z;exact c2 ⟨q.1,z⟩;exact c ⟨q.1,z⟩)]
   rw [<-s2];refine Gn s.nr (fun m hm hp=>?_) (fun m hm hp=>?_) (.nil _)
   . have hp:(tw 2 m&&!fr 2 m)=true:=hp;rw [F0,Bool.not_eq_true'] at hp;have e:C2 (m+1)=C7 (C2 m) 2 m true:=by
      rw [h2];funext a i;unfold C7;dsimp only;by_cases c0:a=0
      . rw [if_pos c0,if_pos c0,if_neg (show¬(a=2∧i=m) from fun q=>by omega)]
      rw [if_neg c0,if_neg c0];by_cases c1:a=1
      . rw [if_pos c1,if_pos c1,if_neg (show¬(a=2∧i=m) from fun q=>by omega)]
      rw [if_neg c1,if_neg c1];by_cases c:a=2∧i=m
      . rw [if_pos ⟨c.1,by omega⟩,if_pos c,c.2];exact hp.1
      . rw [if_neg c];by_cases c2:a=2∧i<m
        . rw [if_pos c2,if_pos ⟨c2.1,by omega⟩]
        . rw [if_neg c2,if_neg (fun q=>by rcases Ji.1 q.2 with z | z;exact c2 ⟨q.1,z⟩;exact c ⟨q.1,z⟩)]
     rw [e];exact .rel m hm (by rw [h2];dsimp only;rw [if_neg (by omega),if_neg (by omega),if_neg (fun q=>DE _ q.2)];exact hp.2)
   . have hp:(tw 2 m&&!fr 2 m)=false:=hp;have hq:tw 2 m=fr 2 m:=by
      cases e:fr 2 m with
      | true=>exact f2 m e
      | false=>rw [e,Bool.not_false,Bool.and_true] at hp;exact hp
     rw [h2];funext a i;dsimp only;by_cases c0:a=0
     . rw [if_pos c0,if_pos c0]
     rw [if_neg c0,if_neg c0];by_cases c1:a=1
     . rw [if_pos c1,if_pos c1]
     rw [if_neg c1,if_neg c1];by_cases c:a=2∧i=m
     . rw [if_pos ⟨c.1,by omega⟩,if_neg (fun q=>by omega),c.1,c.2,hq]
     . by_cases c2:a=2∧i<m
       . rw [if_pos c2,if_pos ⟨c2.1,by omega⟩]
       . rw [if_neg c2,if_neg (fun q=>by rcases Ji.1 q.2 with z | z;exact c2 ⟨q.1,z⟩;exact c ⟨q.1,z⟩)]
 . intro j i hj hi;rw [h2];dsimp only;have:j=0∨j=1∨j=2:=by omega
   rcases this with rfl | rfl | rfl
   . have hi:i<s.nd:=hi;rw [if_pos rfl,if_pos hi]
   . have hi:i<s.nc:=hi;rw [if_neg (by omega),if_pos rfl,if_pos hi]
   . have hi:i<s.nr:=hi;rw [if_neg (by omega),if_neg (by omega),if_pos ⟨rfl,hi⟩]
theorem Uv (hs:s.Ok) (t0:∀i,tw 0 i=false) (t1:∀i,tw 1 i=false) (t2:∀i,tw 2 i=fr 2 i) (g:Whole s fr):∃cw',Jr s fr (Ax s fr tw) cw'∧EqW s cw' tw:=by
 have z0:Ep s fr tw 0=[]:=DS fun i=>by show(tw 0 i&&_)=false;rw [t0];rfl
 have z1:Ep s fr tw 1=[]:=DS fun i=>by show(tw 1 i&&_)=false;rw [t1];rfl
 have z2:Ep s fr tw 2=[]:=DS fun i=>by show(tw 2 i&&!fr 2 i)=false;rw [t2];cases fr 2 i <;> rfl
 have z3:Ep s fr tw 3=[]:=DS fun i=>by show(fr 2 i&&!tw 2 i)=false;rw [t2];cases fr 2 i <;> rfl
 rw [Eg,z0,z1,z2,z3];obtain⟨D4,h4⟩:∃C:Nat->Nat->Nat->Bool,C=fun m a i=>if a=1∧s.nc<=i+m∧i<s.nc then false else fr a i:=⟨_,rfl⟩
 obtain⟨D5,h5⟩:∃C:Nat->Nat->Nat->Bool,C=fun m a i=>if a=0∧s.nd<=i+m∧i<s.nd then false else D4 s.nc a i:=⟨_,rfl⟩
 have s4:D4 0=fr:=by rw [h4];funext a i;exact if_neg fun q=>by omega
 have s5:D5 0=D4 s.nc:=by rw [h5];funext a i;exact if_neg fun q=>by omega
 refine⟨D5 s.nd,?_,?_⟩
 . suffices h:Jr s (D4 0) (Ep s fr tw 4++(Ep s fr tw 5++[])) (D5 s.nd) by rw [s4] at h;exact h
   refine Gn s.nc (fun m hm hp=>?_) (fun m hm hp=>?_) ?_
   . have eo:rowOrd s 4 m=s.nc - 1 - m:=rfl;have hp:(fr 1 (rowOrd s 4 m)&&!tw 1 (rowOrd s 4 m))=true:=hp;obtain⟨k,hk⟩:=ex (rowOrd s 4 m);rw [hk] at hp ⊢;rw [t1,Bool.not_false,Bool.and_true] at hp;have e:D4 (m+1)=C7 (D4 m) 1 k false:=by
      rw [h4];funext a i;unfold C7;dsimp only;by_cases c:a=1∧i=k
      . rw [if_pos ⟨c.1,by omega,by omega⟩,if_pos c]
      . rw [if_neg c];by_cases c2:a=1∧s.nc<=i+m∧i<s.nc
        . rw [if_pos c2,if_pos ⟨c2.1,by omega,c2.2.2⟩]
        . rw [if_neg c2,if_neg (fun q=>by omega)]
     rw [e];refine .off k (by omega) (g.sw k (by omega) hp) (by rw [h4];dsimp only;rw [if_neg (fun q=>by omega)];exact hp) fun j hj hjk oj hm2=>?_;rw [h4] at oj;dsimp only at oj;by_cases c:s.nc<=j+m
     . rw [if_pos ⟨rfl,c,hj⟩] at oj;cases oj
     . have:=Ix hs s.nc _ _ hj hj hm2;omega
   . have eo:rowOrd s 4 m=s.nc - 1 - m:=rfl;have hp:(fr 1 (rowOrd s 4 m)&&!tw 1 (rowOrd s 4 m))=false:=hp;obtain⟨k,hk⟩:=ex (rowOrd s 4 m);rw [hk] at hp;rw [t1,Bool.not_false,Bool.and_true] at hp;rw [h4];funext a i;dsimp only;by_cases c:a=1∧i=k
     . rw [if_pos ⟨c.1,by omega,by omega⟩,if_neg (fun q=>by omega),c.1,c.2,hp]
     . by_cases c2:a=1∧s.nc<=i+m∧i<s.nc
       . rw [if_pos c2,if_pos ⟨c2.1,by omega,c2.2.2⟩]
       . rw [if_neg c2,if_neg (fun q=>by omega)]
   rw [<-s5];refine Gn s.nd (fun m hm hp=>?_) (fun m hm hp=>?_) (.nil _)
   . have eo:rowOrd s 5 m=s.nd - 1 - m:=rfl;have hp:(fr 0 (rowOrd s 5 m)&&!tw 0 (rowOrd s 5 m))=true:=hp;obtain⟨k,hk⟩:=ex (rowOrd s 5 m);rw [hk] at hp ⊢;rw [t0,Bool.not_false,Bool.and_true] at hp;have e:D5 (m+1)=C7 (D5 m) 0 k false:=by
      rw [h5];funext a i;unfold C7;dsimp only;by_cases c:a=0∧i=k
      . rw [if_pos ⟨c.1,by omega,by omega⟩,if_pos c]
      . rw [if_neg c];by_cases c2:a=0∧s.nd<=i+m∧i<s.nd
        . rw [if_pos c2,if_pos ⟨c2.1,by omega,c2.2.2⟩]
        . rw [if_neg c2,if_neg (fun q=>by omega)]
     rw [e];refine .down k (by omega) (by rw [h5,h4];dsimp only;rw [if_neg (fun q=>by omega),if_neg (fun q=>by omega)];exact hp) fun j hj ab=>?_;have:=(hs.dm j hj).above;rw [h5];dsimp only;rw [if_pos ⟨rfl,by omega,hj⟩]
   . have eo:rowOrd s 5 m=s.nd - 1 - m:=rfl;have hp:(fr 0 (rowOrd s 5 m)&&!tw 0 (rowOrd s 5 m))=false:=hp;obtain⟨k,hk⟩:=ex (rowOrd s 5 m);rw [hk] at hp;rw [t0,Bool.not_false,Bool.and_true] at hp;rw [h5];funext a i;dsimp only;by_cases c:a=0∧i=k
     . rw [if_pos ⟨c.1,by omega,by omega⟩,if_neg (fun q=>by omega),c.1,c.2,h4];dsimp only;rw [if_neg (fun q=>by omega),hp]
     . by_cases c2:a=0∧s.nd<=i+m∧i<s.nd
       . rw [if_pos c2,if_pos ⟨c2.1,by omega,c2.2.2⟩]
       . rw [if_neg c2,if_neg (fun q=>by omega)]
 . intro j i hj hi;rw [h5,h4];dsimp only;have:j=0∨j=1∨j=2:=by omega
   rcases this with rfl | rfl | rfl
   . have hi:i<s.nd:=hi;rw [if_pos ⟨rfl,by omega,hi⟩,t0]
   . have hi:i<s.nc:=hi;rw [if_neg (fun q=>by omega),if_pos ⟨rfl,by omega,hi⟩,t1]
   . rw [if_neg (fun q=>by omega),if_neg (fun q=>by omega),t2]
theorem Ks (h:∀j i,j<3->fr j i=tw j i):Ax s fr tw=[]:=by
 have z:∀k,Ep s fr tw k=[]:=fun k=>DS fun i=>by
  have e:Eh k fr tw i=EF k fr tw i:=by
   have l:DT k<3:=by unfold DT;split <;> omega
   unfold Eh EF;split
   . exact(h _ i l).symm
   . exact h _ i l
  rw [e];cases EF k fr tw i <;> rfl
 rw [Eg,z,z,z,z,z,z];rfl
def Ds (s:AE) (d r:Nat) (v:Int):Int:=if(s.dm (s.dv d).dom).ret=true∧((s.dv d).reg r).ret=true then v else((s.dv d).reg r).reset
theorem P7 (s:AE) (d r:Nat) (v:Int):Ds s d r (Ds s d r v)=Ds s d r v:=by unfold Ds;split <;> rfl
def Nb (s:AE) (d:Nat) (q:DX):Prop:=q.p=17∧q.x≠1∧(s.dv d).dom=q.i
theorem Ns (h:¬Nb s d q) (v:Nat->Nat->Int) (r:Nat):Gi s q v d r=v d r:=if_neg h
theorem Kr (h:Nb s d q) (v:Nat->Nat->Int) (r:Nat):Gi s q v d r=Ds s d r (v d r):=by
 unfold Gi Ds;refine(if_pos h).trans ?_;rw [h.2.2]
theorem Pj:∀ (l:List DX) (v:Nat->Nat->Int) (r:Nat),(∀q ∈ l,¬Nb s d q)->FQ s l v d r=v d r
 | [],_,_,_=>rfl
 | q::l,v,r,h=>by rw [FQ,Pj l _ r fun q hq=>h q (al19_ _ hq),Ns (h q (List.mem_cons_self ..))]
theorem ND:∀ (l:List DX) (v:Nat->Nat->Int),v d r=Ds s d r (v d r)->FQ s l v d r=v d r
 | [],_,_=>rfl
 | q::l,v,h=>by
  have e:Gi s q v d r=v d r:=by
   by_cases c:Nb s d q
   . rw [Kr c];exact h.symm
   . exact Ns c v r
  rw [FQ,ND l _ (by rw [e];exact h),e]
theorem Mz:∀ (l:List DX) (v:Nat->Nat->Int),(∃q ∈ l,Nb s d q)->FQ s l v d r=Ds s d r (v d r)
 | [],_,h=>by obtain⟨q,hq,_⟩:=h;cases hq
 | q::l,v,h=>by
  by_cases c:Nb s d q
  . rw [FQ,ND l _ (by rw [Kr c,P7]),Kr c]
  . obtain⟨q2,hq2,c2⟩:=h;rcases List.mem_cons.1 hq2 with rfl | m
    . exact absurd c2 c
    . rw [FQ,Mz l _ ⟨q2,m,c2⟩,Ns c]
theorem Pd (h:q ∈ Ep s fr tw k):q.p=rowP k∧q.x=rowX s k q.i:=by
 obtain⟨o,_,rfl⟩:=List.mem_map.1 h;exact⟨rfl,rfl⟩
theorem val_up (f0:∀i,fr 0 i=false) (d:Nat) (v:Nat->Nat->Int) (r:Nat):FQ s (Ax s fr tw) v d r=v d r:=by
 refine Pj _ v r fun q hq c=>?_;have z5:Ep s fr tw 5=[]:=DS fun i=>by show(fr 0 i&&_)=false;rw [f0];rfl
 rw [Eg,z5] at hq;simp only [List.mem_append,List.not_mem_nil,or_false] at hq;rcases hq with h | h | h | h | h
 . exact c.2.1 (Pd h).2
 all_goals (have:=(Pd h).1;rw [c.1] at this;exact absurd this (by decide))
theorem Wn (t0:∀i,tw 0 i=false) (d:Nat) (hd:(s.dv d).dom<s.nd) (hw:fr 0 (s.dv d).dom=true) (v:Nat->Nat->Int) (r:Nat):FQ s (Ax s fr tw) v d r=Ds s d r (v d r):=by
 refine Mz _ v ⟨⟨17,(s.dv d).dom,rowX s 5 (s.dv d).dom⟩,?_,rfl,?_,rfl⟩
 . rw [Eg];refine List.mem_append_right _ (List.mem_append_right _ (List.mem_append_right _ (List.mem_append_right _ (List.mem_append_right _ (List.mem_append_left _ ?_)))));refine List.mem_map.2 ⟨(s.dv d).dom,(Tw s.nd).2 ⟨s.nd - 1 - (s.dv d).dom,by omega,?_,?_⟩,rfl⟩
   . show s.nd - 1 - (s.nd - 1 - (s.dv d).dom)=_;omega
   . show(fr 0 _&&!tw 0 _)=true;rw [hw,t0];rfl
 . show(if(s.dm (s.dv d).dom).ret=true then 2 else 0)≠1;split <;> omega
theorem wantN_iff {j i:Nat}:∀n,Bh s act n j i=true ↔ ∃k,k<n∧act k=true∧PJ s k j i=true
 | 0=>by simp [Bh]
 | n+1=>by
  rw [Bh,Eu,wantN_iff n,F0];constructor
  . rintro(⟨k,hk,e⟩ | h)
    . exact⟨k,by omega,e⟩
    . exact⟨n,by omega,h⟩
  . rintro⟨k,hk,e⟩;by_cases c:k=n
    . subst c;exact .inr e
    . exact .inl ⟨k,by omega,e⟩
theorem JS (f k:Nat):Ga s (f+1) (k:Int)=k::Ga s f (s.dm k).above:=by
 rw [Ga,if_neg (by omega),Int.toNat_natCast]
theorem Sm (hs:s.Ok):∀ (f k i:Nat),k<f->k<s.nd->i ∈ Ga s f (k:Int)->i<s.nd∧((s.dm i).above= -1∨∃a:Nat,(s.dm i).above=(a:Int)∧a<s.nd∧a ∈ Ga s f (k:Int)):=by
 intro f
 induction f with
 | zero=>intro k i h;omega
 | succ f ih=>
  intro k i hf hk h;rw [JS] at h ⊢;have ab:=(hs.dm k hk).above;rcases ab with ab | ab
  . rw [ab] at h ⊢;have e:Ga s f (-1)=[]:=by cases f <;> rfl
    rw [e,Dz] at h;subst h;exact⟨hk, .inl ab⟩
  . obtain⟨a,ha⟩:∃a:Nat,(s.dm k).above=(a:Int):=⟨(s.dm k).above.toNat,by omega⟩;rw [ha] at ab h ⊢;have h1:a ∈ Ga s f (a:Int):=by
     obtain⟨g,hg⟩:∃g,f=g+1:=⟨f - 1,by omega⟩;rw [hg,JS];exact List.mem_cons_self ..
    rcases List.mem_cons.1 h with rfl | h
    . exact⟨hk, .inr ⟨a,ha,by omega,al19_ _ h1⟩⟩
    . obtain⟨l,g⟩:=ih a i (by omega) (by omega) h;refine⟨l,?_⟩;rcases g with g | ⟨b,e,lb,m⟩
      . exact .inl g
      . exact .inr ⟨b,e,lb,al19_ _ m⟩
theorem Gf (hs:s.Ok) (h0:∀i,tw 0 i=Bh s act s.nv 0 i) (h1:∀i,tw 1 i=Bh s act s.nv 1 i):Whole s tw:=by
 have w1:∀i,tw 1 i=true->∃k,k<s.nv∧act k=true∧i ∈ AU s s.nc (s.dv k).clock∧Sw s i:=fun i h=>by
  rw [h1] at h;obtain⟨k,hk,a,w⟩:=(wantN_iff s.nv).1 h;have w:(decide (i ∈ AU s s.nc (s.dv k).clock)&&(decide ((s.ck i).kind=112)||decide ((s.ck i).kind=103)))=true:=w;rw [F0,Eu,decide_eq_true_eq,decide_eq_true_eq,decide_eq_true_eq] at w;exact⟨k,hk,a,w.1,w.2⟩
 refine⟨fun i hi h=>?_,fun j hj oj c hc sw=>?_,fun i hi h=>?_⟩
 . rw [h0] at h;obtain⟨k,hk,a,w⟩:=(wantN_iff s.nv).1 h;have w:decide (i ∈ Ga s s.nd ((s.dv k).dom:Int))=true:=w;rw [decide_eq_true_eq] at w;rcases(Sm hs s.nd _ i (hs.dom k hk) (hs.dom k hk) w).2 with e | ⟨b,e,lb,m⟩
   . exact .inl e
   . exact .inr ⟨b,e,lb,by rw [h0];exact(wantN_iff s.nv).2 ⟨k,hk,a,decide_eq_true m⟩⟩
 . obtain⟨k,hk,a,m,_⟩:=w1 j oj;rw [h1];refine(wantN_iff s.nv).2 ⟨k,hk,a,?_⟩;show(decide (c ∈ AU s s.nc (s.dv k).clock)&&(decide ((s.ck c).kind=112)||decide ((s.ck c).kind=103)))=true;rw [F0,Eu,decide_eq_true_eq,decide_eq_true_eq,decide_eq_true_eq];exact⟨Qe hs s.nc _ j c (hs.clock k hk) (hs.clock k hk) m hc,sw⟩
 . obtain⟨k,hk,a,m,sw⟩:=w1 i h;exact sw
theorem WU {cnt:Nat->Nat} (h:0<cnt d):∀n,d<n->actN s cnt n d=true:=by
 intro n
 induction n with
 | zero=>intro c;omega
 | succ n ih=>
  intro c;rw [actN];by_cases e:d=n
  . subst e;simp [h]
  . rw [ih (by omega)];rfl
theorem MH {a b:Nat->Nat}:∀n,(∀k,k<n->(0<a k ↔ 0<b k))->actN s a n=actN s b n
 | 0,_=>rfl
 | n+1,h=>by
  funext i;rw [actN,actN,MH n fun k hk=>h k (by omega)];have:decide (0<a n)=decide (0<b n):=by rw [decide_eq_decide];exact h n (by omega)
  rw [this]
theorem N6 {a:Nat->Nat}:∀n,(∀k,k<n->a k=0)->∀i,actN s a n i=false
 | 0,_,_=>rfl
 | n+1,h,i=>by
  rw [actN,N6 n fun k hk=>h k (by omega),h n (by omega)];rfl
def St.eff (X:St) (s:AE) (t:Nat) (hd:Nat->Nat) (n':Nat) (cnt':Nat->Nat) (asl':Bool):St:=
 { X with rm:=Rm.want { X.rm with holder:=(t:Int),tk:=upd X.rm.tk t { X.rm.tk t with st:=2,h:=hd } } s cnt' asl',n:=n',cnt:=cnt',asl:=asl' }
def I3 (s:AE) (t:Nat) (X X2:St):Prop:=
 ((X2.rm.posted=true∨X2.rm.steps≠[])->Cj s t X X2)∧(X2.rm.posted=false->X2.rm.steps=[]->Cj s t X { X2 with rm:=X2.rm.over t 0 0 })
theorem Cu (y:Rm) (t:Nat):(y.works t).tk t={ y.tk t with st:=2 }:=upd_same _ _ _
theorem Kg (y:Rm) (t d v:Nat):(y.works t).hand t d v={ y with holder:=(t:Int),tk:=upd y.tk t { y.tk t with st:=2,h:=upd (y.tk t).h d v } }:=by
 unfold Rm.hand;rw [Cu];show({ y with holder:=(t:Int),tk:=upd (upd y.tk t _) t _ }:Rm)=_;rw [Js]
section
variable {s:AE} {X:St}
theorem MB (hs:s.Ok) (t:Nat) (ht:t=0∨t=1∨t=2) (h1:(X.rm.tk t).st=1) (hh:X.rm.holder= -1) (hk:(X.rm.tk t).c.kind=103) (hd:(X.rm.tk t).c.dev=d) (hdv:d<s.nv) (ha:X.asl=false) (hn:X.n<=1000) (hcd:X.cnt d<7) (hhd:(X.rm.tk t).h d<=1000):
 I3 s t X (X.eff s t (upd (X.rm.tk t).h d ((X.rm.tk t).h d+1)) (X.n+1) (upd X.cnt d (X.cnt d+1)) false):=by
 refine E6 t ht h1 hh hk (.inl rfl) rfl fun w lab B h=>?_;have hc:=h.cnt;rw [show({ X with rm:=X.rm.works t }:St).asl=false from ha] at hc;have g:=WQ h.rpm hc hs h.fr hn t ht (d:=d) (by rw [Cu];exact hd) hdv hcd (by rw [Cu];exact hhd);rw [Cu,Kg] at g;exact g.mono fun e w' q=>h.begins q
theorem TE (hs:s.Ok) (t:Nat) (ht:t=0∨t=1∨t=2) (h1:(X.rm.tk t).st=1) (hh:X.rm.holder= -1) (hk:(X.rm.tk t).c.kind=112) (hd:(X.rm.tk t).c.dev=d) (hdv:d<s.nv) (ha:X.asl=false) (hn:X.n<=1000) (hcd:0<X.cnt d∧X.cnt d<=7) (hhd:0<(X.rm.tk t).h d∧(X.rm.tk t).h d<=1000):
 I3 s t X (X.eff s t (upd (X.rm.tk t).h d ((X.rm.tk t).h d - 1)) (X.n+1) (upd X.cnt d (X.cnt d - 1)) false):=by
 refine E6 t ht h1 hh hk (.inr (.inl rfl)) rfl fun w lab B h=>?_;have hc:=h.cnt;rw [show({ X with rm:=X.rm.works t }:St).asl=false from ha] at hc;have g:=WO h.rpm hc hs h.fr hn t ht (d:=d) (by rw [Cu];exact hd) hdv hcd (by rw [Cu];exact hhd);rw [Cu,Kg] at g;exact g.mono fun e w' q=>h.begins q
theorem MA (hs:s.Ok) (t:Nat) (ht:t=0∨t=1∨t=2) (h1:(X.rm.tk t).st=1) (hh:X.rm.holder= -1) (hk:(X.rm.tk t).c.kind=115) (ha:X.asl=false):I3 s t X (X.eff s t (X.rm.tk t).h X.n X.cnt true):=by
 refine E6 t ht h1 hh hk (.inr (.inr (.inr (.inr (.inl rfl))))) rfl fun w lab B h=>?_;have hc:=h.cnt;rw [show({ X with rm:=X.rm.works t }:St).asl=false from ha] at hc;exact(Mi h.rpm hc hs h.fr _).mono fun e w' q=>h.begins q
theorem Mg (hs:s.Ok) (t:Nat) (ht:t=0∨t=1∨t=2) (h1:(X.rm.tk t).st=1) (hh:X.rm.holder= -1) (hk:(X.rm.tk t).c.kind=109) (ha:X.asl=true):I3 s t X (X.eff s t (X.rm.tk t).h X.n X.cnt false):=by
 refine E6 t ht h1 hh hk (.inr (.inr (.inr (.inr (.inr rfl))))) rfl fun w lab B h=>?_;have hc:=h.cnt;rw [show({ X with rm:=X.rm.works t }:St).asl=true from ha] at hc;exact(Oo h.rpm hc hs h.fr _).mono fun e w' q=>h.begins q
theorem Mh (hs:s.Ok) (t:Nat) (ht:t=0∨t=1∨t=2) (h1:(X.rm.tk t).st=1) (hh:X.rm.holder= -1) {vl:Int} (wr:Bool) (hk:(X.rm.tk t).c.kind=if wr then 119 else 114) (hd:(X.rm.tk t).c.dev=d) (hg:(X.rm.tk t).c.reg=g) (hv:(X.rm.tk t).c.val=vl) (hdv:d<s.nv) (hgv:g<(s.dv d).nreg) (ha:X.asl=false)
 (hha:0<(X.rm.tk t).h d) (hca:X.hx.ca d=0) (k0:0<=X.hx.posted) (k1:X.hx.posted<=1000) (h4:X.hx.m d<4):
 I3 s t X { X with rm:={ X.rm.works t with posted:=true,ident:=X.hx.posted },hx:=X.hx.post d g wr vl }:=by
 have act:∀w lab B,AN w lab s B { X with rm:=X.rm.works t }->Calls prog 358 #[.agg #[.bool wr], .pointer B.rb.R, .pointer (some ⟨B.rb.R,10+t*13,none⟩)] w (WP w lab s B { X with rm:={ X.rm.works t with posted:=true,ident:=X.hx.posted },hx:=X.hx.post d g wr vl } (.int .i64 0)):=by
  intro w lab B h;have hc:=h.cnt;rw [show({ X with rm:=X.rm.works t }:St).asl=false from ha] at hc;have q:=Oq h.rpm hc h.hard h.le hs h.fr t ht (d:=d) (g:=g) (vl:=vl) (by rw [Cu];exact hd) (by rw [Cu];exact hg) (by rw [Cu];exact hv) hdv hgv (by rw [Cu];exact hha) wr hca k0 k1 h4;exact q.mono fun e w' q=>h.accesses q
 cases wr
 . exact E6 t ht h1 hh hk (.inr (.inr (.inl rfl))) rfl act
 . exact E6 t ht h1 hh hk (.inr (.inr (.inr (.inl rfl)))) rfl act
end
theorem DJ.congr (hs:s.Ok) (h:DJ s x a) (e:EqW s a b):DJ s x b:=by
 have e1:∀i,i<s.nc->a 1 i=b 1 i:=fun i hi=>e 1 i (by omega) hi;have e0:∀i,i<s.nd->a 0 i=b 0 i:=fun i hi=>e 0 i (by omega) hi;have e2:∀i,i<s.nr->a 2 i=b 2 i:=fun i hi=>e 2 i (by omega) hi;refine⟨fun i hi=>?_,fun j hj oj c hc sw=>?_,fun i hi=>by rw [<-e0 i hi];exact h.ds i hi,fun i hi=>by rw [<-e2 i hi];exact h.ls i hi,fun j hj=>by rw [<-e0 _ (hs.dom j hj)];exact h.ca j hj,h.m,h.xs⟩
 . have d:=h.ns i hi;rw [Lf,e1 i hi] at d;rw [Lf];exact d
 . have l:=Ix hs s.nc _ _ hj hj hc;rw [<-e1 c (by omega)];exact h.cl j hj (by rw [e1 j hj];exact oj) c hc sw
theorem Eb.congr {y:Fm} (h:Eb s y a) (e:EqW s a b):Eb s y b:=⟨fun j i hj hi=>(h.1 j i hj hi).trans (e j i hj hi),h.2⟩
theorem IB.congr (hs:s.Ok) {X:St} (h:IB s X a) (e:EqW s a b):IB s X b:=
 ⟨h.rest,h.ho,h.steps,h.sent,h.posted,h.many,h.last,h.at_,h.box,h.wish.congr e,h.hw.congr hs e⟩
section
variable {s:AE} {X:St} {t:Nat}
structure Came (s:AE) (X:St) (t:Nat) (c:Cl) (hd:Nat->Nat) (n':Nat) (cnt':Nat->Nat) (asl':Bool) (v:Nat->Nat->Int) (X':St):Prop where
 rest:IB s X' (Cv s cnt' asl' X.rm.wd)
 wd:X'.rm.wd=Cv s cnt' asl' X.rm.wd
 n:X'.n=n'
 cnt:X'.cnt=cnt'
 asl:X'.asl=asl'
 h:∀u,(X'.rm.tk u).h=if u=t then hd else(X.rm.tk u).h
 posted:X'.hx.posted=X.hx.posted
 ev:X'.ev=X.ev++[CJ t c,Bm t c 0 0]
 val:∀d,d<s.nv->∀r,X'.hx.val s d r=v d r
theorem Qf (hs:s.Ok) (ht:T3 t) (re:IB s X X.rm.wd) (c:Cl) {hd:Nat->Nat} {n':Nat} {cnt':Nat->Nat} {asl':Bool} (B:I3 s t (X.called t c) ((X.called t c).eff s t hd n' cnt' asl')) (hev:X.ev.length<=980)
 {cw':Nat->Nat->Bool} (p:Jr s X.rm.wd (Ax s X.rm.wd (Cv s cnt' asl' X.rm.wd)) cw') (e:EqW s cw' (Cv s cnt' asl' X.rm.wd)) (len:(Ax s X.rm.wd (Cv s cnt' asl' X.rm.wd)).length<=40):
 ∃k X',k<=1+7*(Ax s X.rm.wd (Cv s cnt' asl' X.rm.wd)).length∧Bp s k (X.called t c) X'∧Came s X t c hd n' cnt' asl' (FQ s (Ax s X.rm.wd (Cv s cnt' asl' X.rm.wd)) (X.hx.val s)) X':=by
 obtain⟨l,hl⟩:=ex (Ax s X.rm.wd (Cv s cnt' asl' X.rm.wd));obtain⟨Y,hY⟩:=ex ((X.called t c).eff s t hd n' cnt' asl');have ysteps:Y.rm.steps=l:=by rw [<-hY];exact hl
 have yposted:Y.rm.posted=false:=by rw [<-hY];exact re.posted
 have ytk:∀u,u≠t->Y.rm.tk u=X.rm.tk u:=fun u hu=>by
  rw [<-hY];show upd (upd X.rm.tk t _) t _ u=_;rw [uo_ hu,uo_ hu]
 have yst:(Y.rm.tk t).st=2∧(Y.rm.tk t).h=hd:=by
  rw [<-hY];show(upd (upd X.rm.tk t _) t _ t).st=2∧(upd (upd X.rm.tk t _) t _ t).h=hd;rw [upd_same];exact⟨rfl,rfl⟩
 have ycall:Y.calls t=c:=by rw [<-hY];exact upd_same _ _ _
 have yw:∀u,u≠t->Y.waits u=X.waits u:=fun u hu=>by rw [<-hY];exact uo_ hu
 have yhx:Y.hx=X.hx:=by rw [<-hY];rfl
 have yfm:Y.fm=X.fm:=by rw [<-hY];rfl
 have yev:Y.ev=X.ev:=by rw [<-hY];rfl
 have ywd:Y.rm.wd=Cv s cnt' asl' X.rm.wd:=by rw [<-hY];rfl
 have yho:Y.rm.holder=(t:Int):=by rw [<-hY];rfl
 have ysent:Y.rm.sent=false:=by rw [<-hY];rfl
 have ymany:Y.rm.many=X.rm.many:=by rw [<-hY];rfl
 have yn:Y.n=n'∧Y.cnt=cnt'∧Y.asl=asl':=by rw [<-hY];exact⟨rfl,rfl,rfl⟩
 rw [hY] at B;rw [hl] at p len ⊢;have ci:∀u,T3 u->u≠t->F5 (X.called t c) u:=fun u hu h=>⟨by show(upd X.rm.tk t _ u).st=0;rw [uo_ h];exact(re.rest u hu).st,by show upd X.waits t true u=false;rw [uo_ h];exact(re.rest u hu).wt⟩;have cst:∃u,T3 u∧((X.called t c).rm.tk u).st≠0:=⟨t,ht,by show(upd X.rm.tk t _ t).st≠0;rw [upd_same];show(1:Int)≠0;omega⟩;have cw:(X.called t c).waits t=true:=upd_same _ _ _;by_cases z:l=[]
 . have g1:=B.2 yposted (ysteps.trans z);obtain⟨Z,hZ⟩:∃Z:St,({ Y with rm:=Y.rm.over t 0 0 }:St)=Z:=⟨_,rfl⟩;rw [hZ] at g1;have zst:((Z.begun t).rm.tk t).st=3:=by rw [<-hZ];show(upd Y.rm.tk t _ t).st=3;rw [upd_same]
   have zev:(Z.begun t).ev=X.ev++[CJ t c]:=by rw [<-hZ];show Y.ev++[CJ t (Y.calls t)]=_;rw [yev,ycall]
   have zl:Z.ev.length<=1000:=by rw [<-hZ];show Y.ev.length<=_;rw [yev];omega
   have ge:=Ll (s:=s) (X:=Z.begun t) t ht zst (by rw [zev,CX];simp;omega);have g:=IS t ht cw re.ho g1 zl ge;obtain⟨V,hV⟩:=ex ((Z.begun t).ended t);rw [hV] at g;have vhx:V.hx=X.hx:=by rw [<-hV, <-hZ];exact yhx
   have vfm:V.fm=X.fm:=by rw [<-hV, <-hZ];exact yfm
   have vev:V.ev=X.ev++[CJ t c,Bm t c 0 0]:=by
    rw [<-hV];show(Z.begun t).ev++[Bm t ((Z.begun t).calls t) ((Z.begun t).rm.tk t).err ((Z.begun t).rm.tk t).res]=_;rw [zev, <-hZ];show X.ev++[CJ t c]++[Bm t (Y.calls t) (upd Y.rm.tk t { Y.rm.tk t with st:=3,err:=0,res:=0 } t).err (upd Y.rm.tk t { Y.rm.tk t with st:=3,err:=0,res:=0 } t).res]=_;rw [upd_same,ycall,List.append_assoc];rfl
   have vtk:∀u,V.rm.tk u=if u=t then Tk.taken { (Y.rm.tk t) with st:=3,err:=0,res:=0 } else X.rm.tk u:=fun u=>by
    rw [<-hV, <-hZ];show upd (upd Y.rm.tk t { Y.rm.tk t with st:=3,err:=0,res:=0 }) t (upd Y.rm.tk t { Y.rm.tk t with st:=3,err:=0,res:=0 } t).taken u=_;by_cases h:u=t
    . subst h;rw [upd_same,upd_same,if_pos rfl]
    . rw [uo_ h,uo_ h,if_neg h,ytk u h]
   have vre:∀u,T3 u->F5 V u:=fun u hu=>by
    by_cases h:u=t
    . subst h;exact⟨by rw [vtk,if_pos rfl];rfl,by rw [<-hV, <-hZ];exact upd_same _ _ _⟩
    . refine⟨by rw [vtk,if_neg h];exact(re.rest u hu).st,?_⟩;rw [<-hV, <-hZ];show upd Y.waits t false u=false;rw [uo_ h,yw u h];exact(re.rest u hu).wt
   have gf:=Cy (s:=s) (X:=V) (by rw [vfm];exact re.at_) (by rw [vfm,re.box];omega) (by rw [vfm,re.box];omega) (by rw [vfm];exact re.last);have gk:=Di (X:=V) hs (by rw [vhx];exact re.hw.fine hs) (by rw [vev,CX];simp;omega) fun u hu=>by rw [(vre u hu).st];omega
   have r1:=Dt ht ci (fun u hu _=>vre u hu) g gf gk;obtain⟨k1,k2,k3⟩:=re.hw.tick hs;refine⟨1,_,by omega, .succ cst r1 (.zero _),?_⟩;subst z;cases p;exact {
    rest:=⟨fun u hu=>⟨(vre u hu).st,(vre u hu).wt⟩,by show V.rm.holder=_;rw [<-hV, <-hZ];rfl,by show V.rm.steps=_;rw [<-hV, <-hZ];rfl,by show V.rm.sent=_;rw [<-hV, <-hZ];rfl,by show V.rm.posted=_;rw [<-hV, <-hZ];rfl,by show V.rm.many<=_;rw [<-hV, <-hZ];show Y.rm.many<=_;rw [ymany];exact re.many,by show V.fm.last<=_;rw [vfm];exact re.last,by show V.fm.at_=_;rw [vfm];exact re.at_,by show V.fm.box=_;rw [vfm];exact re.box,by show Eb s V.fm _;rw [vfm];exact re.wish.congr e,by show DJ s (V.hx.tk s) _;rw [vhx];exact k1.congr hs e⟩
    wd:=by show V.rm.wd=_;rw [<-hV, <-hZ];exact ywd
    n:=by show V.n=_;rw [<-hV, <-hZ];exact yn.1
    cnt:=by show V.cnt=_;rw [<-hV, <-hZ];exact yn.2.1
    asl:=by show V.asl=_;rw [<-hV, <-hZ];exact yn.2.2
    h:=fun u=>by
     show(V.rm.tk u).h=_;rw [vtk];by_cases h:u=t
     . rw [if_pos h,if_pos h];exact yst.2
     . rw [if_neg h,if_neg h]
    posted:=by show(V.hx.tk s).posted=_;rw [Cm,vhx]
    ev:=vev
    val:=fun d hd r=>by show(V.hx.tk s).val s d r=_;rw [vhx];exact k2 d hd r }
 . have g1:=B.1 (.inr (by rw [ysteps];exact z));have yl:Y.ev.length<=1000:=by rw [yev];omega
   have g:=IS t ht cw re.ho g1 yl (Bv (X:=Y.begun t) t ht (show((Y.begun t).rm.tk t).st=2 from yst.1) (by omega));obtain⟨V,hV⟩:=ex (Y.begun t);rw [hV] at g;have vrm:V.rm=Y.rm:=by rw [<-hV];rfl
   have vhx:V.hx=X.hx:=by rw [<-hV];exact yhx
   have vfm:V.fm=X.fm:=by rw [<-hV];exact yfm
   have vev:V.ev=X.ev++[CJ t c]:=by rw [<-hV];show Y.ev++[CJ t (Y.calls t)]=_;rw [yev,ycall]
   have vw:∀u,u≠t->V.waits u=X.waits u:=fun u h=>by rw [<-hV];show upd Y.waits t false u=_;rw [uo_ h,yw u h]
   have vi:∀u,T3 u->u≠t->F5 V u:=fun u hu h=>⟨by rw [vrm,ytk u h];exact(re.rest u hu).st,by rw [vw u h];exact(re.rest u hu).wt⟩;have al:Hl V t l:=⟨by rw [vrm];exact yst.1,vi,by rw [<-hV];exact upd_same _ _ _,by rw [vrm];exact yho,by rw [vrm];exact ysteps,by rw [vrm];exact yposted,by rw [vrm,ymany];exact re.many,by rw [vfm];exact re.last,by rw [vev,CX];simp;omega⟩;have gf:=Cy (s:=s) (X:=V) (by rw [vfm];exact re.at_) (by rw [vfm,re.box];omega) (by rw [vfm,re.box];omega) (by rw [vfm];exact re.last);have gk:=Di (X:=V) hs (by rw [vhx];exact re.hw.fine hs) (by rw [vev,CX];simp;omega) al.no3;have r1:=Dt ht ci vi g gf gk;obtain⟨k1,k2,k3⟩:=re.hw.tick hs;have ab:Hl { V with hx:=V.hx.tk s } t l:=⟨al.st,fun u hu h=>⟨(al.rest u hu h).st,(al.rest u hu h).wt⟩,al.wt,al.ho,al.steps,al.posted,al.many,al.last,al.ev⟩;have bu:Busy s { V with hx:=V.hx.tk s } t X.rm.wd l:=⟨ab,by show V.rm.sent=_;rw [vrm];exact ysent,by show V.fm.at_=_;rw [vfm];exact re.at_,by show V.fm.box=_;rw [vfm];exact re.box,by show Eb s V.fm _;rw [vfm];exact re.wish,by show DJ s (V.hx.tk s) _;rw [vhx];exact k1⟩;obtain⟨k,X',hk,r2,re',kp,po,vv⟩:=XQ hs ht p _ z bu;have vcall:V.calls t=c:=by rw [<-hV];exact ycall
   refine⟨k+1,X',by omega, .succ cst r1 r2,?_⟩;exact {
    rest:=re'.congr hs e
    wd:=kp.wd.trans (by show V.rm.wd=_;rw [vrm];exact ywd)
    n:=kp.n.trans (by show V.n=_;rw [<-hV];exact yn.1)
    cnt:=kp.cnt.trans (by show V.cnt=_;rw [<-hV];exact yn.2.1)
    asl:=kp.asl.trans (by show V.asl=_;rw [<-hV];exact yn.2.2)
    h:=fun u=>(kp.h u).trans (by
     show(V.rm.tk u).h=_;rw [vrm];by_cases h:u=t
     . rw [if_pos h,h];exact yst.2
     . rw [if_neg h,ytk u h])
    posted:=po.trans (by show(V.hx.tk s).posted=_;rw [Cm,vhx])
    ev:=kp.ev.trans (by show V.ev++[Bm t (V.calls t) 0 0]=_;rw [vev,vcall,List.append_assoc];rfl)
    val:=fun d hd r=>(vv d hd r).trans (Gp l _ _ d (fun r=>by show(V.hx.tk s).val s d r=_;rw [vhx];exact k2 d hd r) r) }
theorem PP (hs:s.Ok) {cw:Nat->Nat->Bool} (h:DJ s x cw) (hd:d<s.nv) (wr:Bool) (v:Int):
 DJ s ((x.post d g wr v).tick s d wr g v) cw∧(∀d',d'<s.nv->∀r,((x.post d g wr v).tick s d wr g v).val s d' r=if wr=true∧d'=d∧r=g∧(x.ds (s.dv d).dom).phase=49 then v else x.val s d' r)∧((x.post d g wr v).tick s d wr g v).posted=x.posted+1:=by
 have pop:(x.post d g wr v).popTo d wr g v s.nv=(x.post d g wr v).pop d wr g v:=if_pos hd;obtain⟨y,hy⟩:=ex ((x.post d g wr v).tick s d wr g v);have ev0:RH x.ds s.nd=[]:=by rw [UB (k:=s.nd) s.nd fun i hi _=>(h.ds i hi).still.2,if_neg (fun q=>DE _ q.1)]
 have yns:y.ns=EC x.ns s.nc s.nc:=by rw [<-hy];rfl
 have yds:∀i,i<s.nd->y.ds i=x.ds i:=fun i hi=>by
  rw [<-hy];show C9 x.ds s.nd i=_;rw [C9,if_pos hi,(h.ds i hi).still.1]
 have yls:∀i,i<s.nr->y.ls i=x.ls i:=fun i hi=>by
  rw [<-hy];show Fp x.ls s.nr i=_;rw [Fp,if_pos hi,(h.ls i hi).still]
 have yfl:y.fl=upd x.fl d ((x.fl d).after wr g v):=by
  rw [<-hy,Hw.tick,pop];show Hf s (upd x.fl d _) (RH x.ds s.nd)=_;rw [ev0];rfl
 have yca:∀j,j<s.nv->y.ca j=x.ca j:=fun j hj=>by
  rw [<-hy,Hw.tick,pop];show(if j<s.nv then En (x.ca j) else x.ca j)=_;rw [if_pos hj];exact Iy (by rcases h.ca j hj with e | e;exact .inl e;exact .inr e.1)
 have ym:y.m=upd (upd x.m d (x.m d+1)) d 0:=by rw [<-hy,Hw.tick,pop];rfl
 have yxs:∀j,j<s.nv->y.xs j=[]:=fun j hj=>by
  rw [<-hy,Hw.tick,pop];show upd (upd x.xs d _) d [] j=[];by_cases e:j=d
  . subst e;rw [upd_same]
  . rw [uo_ e,uo_ e];exact h.xs j hj
 rw [hy];refine⟨⟨by rw [yns];exact Jx hs h.ns h.cl,h.cl,fun i hi=>by rw [yds i hi];exact h.ds i hi,fun i hi=>by rw [yls i hi];exact h.ls i hi,fun j hj=>by rw [yca j hj];exact h.ca j hj,fun j hj=>?_,yxs⟩,fun d' hd' r=>?_,?_⟩
 . rw [ym];by_cases e:j=d
   . subst e;rw [upd_same]
   . rw [uo_ e,uo_ e];exact h.m j hj
 . rw [Hw.val,Hw.val,yds _ (hs.dom d' hd'),yfl];by_cases e:d'=d
   . subst e;rw [upd_same];by_cases p:(x.ds (s.dv d').dom).phase=49
     . rw [if_pos p,if_pos p,Fl.after];cases wr
       . rw [if_neg (by simp),if_neg (by simp)]
       . rw [if_pos rfl];show upd (x.fl d').now g v r=_;by_cases er:r=g
         . subst er;rw [upd_same,if_pos ⟨rfl,rfl,rfl,p⟩]
         . rw [uo_ er,if_neg (fun q=>er q.2.2.1)]
     . rw [if_neg p,if_neg p,if_neg (show¬(wr=true∧d'=d'∧r=g∧(x.ds (s.dv d').dom).phase=49) from fun q=>p q.2.2.2)];cases wr <;> rfl
   . rw [uo_ e,if_neg (show¬(wr=true∧d'=d∧r=g∧(x.ds (s.dv d).dom).phase=49) from fun q=>e q.2.1)]
 . rw [<-hy,Hw.tick,pop];rfl
structure Read (s:AE) (X:St) (t:Nat) (c:Cl) (wr:Bool) (X':St):Prop where
 rest:IB s X' X.rm.wd
 wd:X'.rm.wd=X.rm.wd
 n:X'.n=X.n
 cnt:X'.cnt=X.cnt
 asl:X'.asl=X.asl
 h:∀u,(X'.rm.tk u).h=(X.rm.tk u).h
 posted:X'.hx.posted=X.hx.posted+1
 ev:X'.ev=X.ev++[CJ t c,evDel X.hx.posted c.dev (X.hx.val s c.dev c.reg),Bm t c 0 (X.hx.val s c.dev c.reg)]
 val:∀d,d<s.nv->∀r,X'.hx.val s d r=if wr=true∧d=c.dev∧r=c.reg then c.val else X.hx.val s d r
theorem Qg (hs:s.Ok) (ht:T3 t) (re:IB s X X.rm.wd) (c:Cl) (wr:Bool) (hk:c.kind=if wr then 119 else 114) (hdv:c.dev<s.nv) (hgv:c.reg<(s.dv c.dev).nreg) (ha:X.asl=false) (hha:0<(X.rm.tk t).h c.dev) (k0:0<=X.hx.posted) (k1:X.hx.posted<=1000) (hev:X.ev.length<=980)
 (hp:X.rm.wd 0 (s.dv c.dev).dom=true) (hl:X.rm.wd 2 (s.dv c.dev).line=true) (hc:∀i ∈ AU s s.nc (s.dv c.dev).clock,Sw s i->X.rm.wd 1 i=true):
 ∃X',Bp s 1 (X.called t c) X'∧Read s X t c wr X':=by
 obtain⟨d,hd⟩:=ex c.dev;obtain⟨g,hg⟩:=ex c.reg;obtain⟨vl,hvl⟩:=ex c.val;obtain⟨tid,htid⟩:=ex X.hx.posted;rw [hd] at hdv hgv hha hp hl hc;rw [hg] at hgv;have ctk:(X.called t c).rm.tk t={ X.rm.tk t with st:=1,c:=c }:=upd_same _ _ _;have live:=(re.hw.ds _ (hs.dom d hdv)).up hp;have ca0:X.hx.ca d=0:=by
  rcases re.hw.ca d hdv with e | e
  . exact e
  . rw [hp] at e;cases e.2
 have B:=Mh (s:=s) (X:=X.called t c) hs t ht (by rw [ctk]) re.ho (d:=d) (g:=g) (vl:=vl) wr (by rw [ctk];exact hk) (by rw [ctk];exact hd) (by rw [ctk];exact hg) (by rw [ctk];exact hvl) hdv hgv ha (by rw [ctk];exact hha) ca0 k0 k1 (by have:=re.hw.m d hdv;show X.hx.m d<4;omega);obtain⟨Y,hY⟩:∃Y:St,({ X.called t c with rm:={ (X.called t c).rm.works t with posted:=true,ident:=(X.called t c).hx.posted },hx:=(X.called t c).hx.post d g wr vl }:St)=Y:=⟨_,rfl⟩;rw [hY] at B;have yhx:Y.hx=X.hx.post d g wr vl:=by rw [<-hY];rfl
 have yfm:Y.fm=X.fm:=by rw [<-hY];rfl
 have yev:Y.ev=X.ev:=by rw [<-hY];rfl
 have ycall:Y.calls t=c:=by rw [<-hY];exact upd_same _ _ _
 have ytk:∀u,u≠t->Y.rm.tk u=X.rm.tk u:=fun u hu=>by
  rw [<-hY];show upd (upd X.rm.tk t _) t _ u=_;rw [uo_ hu,uo_ hu]
 have yst:(Y.rm.tk t).st=2∧(Y.rm.tk t).h=(X.rm.tk t).h:=by
  rw [<-hY];show(upd (upd X.rm.tk t _) t { upd X.rm.tk t { X.rm.tk t with st:=1,c:=c } t with st:=2 } t).st=2∧(upd (upd X.rm.tk t _) t { upd X.rm.tk t { X.rm.tk t with st:=1,c:=c } t with st:=2 } t).h=_;rw [upd_same,upd_same];exact⟨rfl,rfl⟩
 have yw:∀u,u≠t->Y.waits u=X.waits u:=fun u hu=>by rw [<-hY];exact uo_ hu
 have g1:=B.1 (.inl (by rw [<-hY]));have ci:∀u,T3 u->u≠t->F5 (X.called t c) u:=fun u hu h=>⟨by show(upd X.rm.tk t _ u).st=0;rw [uo_ h];exact(re.rest u hu).st,by show upd X.waits t true u=false;rw [uo_ h];exact(re.rest u hu).wt⟩;have cst:∃u,T3 u∧((X.called t c).rm.tk u).st≠0:=⟨t,ht,by rw [ctk];show(1:Int)≠0;omega⟩;have cw:(X.called t c).waits t=true:=upd_same _ _ _;have gg:=IS t ht cw re.ho g1 (by rw [yev];omega) (Bv (X:=Y.begun t) t ht (show((Y.begun t).rm.tk t).st=2 from yst.1) (by omega));obtain⟨V,hV⟩:=ex (Y.begun t);rw [hV] at gg;have vrm:V.rm=Y.rm:=by rw [<-hV];rfl
 have vhx:V.hx=X.hx.post d g wr vl:=by rw [<-hV];exact yhx
 have vfm:V.fm=X.fm:=by rw [<-hV];exact yfm
 have vev:V.ev=X.ev++[CJ t c]:=by rw [<-hV];show Y.ev++[CJ t (Y.calls t)]=_;rw [yev,ycall]
 have vcall:V.calls t=c:=by rw [<-hV];exact ycall
 have vw:∀u,u≠t->V.waits u=X.waits u:=fun u h=>by rw [<-hV];show upd Y.waits t false u=_;rw [uo_ h,yw u h]
 have vi:∀u,T3 u->u≠t->F5 V u:=fun u hu h=>⟨by rw [vrm,ytk u h];exact(re.rest u hu).st,by rw [vw u h];exact(re.rest u hu).wt⟩;have gf:=Cy (s:=s) (X:=V) (by rw [vfm];exact re.at_) (by rw [vfm,re.box];omega) (by rw [vfm,re.box];omega) (by rw [vfm];exact re.last);obtain⟨a1,a2,a3⟩:=PP hs re.hw (g:=g) hdv wr vl;have al:FX s V.hx d=true:=by
  rw [vhx];show(Ar X.hx.ns s.nc (s.dv d).clock&&((X.hx.ds (s.dv d).dom).phase==49)&&!(X.hx.ls (s.dv d).line).held)=true;rw [Jv hs re.hw.ns s.nc _ (hs.clock d hdv) (hs.clock d hdv) fun i hi sw=>⟨hc i hi sw,fun _=>by rw [Lf,if_neg];rintro⟨_,q⟩;rw [hc i hi sw] at q;cases q⟩,live,(re.hw.ls _ (hs.line d hdv)).held,hl];rfl
 have f0:=re.hw.fine hs;have nw:(V.hx.fl d).now g=X.hx.val s d g:=by rw [vhx,Hw.val,if_pos live];rfl
 have pend:yY s V.hx d tid wr g vl:=⟨fun i hi e=>by rw [vhx];show upd X.hx.m d _ i=0;rw [uo_ e];exact re.hw.m i hi,fun _=>by rw [vhx];show upd X.hx.m d (X.hx.m d+1) d=1;rw [upd_same,re.hw.m d hdv],fun _=>by rw [vhx];show upd X.hx.xs d _ d=_;rw [upd_same,re.hw.xs d hdv,htid];rfl,fun _=>hgv,fun _=>al⟩;obtain⟨x5,hx5⟩:=ex (V.hx.tick s d wr g vl);obtain⟨nv,hnv⟩:=ex (X.hx.val s d g);obtain⟨Z0,hZ0⟩:∃Z0:St,({ V with hx:=x5,rm:=V.rm.over t 0 nv,ev:=V.ev++[evDel tid d nv] }:St)=Z0:=⟨_,rfl⟩;have zst:(Z0.rm.tk t).st=3:=by rw [<-hZ0];show(upd V.rm.tk t _ t).st=3;rw [upd_same]
 have zev:Z0.ev=X.ev++[CJ t c,evDel tid d nv]:=by rw [<-hZ0];show V.ev++_=_;rw [vev,List.append_assoc];rfl
 have zi:∀u,T3 u->u≠t->F5 Z0 u:=fun u hu h=>⟨by rw [<-hZ0];show(upd V.rm.tk t _ u).st=0;rw [uo_ h];exact(vi u hu h).st,by rw [<-hZ0];exact(vi u hu h).wt⟩;have ge:=Ll (s:=s) (X:=Z0) t ht zst (by rw [zev,CX];simp;omega);obtain⟨E,hE⟩:=ex (Z0.ended t);rw [hE] at ge;have etk:∀u,E.rm.tk u=if u=t then Tk.taken { (V.rm.tk t) with st:=3,err:=0,res:=nv } else X.rm.tk u:=fun u=>by
  rw [<-hE, <-hZ0];show upd (upd V.rm.tk t { V.rm.tk t with st:=3,err:=0,res:=nv }) t (upd V.rm.tk t { V.rm.tk t with st:=3,err:=0,res:=nv } t).taken u=_;by_cases h:u=t
  . subst h;rw [upd_same,upd_same,if_pos rfl]
  . rw [uo_ h,uo_ h,if_neg h,vrm,ytk u h]
 have vwt:V.waits t=false:=by rw [<-hV];exact upd_same _ _ _
 have ere:∀u,T3 u->F5 E u:=fun u hu=>by
  by_cases h:u=t
  . subst h;exact⟨by rw [etk,if_pos rfl];rfl,by rw [<-hE, <-hZ0];exact vwt⟩
  . exact⟨by rw [etk,if_neg h];exact(re.rest u hu).st,by rw [<-hE, <-hZ0];exact(vi u hu h).wt⟩
 have eev:E.ev=X.ev++[CJ t c,evDel tid d nv,Bm t c 0 nv]:=by
  rw [<-hE];show Z0.ev++[Bm t (Z0.calls t) (Z0.rm.tk t).err (Z0.rm.tk t).res]=_;rw [zev, <-hZ0];show X.ev++[CJ t c,evDel tid d nv]++[Bm t (V.calls t) (upd V.rm.tk t { V.rm.tk t with st:=3,err:=0,res:=nv } t).err (upd V.rm.tk t { V.rm.tk t with st:=3,err:=0,res:=nv } t).res]=_;rw [upd_same,vcall,List.append_assoc];rfl
 have gk:=Kf (s:=s) (X:=V) hs (by rw [vhx];exact f0.hm) d tid wr g vl pend (by rw [vhx];exact⟨f0.mux,f0.left,f0.dleft,f0.lleft⟩) (by rw [vev,CX];simp;omega) (nw.trans hnv)
  (fun u=>if u<=t then Z0 else E) (by rw [hx5,if_pos (Nat.zero_le _),Sr,if_pos hdv, <-hZ0];rfl) (fun h=>absurd hdv h) (fun _=>⟨t,ht,by rw [vrm, <-hY];rfl,by rw [vrm, <-hY],by rw [vrm, <-hY];exact htid,by rw [if_pos (Nat.zero_le _), <-hZ0]⟩) (fun u hu=>by
   by_cases h:u=t
   . subst h;rw [if_pos (al11_ _),if_neg (by omega)];exact ge
   . by_cases l:u<=t
     . rw [if_pos l,if_pos (by omega)];exact Bv u hu (zi u hu h).st (by omega)
     . rw [if_neg l,if_neg (by omega)];exact Bv u hu (ere u hu).st (by omega))
 rw [if_neg (by rcases ht with e | e | e <;> omega)] at gk;have r1:=Dt ht ci vi gg gf gk;have ehx:E.hx=(X.hx.post d g wr vl).tick s d wr g vl:=by rw [<-hE, <-hZ0, <-vhx];exact hx5.symm
 have efm:E.fm=X.fm:=by rw [<-hE, <-hZ0];exact vfm
 refine⟨E, .succ cst r1 (.zero _),?_⟩;exact {
  rest:=⟨ere,by rw [<-hE, <-hZ0];rfl,by rw [<-hE, <-hZ0];rfl,by rw [<-hE, <-hZ0];rfl,by rw [<-hE, <-hZ0];rfl,by rw [<-hE, <-hZ0];show V.rm.many<=_;rw [vrm, <-hY];exact re.many,by rw [efm];exact re.last,by rw [efm];exact re.at_,by rw [efm];exact re.box,by rw [efm];exact re.wish,by rw [ehx];exact a1⟩
  wd:=by rw [<-hE, <-hZ0];show V.rm.wd=_;rw [vrm, <-hY];rfl
  n:=by rw [<-hE, <-hZ0];show V.n=_;rw [<-hV, <-hY];rfl
  cnt:=by rw [<-hE, <-hZ0];show V.cnt=_;rw [<-hV, <-hY];rfl
  asl:=by rw [<-hE, <-hZ0];show V.asl=_;rw [<-hV, <-hY];rfl
  h:=fun u=>by
   rw [etk];by_cases h:u=t
   . rw [if_pos h,h];show(V.rm.tk t).h=_;rw [vrm];exact yst.2
   . rw [if_neg h]
  posted:=by rw [ehx];exact a3
  ev:=by rw [eev,hd,hg,hnv,htid]
  val:=fun d' hd' r=>by
   rw [ehx,a2 d' hd' r,hd,hg,hvl];by_cases q:wr=true∧d'=d∧r=g
   . rw [if_pos ⟨q.1,q.2.1,q.2.2,live⟩,if_pos q]
   . rw [if_neg (fun a=>q ⟨a.1,a.2.1,a.2.2.1⟩),if_neg q] }
end
end Go.Proofs.YtpekoejdnhaohaaGreatDoor
