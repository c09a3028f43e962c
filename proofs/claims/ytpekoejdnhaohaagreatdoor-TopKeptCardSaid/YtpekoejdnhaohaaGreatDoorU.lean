/- The plain law of the hardware, its domains, its work and its path, no program in sight. For every chip in which nothing is wrong. -/
import Derived.Test.YtpekoejdnhaohaaGreatDoorT
namespace Go.Proofs.YtpekoejdnhaohaaGreatDoor
open Go.RowKit Tryz
set_option maxRecDepth 100000
set_option maxHeartbeats 40000000
set_option linter.all false
variable {s:AE} {p:Bool} {q:DX} {d:Do} {y:Fm} {x x0:Hw} {l:List DX} {a i j k t:Nat} {cw cw':Nat->Nat->Bool} {X Y Z:St}
def Hw.tk (s:AE) (x:Hw):Hw:=x.tick s s.nv false 0 0
section
variable {s:AE} {x:Hw}
theorem Kn:x.popTo s.nv false 0 0 s.nv=x:=by rw [Hw.popTo,if_neg (DE _)]
theorem Tb:(x.tk s).ns=EC x.ns s.nc s.nc:=rfl
theorem tk_ds:(x.tk s).ds=C9 x.ds s.nd:=rfl
theorem Tc:(x.tk s).ls=Fp x.ls s.nr:=rfl
theorem tk_fl:(x.tk s).fl=Hf s x.fl (RH x.ds s.nd):=by rw [Hw.tk,Hw.tick,Kn]
theorem Td (hj:j<s.nv):(x.tk s).ca j=En (x.ca j):=by rw [Hw.tk,Hw.tick,Kn];exact if_pos hj
theorem Zl:(x.tk s).m=x.m:=by rw [Hw.tk,Hw.tick,Kn];rfl
theorem Ta:(x.tk s).xs=x.xs:=by rw [Hw.tk,Hw.tick,Kn];rfl
theorem Cm:(x.tk s).posted=x.posted:=by rw [Hw.tk,Hw.tick,Kn];rfl
end
structure Mp (d:Do) (x:Dm) (p:Bool):Prop where
 above:x.above=d.above
 delay:x.delay=d.delay
 ret:x.ret=d.ret
 left:0<=x.left∧x.left<=3
 up:p=true->x.phase=49
 dn:p=false->x.phase=48∨(x.phase=116∧d.ret=true)
theorem Mp.still {x:Dm} (h:Mp d x p):x.tick=x∧x.told=0:=by
 have:x.phase=49∨x.phase=48∨x.phase=116:=by
  cases p
  . rcases h.dn rfl with e | e
    . exact .inr (.inl e)
    . exact .inr (.inr e.1)
  . exact .inl (h.up rfl)
 rcases this with e | e | e <;> (rw [Dm.tick,Dm.told,e];exact⟨rfl,rfl⟩)
theorem Mp.down {x:Dm} (h:Mp d x p) (e:p=false):x.isDown=true:=by
 rcases h.dn e with e | e
 . rw [Dm.isDown,e];rfl
 . rw [Dm.isDown,e.1];rfl
structure Qx (d:Do) (x:Dm):Prop where
 above:x.above=d.above
 delay:x.delay=d.delay
 ret:x.ret=d.ret
 left:0<=x.left∧x.left<=3
theorem Mp.is {x:Dm} (h:Mp d x p):Qx d x:=⟨h.above,h.delay,h.ret,h.left⟩
structure Qr (l:Ln) (q:Bool):Prop where
 held:l.held=!q
 left:l.left=0
 wanted:l.wanted=false
theorem Qr.still {l:Ln} {q:Bool} (h:Qr l q):l.tick=l:=by
 rw [Ln.tick,h.left,h.wanted];cases l.held <;> rfl
structure DJ (s:AE) (x:Hw) (cw:Nat->Nat->Bool):Prop where
 ns:Gd s x.ns (cw 1) (Lf s (cw 1))
 cl:Ef s (cw 1)
 ds:∀i,i<s.nd->Mp (s.dm i) (x.ds i) (cw 0 i)
 ls:∀i,i<s.nr->Qr (x.ls i) (cw 2 i)
 ca:∀j,j<s.nv->x.ca j=0∨(x.ca j=2∧cw 0 (s.dv j).dom=false)
 m:∀j,j<s.nv->x.m j=0
 xs:∀j,j<s.nv->x.xs j=[]
structure Qv (s:AE) (x:Hw):Prop where
 hm:∀i,i<s.nc->(x.ns i).kind≠111->0<(x.ns i).m
 mux:∀i,i<s.nc->(x.ns i).kind=109->(x.ns i).want=(x.ns i).set
 left:∀i,i<s.nc->0<=(x.ns i).left∧(x.ns i).left<=1000
 dleft:∀i,i<s.nd->0<=(x.ds i).left∧(x.ds i).left<=1000
 lleft:∀i,i<s.nr->0<=(x.ls i).left∧(x.ls i).left<=1000
 m:∀j,j<s.nv->x.m j=0
theorem Qv.of {s:AE} (hs:s.Ok) {x:Hw} {on:Nat->Bool} {lf:Nat->Int} (h:Gd s x.ns on lf) (hl:∀i,i<s.nc->0<=lf i∧lf i<=3) (d:∀i,i<s.nd->Qx (s.dm i) (x.ds i)) (l:∀i,i<s.nr->(x.ls i).left=0) (m:∀j,j<s.nv->x.m j=0):Qv s x where
 hm i hi hk:=by rw [(h i hi).m];rw [(h i hi).kind] at hk;exact Qb hs hi hk
 mux i hi _:=by rw [(h i hi).want,(h i hi).set]
 left i hi:=by rw [(h i hi).left];have:=hl i hi;omega
 dleft i hi:=by have:=(d i hi).left;omega
 lleft i hi:=by rw [l i hi];omega
 m:=m
theorem DJ.fine (hs:s.Ok) (h:DJ s x cw):Qv s x:=
 .of hs h.ns (Nc hs _) (fun i hi=>(h.ds i hi).is) (fun i hi=>(h.ls i hi).left) h.m
theorem UB {ds:Nat->Dm}:∀n,(∀i,i<n->i≠k->(ds i).told=0)->RH ds n=if k<n∧(ds k).told≠0 then [((ds k).told,k)] else []:=by
 intro n
 induction n with
 | zero=>intro _;rw [RH,if_neg];rintro⟨h,_⟩;omega
 | succ n ih=>
  intro h;rw [RH,ih fun i hi=>h i (by omega)];by_cases e:n=k
  . subst e;rw [if_neg (fun a=>DE _ a.1)];by_cases t:(ds n).told=0
    . rw [if_pos t,if_neg (fun a=>a.2 t)];rfl
    . rw [if_neg t,if_pos ⟨Nat.lt_succ_self _,t⟩];rfl
  . rw [if_pos (h n (Nat.lt_succ_self _) e),List.append_nil];by_cases c:k<n
    . by_cases t:(ds k).told=0 <;> simp [c,t,Nat.lt_succ_of_lt c]
    . rw [if_neg (fun a=>c a.1),if_neg];rintro⟨a,_⟩;omega
theorem Vp (s:AE) (fl:Nat->Fl) (t:Int) (k:Nat) (hj:j<s.nv):Hf s fl [(t,k)] j=if(s.dv j).dom=k then(fl j).deed t (s.dv j) else fl j:=by
 show Ce s fl (t,k) s.nv j=_;unfold Ce;by_cases e:(s.dv j).dom=k
 . rw [if_pos ⟨hj,e⟩,if_pos e]
 . rw [if_neg (fun a=>e a.2),if_neg e]
theorem Nq (h:∀i,i<s.nd->i≠k->(x.ds i).tick=x.ds i∧(x.ds i).told=0):
 (∀i,i<s.nd->(x.tk s).ds i=if i=k then(x.ds k).tick else x.ds i)∧
 (∀j,j<s.nv->(x.tk s).fl j=if k<s.nd∧(x.ds k).told≠0∧(s.dv j).dom=k then(x.fl j).deed (x.ds k).told (s.dv j) else x.fl j):=by
 refine⟨fun i hi=>?_,fun j hj=>?_⟩
 . rw [tk_ds,C9,if_pos hi];by_cases e:i=k
   . rw [if_pos e,e]
   . rw [if_neg e,(h i hi e).1]
 . rw [tk_fl,UB s.nd fun i hi e=>(h i hi e).2];by_cases c:k<s.nd∧(x.ds k).told≠0
   . rw [if_pos c,Vp s x.fl _ k hj];by_cases e:(s.dv j).dom=k
     . rw [if_pos e,if_pos ⟨c.1,c.2,e⟩]
     . rw [if_neg e,if_neg (fun a=>e a.2.2)]
   . rw [if_neg c,if_neg (fun a=>c ⟨a.1,a.2.1⟩)];rfl
def Hw.val (s:AE) (x:Hw) (d r:Nat):Int:=
 if(x.ds (s.dv d).dom).phase=49 then(x.fl d).now r
 else if(x.ds (s.dv d).dom).phase=116 then Bi (fun j=>((s.dv d).reg j).reset) (fun j=>((s.dv d).reg j).ret) (x.fl d).saved (x.fl d).kept r
 else((s.dv d).reg r).reset
theorem Dg {y:Hw} {d:Nat} (e1:y.ds (s.dv d).dom=x.ds (s.dv d).dom) (e2:y.fl d=x.fl d) (r:Nat):y.val s d r=x.val s d r:=by
 rw [Hw.val,Hw.val,e1,e2]
theorem Iy (h:a=0∨a=2):En a=a:=by rcases h with rfl | rfl <;> rfl
theorem DJ.tick (hs:s.Ok) (h:DJ s x cw):DJ s (x.tk s) cw∧(∀d,d<s.nv->∀r,(x.tk s).val s d r=x.val s d r)∧(x.tk s).posted=x.posted:=by
 obtain⟨a,b⟩:=Nq (s:=s) (x:=x) (k:=s.nd) fun i hi _=>(h.ds i hi).still;have a:∀i,i<s.nd->(x.tk s).ds i=x.ds i:=fun i hi=>by rw [a i hi,if_neg (by omega)]
 have b:∀j,j<s.nv->(x.tk s).fl j=x.fl j:=fun j hj=>by rw [b j hj,if_neg (fun q=>DE _ q.1)]
 refine⟨⟨by rw [Tb];exact Jx hs h.ns h.cl,h.cl,fun i hi=>by rw [a i hi];exact h.ds i hi,fun i hi=>?_,fun j hj=>?_,fun j hj=>by rw [Zl];exact h.m j hj,fun j hj=>by rw [Ta];exact h.xs j hj⟩,fun d hd r=>Dg (a _ (hs.dom d hd)) (b d hd) r,Cm⟩
 . rw [Tc,Fp,if_pos hi,(h.ls i hi).still];exact h.ls i hi
 . rw [Td hj,Iy (by rcases h.ca j hj with e | e;exact .inl e;exact .inr e.1)];exact h.ca j hj
inductive IM (s:AE) (t:Int) (i:Nat):Nat->Hw->Hw->Prop
 | last {x x1:Hw}:IC s t i x true x1->Qv s x1->IM s t i 1 x (x1.tk s)
 | more {k:Nat} {x x1 x2:Hw}:IC s t i x false x1->Qv s x1->IM s t i k (x1.tk s) x2->IM s t i (k+1) x x2
def C7 (f:Nat->Nat->Bool) (j i:Nat) (v:Bool):Nat->Nat->Bool:=fun a b=>if a=j∧b=i then v else f a b
theorem CI (f:Nat->Nat->Bool) (j i:Nat) (v:Bool):C7 f j i v j=upd (f j) i v:=by
 funext b;unfold C7 upd;by_cases e:b=i <;> simp [e]
theorem Bd (f:Nat->Nat->Bool) (i:Nat) (v:Bool) (h:a≠j):C7 f j i v a=f a:=by
 funext b;unfold C7;rw [if_neg (fun q=>h q.1)]
def Jk (s:AE) (t:Int) (i:Nat) (x:Hw) (cw:Nat->Nat->Bool) (v:Nat->Nat->Int):Prop:=
 ∃n x2,n<=6∧IM s t i n x x2∧DJ s x2 cw∧(∀d,d<s.nv->∀r,x2.val s d r=v d r)∧x2.posted=x.posted
theorem Jk.more {t:Int} {x1:Hw} {v:Nat->Nat->Int} {n:Nat} (hn:n+1<=6) (a:IC s t i x false x1) (f:Qv s x1) (e:x1.posted=x.posted)
 (h:∃x2,IM s t i n (x1.tk s) x2∧DJ s x2 cw∧(∀d,d<s.nv->∀r,x2.val s d r=v d r)∧x2.posted=(x1.tk s).posted):Jk s t i x cw v:=by
 obtain⟨x2,d,o,vv,p⟩:=h;exact⟨n+1,x2,hn, .more a f d,o,vv,by rw [p,Cm,e]⟩
theorem MW (hs:s.Ok) (h:DJ s x cw) (i:Nat) (hi:i<s.nr) (h0:cw 2 i=false):Jk s 114 i x (C7 cw 2 i true) (x.val s):=by
 have l:=h.ls i hi;have a:=ZA (s:=s) (x:=x) i hi (by rw [l.held,h0];rfl);have ll:∀j,j<s.nr->(upd x.ls i { x.ls i with wanted:=true } j).left=0:=fun j hj=>by
  by_cases e:j=i
  . subst e;rw [upd_same];exact l.left
  . rw [uo_ e];exact(h.ls j hj).left
 have f:Qv s { x with ls:=upd x.ls i { x.ls i with wanted:=true } }:= .of hs h.ns (Nc hs _) (fun i hi=>(h.ds i hi).is) ll h.m;refine .more (n:=1) (by omega) a f rfl ?_;obtain⟨da,db⟩:=Nq (s:=s) (x:={ x with ls:=upd x.ls i { x.ls i with wanted:=true } }) (k:=s.nd) fun i hi _=>(h.ds i hi).still;obtain⟨y,hy⟩:=ex (({ x with ls:=upd x.ls i { x.ls i with wanted:=true } }:Hw).tk s);have yls:∀j,j<s.nr->Qr (y.ls j) (C7 cw 2 i true 2 j):=fun j hj=>by
  rw [<-hy,Tc,Fp,if_pos hj,CI];by_cases e:j=i
  . subst e;show Qr (Ln.tick (upd x.ls j _ j)) _;rw [upd_same,upd_same,Ln.tick,if_pos (by rw [show({ x.ls j with wanted:=true }:Ln).held=(x.ls j).held from rfl,l.held,h0];rfl),if_neg (by rw [show({ x.ls j with wanted:=true }:Ln).left=(x.ls j).left from rfl,l.left];omega),if_pos rfl];exact⟨rfl,l.left,rfl⟩
  . show Qr (Ln.tick (upd x.ls i _ j)) _;rw [uo_ e,uo_ e,(h.ls j hj).still];exact h.ls j hj
 have yds:∀j,j<s.nd->y.ds j=x.ds j:=fun j hj=>by rw [<-hy,da j hj,if_neg (by omega)]
 have yfl:∀j,j<s.nv->y.fl j=x.fl j:=fun j hj=>by rw [<-hy,db j hj,if_neg (fun q=>DE _ q.1)]
 have yns:Gd s y.ns (cw 1) (Lf s (cw 1)):=by rw [<-hy,Tb];exact Jx hs h.ns h.cl
 have yca:∀j,j<s.nv->y.ca j=x.ca j:=fun j hj=>by rw [<-hy,Td hj];exact Iy (by rcases h.ca j hj with e | e;exact .inl e;exact .inr e.1)
 have ok:DJ s y (C7 cw 2 i true):=⟨by rw [Bd _ _ _ (by omega)];exact yns,by rw [Bd _ _ _ (by omega)];exact h.cl,fun j hj=>by rw [Bd _ _ _ (by omega),yds j hj];exact h.ds j hj,yls,fun j hj=>by rw [Bd _ _ _ (by omega),yca j hj];exact h.ca j hj,fun j hj=>by rw [<-hy,Zl];exact h.m j hj,fun j hj=>by rw [<-hy,Ta];exact h.xs j hj⟩;obtain⟨t1,t2,t3⟩:=ok.tick hs;rw [hy];exact⟨_, .last (Mn i hi (by rw [(yls i hi).held,CI,upd_same];rfl)) (ok.fine hs),t1,fun d hd r=>(t2 d hd r).trans (Dg (yds _ (hs.dom d hd)) (yfl d hd) r),t3⟩
theorem VK (hs:s.Ok) (h:DJ s x cw) (i:Nat) (hi:i<s.nc) (hk:Sw s i) (hc:∀j,j<s.nc->j≠i->cw 1 j=true->i ∉ AU s s.nc j):Jk s 111 i x (C7 cw 1 i false) (x.val s):=by
 have a:=ZB (s:=s) (x:=x) i hi (by rw [(h.ns i hi).kind];exact hk);have ok:DJ s { x with ns:=upd x.ns i ((x.ns i).gate false) } (C7 cw 1 i false):=⟨by rw [CI];exact Pn h.ns i,by rw [CI];exact cl_off h.cl hc,fun j hj=>by rw [Bd _ _ _ (by omega)];exact h.ds j hj,fun j hj=>by rw [Bd _ _ _ (by omega)];exact h.ls j hj,fun j hj=>by rw [Bd _ _ _ (by omega)];exact h.ca j hj,h.m,h.xs⟩;obtain⟨t1,t2,t3⟩:=ok.tick hs;exact⟨1,_,by omega, .last a (ok.fine hs),t1,fun d hd r=>(t2 d hd r).trans (Dg rfl rfl r),t3⟩
theorem Xj (hs:s.Ok) (hi:i<s.nc) (hk:Sw s i) (h1:cw 1 i=true) (cl:Ef s (cw 1)) (ni:∀j,j<s.nc->(s.ck j).kind=112->cw 1 j=true->i ∉ AU s s.nc ((s.ck j).src 0)):∀ (v:Nat) (x:Hw),v<=3->((s.ck i).kind≠112->v=0)->
 Gd s (upd x.ns i ((x.ns i).gate true)) (cw 1) (fun j=>if j=i then(v:Int) else Lf s (cw 1) j)->(∀j,j<s.nc->(x.ns j).kind=(s.ck j).kind∧(x.ns j).m=(s.ck j).m)->
 (∀i,i<s.nd->Mp (s.dm i) (x.ds i) (cw 0 i))->(∀i,i<s.nr->Qr (x.ls i) (cw 2 i))->(∀j,j<s.nv->x.ca j=0∨(x.ca j=2∧cw 0 (s.dv j).dom=false))->(∀j,j<s.nv->x.m j=0)->(∀j,j<s.nv->x.xs j=[])->
 ∃x2,IM s 99 i (v+1) x x2∧DJ s x2 cw∧(∀d,d<s.nv->∀r,x2.val s d r=x.val s d r)∧x2.posted=x.posted:=by
 have lfi:Lf s (cw 1) i=0:=by rw [Lf,if_neg];rintro⟨_,e⟩;rw [h1] at e;cases e
 have m0:0<(s.ck i).m:=Qb hs hi (by rcases hk with e | e <;> omega);have m1:(s.ck i).m=1:=(hs.ck i hi).one (by rcases hk with e | e;exact .inl e;exact .inr (.inr e));have sl:=(hs.ck i hi).less 0 m0;intro v
 induction v with
 | zero=>
  intro x _ _ h km ds ls ca m xs;have e:(fun j=>if j=i then((0:Nat):Int) else Lf s (cw 1) j)=Lf s (cw 1):=by
   funext j;by_cases e:j=i
   . rw [if_pos e,e,lfi];rfl
   . rw [if_neg e]
  rw [e] at h;have ok:DJ s { x with ns:=upd x.ns i ((x.ns i).gate true) } cw:=⟨h,cl,ds,ls,ca,m,xs⟩;obtain⟨t1,t2,t3⟩:=ok.tick hs;have hr:=Jv hs h s.nc i hi hi fun c hc sw=>by
   have oc:=cl i hi h1 c hc sw;exact⟨oc,fun _=>by rw [Lf,if_neg];rintro⟨_,e⟩;rw [oc] at e;cases e⟩
  exact⟨_, .last (Qo i hi (by rw [(km i hi).1];exact hk) (fun j hj k=>by rw [(km j hj).2];rw [(km j hj).1] at k;exact Qb hs hj k) hr) (ok.fine hs),t1,fun d hd r=>(t2 d hd r).trans (Dg rfl rfl r),t3⟩
 | succ v ih=>
  intro x hv3 hv h km ds ls ca m xs;have k2:(s.ck i).kind=112:=Decidable.byContradiction fun e=>by have:=hv e;omega
  have hf:Ar (upd x.ns i ((x.ns i).gate true)) s.nc i=false:=by
   obtain⟨n,hn⟩:∃n,s.nc=n+1:=⟨s.nc - 1,by omega⟩;have d:=h i hi;have dl:=d.left;dsimp only at dl;rw [if_pos rfl] at dl;rw [hn,Ar,d.kind,if_neg (by omega),if_pos k2,dl,decide_eq_false (by omega),Bool.and_false,Bool.false_and]
  have hsr:∀j,j<s.nc->(s.ck j).kind=112->cw 1 j=true->Ar (upd x.ns i ((x.ns i).gate true)) s.nc ((s.ck j).src 0)=true:=fun j hj kj oj=>
   P0 hs h cl j hj kj oj fun c hc _ oc=>by
    have e:c≠i:=by rintro rfl;exact ni j hj kj oj hc
    rw [if_neg e,Lf,if_neg];rintro⟨_,e⟩;rw [oc] at e;cases e
  have hl:∀j,j<s.nc->0<=(if j=i then((v+1:Nat):Int) else Lf s (cw 1) j)∧(if j=i then((v+1:Nat):Int) else Lf s (cw 1) j)<=3:=fun j hj=>by
   split
   . omega
   . exact Nc hs _ j hj
  have f:Qv s { x with ns:=upd x.ns i ((x.ns i).gate true) }:= .of hs h hl (fun i hi=>(ds i hi).is) (fun i hi=>(ls i hi).left) m;have a:=Ou (s:=s) (x:=x) hs i hi (by rw [(km i hi).1];exact hk) m1 (fun j hj k=>by rw [(km j hj).2];rw [(km j hj).1] at k;exact Qb hs hj k) hf (hsr i hi k2 h1);obtain⟨da,db⟩:=Nq (s:=s) (x:={ x with ns:=upd x.ns i ((x.ns i).gate true) }) (k:=s.nd) fun i hi _=>(ds i hi).still;obtain⟨y,hy⟩:=ex (({ x with ns:=upd x.ns i ((x.ns i).gate true) }:Hw).tk s);have yns:Gd s y.ns (cw 1) (fun j=>if j=i then(v:Int) else Lf s (cw 1) j):=by
   have g:=Tp h hsr;rw [<-hy,Tb];intro j hj;have d:=g j hj;dsimp only at d ⊢;by_cases e:j=i
   . subst e;rw [if_pos rfl,if_pos ⟨k2,h1,by omega⟩] at d;rw [if_pos rfl];rw [show((v+1:Nat):Int) - 1=(v:Int) by omega] at d;exact d
   . rw [if_neg e,if_neg] at d
     . rw [if_neg e];exact d
     . rintro⟨_,o,p⟩;rw [Lf,if_neg] at p
       . omega
       . rintro⟨_,q⟩;rw [o] at q;cases q
  have yds:∀j,j<s.nd->y.ds j=x.ds j:=fun j hj=>by rw [<-hy,da j hj,if_neg (by omega)]
  have yfl:∀j,j<s.nv->y.fl j=x.fl j:=fun j hj=>by rw [<-hy,db j hj,if_neg (fun q=>DE _ q.1)]
  have yca:∀j,j<s.nv->y.ca j=x.ca j:=fun j hj=>by rw [<-hy,Td hj];exact Iy (by rcases ca j hj with e | e;exact .inl e;exact .inr e.1)
  have yls:∀j,j<s.nr->y.ls j=x.ls j:=fun j hj=>by rw [<-hy,Tc,Fp,if_pos hj];exact(ls j hj).still
  have yg:Gd s (upd y.ns i ((y.ns i).gate true)) (cw 1) (fun j=>if j=i then(v:Int) else Lf s (cw 1) j):=by
   have g:=L8 yns i
   rwa [show upd (cw 1) i true=cw 1 from by funext j;unfold upd;split <;> rename_i e;rw [e,h1];rfl] at g
  obtain⟨x2,dd,o,vv,p⟩:=ih y (by omega) (fun e=>absurd k2 e) yg (fun j hj=>⟨(yns j hj).kind,(yns j hj).m⟩) (fun j hj=>by rw [yds j hj];exact ds j hj) (fun j hj=>by rw [yls j hj];exact ls j hj) (fun j hj=>by rw [yca j hj];exact ca j hj) (fun j hj=>by rw [<-hy,Zl];exact m j hj) (fun j hj=>by rw [<-hy,Ta];exact xs j hj);exact⟨x2, .more a f (by rw [hy];exact dd),o,fun d hd r=>(vv d hd r).trans (Dg (yds _ (hs.dom d hd)) (yfl d hd) r),by rw [p, <-hy,Cm]⟩
theorem Xy (hs:s.Ok) (h:DJ s x cw) (i:Nat) (hi:i<s.nc) (hk:Sw s i) (h0:cw 1 i=false) (hc:∀c ∈ AU s s.nc ((s.ck i).src 0),Sw s c->cw 1 c=true):Jk s 99 i x (C7 cw 1 i true) (x.val s):=by
 have m0:0<(s.ck i).m:=Qb hs hi (by rcases hk with e | e <;> omega);have sl:=(hs.ck i hi).less 0 m0;obtain⟨v,hv⟩:∃v:Nat,Lf s (cw 1) i=(v:Int):=⟨(Lf s (cw 1) i).toNat,by have:=Nc hs (cw 1) i hi;omega⟩;have hv3:v<=3:=by have:=Nc hs (cw 1) i hi;omega
 have hg:=L8 h.ns i;have g:Gd s (upd x.ns i ((x.ns i).gate true)) (C7 cw 1 i true 1) (fun j=>if j=i then(v:Int) else Lf s (C7 cw 1 i true 1) j):=by
  rw [CI];intro j hj;have d:=hg j hj;dsimp only;by_cases e:j=i
  . rw [if_pos e, <-hv];rw [e] at d ⊢;exact d
  . rw [if_neg e,Lf,uo_ e];rw [Lf,uo_ e] at d;rw [uo_ e] at d ⊢;exact d
 obtain⟨x2,dd,o,vv,p⟩:=Xj hs (cw:=C7 cw 1 i true) hi hk (by rw [CI,upd_same]) (by rw [CI];exact cl_on hs h.cl hi hc) (fun j hj kj oj hm=>by
  rw [CI] at oj;have mj:=Qb hs hj (by omega);have lj:=(hs.ck j hj).less 0 mj;by_cases e:j=i
  . subst e;have:=Ix hs s.nc _ _ (by omega) (by omega) hm;omega
  . rw [uo_ e] at oj;have:=h.cl j hj oj i ((Cq hs hj).2 (.inr ⟨by omega,hm⟩)) hk;rw [h0] at this;cases this) v x hv3 (fun e=>by
    have:Lf s (cw 1) i=0:=by rw [Lf,if_neg (fun a=>e a.1)]
    omega) g (fun j hj=>⟨(h.ns j hj).kind,(h.ns j hj).m⟩) (fun j hj=>by rw [Bd _ _ _ (by omega)];exact h.ds j hj) (fun j hj=>by rw [Bd _ _ _ (by omega)];exact h.ls j hj) (fun j hj=>by rw [Bd _ _ _ (by omega)];exact h.ca j hj) h.m h.xs
 exact⟨v+1,x2,by omega,dd,o,vv,p⟩
structure Em (s:AE) (x0 x:Hw) (cw:Nat->Nat->Bool) (k:Nat):Prop where
 ns:Gd s x.ns (cw 1) (Lf s (cw 1))
 cl:Ef s (cw 1)
 ds:∀i,i<s.nd->i≠k->Mp (s.dm i) (x.ds i) (cw 0 i)
 dx:∀i,i<s.nd->i≠k->x.ds i=x0.ds i
 dk:Qx (s.dm k) (x.ds k)
 ls:∀i,i<s.nr->Qr (x.ls i) (cw 2 i)
 m:∀j,j<s.nv->x.m j=0
 xs:∀j,j<s.nv->x.xs j=[]
 fx:∀j,j<s.nv->(s.dv j).dom≠k->x.fl j=x0.fl j
 posted:x.posted=x0.posted
theorem Em.fine (hs:s.Ok) (h:Em s x0 x cw k):Qv s x:=
 .of hs h.ns (Nc hs _) (fun i hi=>by
  by_cases e:i=k
  . subst e;exact h.dk
  . exact(h.ds i hi e).is) (fun i hi=>(h.ls i hi).left) h.m
theorem Qx.tick {x:Dm} (h:Qx d x):Qx d x.tick:=by
 unfold Dm.tick
 repeat' split
 all_goals first | exact h | exact⟨h.above,h.delay,h.ret,by have:=h.left;dsimp only;omega⟩
theorem Em.tick (hs:s.Ok) (hk:k<s.nd) (h:Em s x0 x cw k):
 Em s x0 (x.tk s) cw k∧(x.tk s).ds k=(x.ds k).tick∧(∀j,j<s.nv->(s.dv j).dom=k->(x.tk s).fl j=if(x.ds k).told≠0 then(x.fl j).deed (x.ds k).told (s.dv j) else x.fl j)∧(∀j,j<s.nv->(x.tk s).ca j=En (x.ca j)):=by
 obtain⟨a,b⟩:=Nq (s:=s) (x:=x) (k:=k) fun i hi e=>(h.ds i hi e).still;have ak:(x.tk s).ds k=(x.ds k).tick:=by rw [a k hk,if_pos rfl]
 have ao:∀i,i<s.nd->i≠k->(x.tk s).ds i=x.ds i:=fun i hi e=>by rw [a i hi,if_neg e]
 refine⟨⟨by rw [Tb];exact Jx hs h.ns h.cl,h.cl,fun i hi e=>by rw [ao i hi e];exact h.ds i hi e,fun i hi e=>(ao i hi e).trans (h.dx i hi e),by rw [ak];exact h.dk.tick,fun i hi=>?_,fun j hj=>by rw [Zl];exact h.m j hj,fun j hj=>by rw [Ta];exact h.xs j hj,fun j hj e=>by rw [b j hj,if_neg (fun q=>e q.2.2)];exact h.fx j hj e,by rw [Cm];exact h.posted⟩,ak,fun j hj e=>?_,fun j hj=>Td hj⟩
 . rw [Tc,Fp,if_pos hi,(h.ls i hi).still];exact h.ls i hi
 . rw [b j hj];by_cases t:(x.ds k).told≠0
   . rw [if_pos ⟨hk,t,e⟩,if_pos t]
   . rw [if_neg (fun q=>t q.2.1),if_neg t]
theorem DJ.mid (h:DJ s x cw) (hk:k<s.nd):Em s x x cw k:=
 ⟨h.ns,h.cl,fun i hi _=>h.ds i hi,fun _ _ _=>rfl,(h.ds k hk).is,h.ls,h.m,h.xs,fun _ _ _=>rfl,rfl⟩
theorem Em.turn (h:Em s x0 x cw k) (D:Dm) (hD:Qx (s.dm k) D) (ca:Nat->Nat):Em s x0 { x with ds:=upd x.ds k D,ca:=ca } cw k:=
 ⟨h.ns,h.cl,fun i hi e=>by show Mp _ (upd x.ds k D i) _;rw [uo_ e];exact h.ds i hi e,fun i hi e=>by show upd x.ds k D i=_;rw [uo_ e];exact h.dx i hi e,by show Qx _ (upd x.ds k D k);rw [upd_same];exact hD,h.ls,h.m,h.xs,h.fx,h.posted⟩
theorem Em.ports (h:Em s x0 x cw k) (ca:Nat->Nat):Em s x0 { x with ca:=ca } cw k:=⟨h.ns,h.cl,h.ds,h.dx,h.dk,h.ls,h.m,h.xs,h.fx,h.posted⟩
theorem Em.done (h:Em s x0 x cw k) (hp:p=true->(x.ds k).phase=49) (hn:p=false->(x.ds k).phase=48∨((x.ds k).phase=116∧(s.dm k).ret=true))
 (ca:∀j,j<s.nv->x.ca j=0∨(x.ca j=2∧C7 cw 0 k p 0 (s.dv j).dom=false)):DJ s x (C7 cw 0 k p):=
 ⟨by rw [Bd _ _ _ (by omega)];exact h.ns,by rw [Bd _ _ _ (by omega)];exact h.cl,fun i hi=>by
  rw [CI];by_cases e:i=k
  . subst e;rw [upd_same];exact⟨h.dk.above,h.dk.delay,h.dk.ret,h.dk.left,hp,hn⟩
  . rw [uo_ e];exact h.ds i hi e,fun i hi=>by rw [Bd _ _ _ (by omega)];exact h.ls i hi,ca,h.m,h.xs⟩
theorem Yr {q:Nat->Bool} (h:∀j,j<s.nv->x.ca j=0∨(x.ca j=2∧q (s.dv j).dom=false)):∀j,j<s.nv->x.ca j<=2:=fun j hj=>by rcases h j hj with e | e <;> omega
theorem Hg {q:Nat->Bool} (h:∀j,j<s.nv->x.ca j=0∨(x.ca j=2∧q (s.dv j).dom=false)):∀j,j<s.nv->En (x.ca j)=x.ca j:=fun j hj=>Iy (by rcases h j hj with e | e;exact .inl e;exact .inr e.1)
theorem Zc (hs:s.Ok) (hk:k<s.nd) (h:Em s x0 x cw k) (ca:∀j,j<s.nv->x.ca j=0∨(x.ca j=2∧cw 0 (s.dv j).dom=false)) (hp:(x.ds k).phase=49):
 ∃x2,IM s 117 k 1 x x2∧DJ s x2 (C7 cw 0 k true)∧(∀d,d<s.nv->∀r,x2.val s d r=x.val s d r)∧x2.posted=x.posted:=by
 have a:=Ot (s:=s) (x:=x) hs k hk hp (Yr ca);have ok:DJ s { x with ca:=Cw s k x.ca s.nv } (C7 cw 0 k true):=(h.ports _).done (fun _=>hp) (fun c=>by cases c) fun j hj=>by
  show Cw s k x.ca s.nv j=0∨(Cw s k x.ca s.nv j=2∧_);unfold Cw;by_cases c:j<s.nv∧(s.dv j).dom=k∧x.ca j=2
  . rw [if_pos c];exact .inl rfl
  . rw [if_neg c];rcases ca j hj with e | e
    . exact .inl e
    . refine .inr ⟨e.1,?_⟩;rw [CI,uo_ (fun q=>c ⟨hj,q,e.1⟩)];exact e.2
 obtain⟨t1,t2,t3⟩:=ok.tick hs;exact⟨_, .last a (ok.fine hs),t1,fun d hd r=>(t2 d hd r).trans (Dg rfl rfl r),t3⟩
theorem Zb (hs:s.Ok) (hk:k<s.nd) (v:Nat->Nat->Int) (hv0:∀d,d<s.nv->(s.dv d).dom≠k->∀r,v d r=x0.val s d r):∀ (n:Nat) (x:Hw),Em s x0 x cw k->(∀j,j<s.nv->x.ca j=0∨(x.ca j=2∧cw 0 (s.dv j).dom=false))->(x.ds k).phase=114->(x.ds k).left=(n:Int)->n<=3->
 (∀d,d<s.nv->(s.dv d).dom=k->∀r,v d r=if(x.ds k).kept then Bi (fun j=>((s.dv d).reg j).reset) (fun j=>((s.dv d).reg j).ret) (x.fl d).saved (x.fl d).kept r else((s.dv d).reg r).reset)->
 ∃x2,IM s 117 k (n+2) (x.tk s) x2∧DJ s x2 (C7 cw 0 k true)∧(∀d,d<s.nv->∀r,x2.val s d r=v d r)∧x2.posted=(x.tk s).posted:=by
 intro n
 induction n with
 | zero=>
  intro x h ca hp hl hn hv;obtain⟨h1,d1,f1,c1⟩:=h.tick hs hk;have hold:(x.ds k).tick={ x.ds k with phase:=104 }:=by rw [Dm.tick,if_pos hp,if_neg (by omega)]
  have told:(x.ds k).told=if(x.ds k).kept then 114 else 110:=by rw [Dm.told,if_pos hp,if_neg (by omega)]
  obtain⟨y,hy⟩:=ex (x.tk s);rw [hy] at h1 d1 f1 c1 ⊢;rw [hold] at d1;have cy:∀j,j<s.nv->y.ca j=0∨(y.ca j=2∧cw 0 (s.dv j).dom=false):=fun j hj=>by rw [c1 j hj,Hg ca j hj];exact ca j hj
  have ph:(y.ds k).phase=104:=by rw [d1]
  have a:=Iz (s:=s) (x:=y) k hk (by rw [ph];omega) (by rw [ph];omega) (by rw [ph];omega);obtain⟨h2,d2,f2,c2⟩:=h1.tick hs hk;have live:(y.ds k).tick={ y.ds k with phase:=49 }:=by rw [Dm.tick,if_neg (by omega),if_pos ph]
  have told2:(y.ds k).told=111:=by rw [Dm.told,if_neg (by omega),if_pos ph]
  obtain⟨z,hz⟩:=ex (y.tk s);rw [hz] at h2 d2 f2 c2;rw [live] at d2;have cz:∀j,j<s.nv->z.ca j=0∨(z.ca j=2∧cw 0 (s.dv j).dom=false):=fun j hj=>by rw [c2 j hj,Hg cy j hj];exact cy j hj
  have zp:(z.ds k).phase=49:=by rw [d2]
  obtain⟨x2,dd,o,vv,p⟩:=Zc hs hk h2 cz zp;refine⟨x2, .more a (h1.fine hs) (by rw [hz];exact dd),o,fun d hd r=>(vv d hd r).trans ?_,by rw [p, <-hz,Cm]⟩;by_cases e:(s.dv d).dom=k
  . rw [hv d hd e,Hw.val,e,if_pos zp,f2 d hd e,told2,if_pos (by omega),f1 d hd e,told];by_cases kp:(x.ds k).kept=true
    . rw [if_pos kp,if_pos (by omega),if_pos kp];rfl
    . rw [if_neg kp,if_pos (by omega),if_neg kp];rfl
  . rw [hv0 d hd e,Dg (h2.dx _ (hs.dom d hd) e) (h2.fx d hd e)]
 | succ n ih=>
  intro x h ca hp hl hn hv;obtain⟨h1,d1,f1,c1⟩:=h.tick hs hk;have rise:(x.ds k).tick={ x.ds k with left:=(x.ds k).left - 1 }:=by rw [Dm.tick,if_pos hp,if_pos (by omega)]
  have told:(x.ds k).told=0:=by rw [Dm.told,if_pos hp,if_pos (by omega)]
  obtain⟨y,hy⟩:=ex (x.tk s);rw [hy] at h1 d1 f1 c1 ⊢;rw [rise] at d1;have cy:∀j,j<s.nv->y.ca j=0∨(y.ca j=2∧cw 0 (s.dv j).dom=false):=fun j hj=>by rw [c1 j hj,Hg ca j hj];exact ca j hj
  have ph:(y.ds k).phase=114:=by rw [d1];exact hp
  have a:=Iz (s:=s) (x:=y) k hk (by rw [ph];omega) (by rw [ph];omega) (by rw [ph];omega);obtain⟨x2,dd,o,vv,p⟩:=ih y h1 cy ph (by rw [d1];dsimp only;omega) (by omega) fun d hd e r=>by rw [hv d hd e,d1,f1 d hd e,told,if_neg (show¬((0:Int)≠0) from fun q=>q rfl)]
  exact⟨x2, .more a (h1.fine hs) dd,o,vv,by rw [p,Cm]⟩
theorem Xx (hs:s.Ok) (h:DJ s x cw) (k:Nat) (hk:k<s.nd) (h0:cw 0 k=false) (ha:(s.dm k).above= -1∨∃a:Nat,(s.dm k).above=(a:Int)∧a<s.nd∧cw 0 a=true):Jk s 117 k x (C7 cw 0 k true) (x.val s):=by
 have dk:=h.ds k hk;obtain⟨n,hn⟩:∃n:Nat,(s.dm k).delay=(n:Int):=⟨(s.dm k).delay.toNat,by have:=(hs.dm k hk).delay;omega⟩;have hn3:n<=3:=by have:=(hs.dm k hk).delay;omega
 have a:=Mm (s:=s) (x:=x) k hk (dk.down h0) (by
  rw [dk.above];rcases ha with e | ⟨a,e,la,ca⟩
  . exact .inl e
  . exact .inr ⟨a,e,la,(h.ds a la).up ca⟩)
 have mid:=(h.mid hk).turn (x.ds k).up ⟨dk.above,dk.delay,dk.ret,by have:=(hs.dm k hk).delay;show 0<=(x.ds k).delay∧(x.ds k).delay<=3;rw [dk.delay];omega⟩ x.ca;have eup:upd x.ds k (x.ds k).up k=(x.ds k).up:=upd_same _ _ _;obtain⟨x2,dd,o,vv,p⟩:=Zb hs hk (x.val s) (fun _ _ _ _=>rfl) n _ mid h.ca (by show(upd x.ds k (x.ds k).up k).phase=114;rw [eup];rfl) (by show(upd x.ds k (x.ds k).up k).left=n;rw [eup];show(x.ds k).delay=n;rw [dk.delay,hn]) hn3 fun d hd e r=>by
  show x.val s d r=if(upd x.ds k (x.ds k).up k).kept then _ else _
  rw [eup];show x.val s d r=if decide ((x.ds k).phase=116) then _ else _
  rw [Hw.val,e];rcases dk.dn h0 with q | q
  . rw [q,if_neg (by omega),if_neg (by omega),if_neg (by simp)]
  . rw [q.1,if_neg (by omega),if_pos rfl,if_pos (by simp)]
 exact .more (n:=n+2) (by omega) a (mid.fine hs) rfl ⟨x2,dd,o,vv,p⟩
theorem Jg (s:AE) (d:Nat) (ca:Nat->Nat):∀n,Ak s d ca n=true ↔ ∀j,j<n->(s.dv j).dom=d->ca j=2:=by
 intro n
 induction n with
 | zero=>simp [Ak]
 | succ n ih=>
  rw [Ak,F0,ih,Eu,decide_eq_true_eq,decide_eq_true_eq];refine⟨fun h j hj e=>?_,fun h=>⟨fun j hj e=>h j (by omega) e,?_⟩⟩
  . rcases Ji.1 hj with c | rfl
    . exact h.1 j c e
    . rcases h.2 with q | q
      . exact absurd e q
      . exact q
  . by_cases e:(s.dv n).dom=d
    . exact .inr (h n (Nat.lt_succ_self _) e)
    . exact .inl e
def QX (s:AE) (x:Hw) (k d r:Nat):Int:=if(s.dv d).dom=k then(if(s.dm k).ret=true∧((s.dv d).reg r).ret=true then x.val s d r else((s.dv d).reg r).reset) else x.val s d r
theorem UC (hs:s.Ok) {k:Nat} (hk:k<s.nd) (h:Em s x0 x cw k) (ca:∀j,j<s.nv->x.ca j=0∨(x.ca j=2∧C7 cw 0 k false 0 (s.dv j).dom=false)) (hst:Ak s k x.ca s.nv=true) (hdx:x.ds k=x0.ds k) (hf:∀j,j<s.nv->x.fl j=x0.fl j) (hp:(x.ds k).phase=49)
 (lo:∀j,j<s.nd->(s.dm j).above=(k:Int)->cw 0 j=false) {t:Int} (ht:t=if(s.dm k).ret then 107 else 100):
 ∃x2,IM s t k 2 x x2∧DJ s x2 (C7 cw 0 k false)∧(∀d,d<s.nv->∀r,x2.val s d r=QX s x0 k d r)∧x2.posted=x.posted:=by
 have hush:∀j,j<s.nv->Au s k x.ca s.nv j=x.ca j:=fun j hj=>by
  unfold Au;rw [if_neg];rintro⟨_,e,z⟩;have:=(Jg s k x.ca s.nv).1 hst j hj e;omega
 obtain⟨q,hq⟩:=ex ((s.dm k).ret);rw [hq] at ht;have t17:t=100∨t=107:=by rw [ht];cases q;exact .inl rfl;exact .inr rfl
 have a:=Ov (s:=s) (x:=x) (q:=q) hs k hk hp (Yr ca) hst (fun e=>by rw [h.dk.ret,hq,e]) fun j hj e=>by
  have jk:j≠k:=by
   rintro rfl;have:=(hs.dm j hj).above;rw [h.dk.above] at e;omega
  rw [(h.ds j hj jk).above] at e;exact(h.ds j hj jk).down (lo j hj e)
 rw [<-ht] at a;have mid:=h.turn ((x.ds k).down q) ⟨h.dk.above,h.dk.delay,h.dk.ret,h.dk.left⟩ (Au s k x.ca s.nv);have a:IC s t k x false { x with ds:=upd x.ds k ((x.ds k).down q),ca:=Au s k x.ca s.nv }:=a;obtain⟨h1,d1,f1,c1⟩:=mid.tick hs hk;have f0:=mid.fine hs;obtain⟨z,hz⟩:=ex (({ x with ds:=upd x.ds k ((x.ds k).down q),ca:=Au s k x.ca s.nv }:Hw).tk s);rw [hz] at h1 d1 f1 c1;have ek:upd x.ds k ((x.ds k).down q) k=(x.ds k).down q:=upd_same _ _ _;have d1:z.ds k=(upd x.ds k ((x.ds k).down q) k).tick:=d1;rw [ek] at d1;have f1:∀j,j<s.nv->(s.dv j).dom=k->z.fl j=if(upd x.ds k ((x.ds k).down q) k).told≠0 then(x.fl j).deed (upd x.ds k ((x.ds k).down q) k).told (s.dv j) else x.fl j:=f1
 have told:((x.ds k).down q).told=if q then 115 else 108:=by rw [Dm.told,Dm.down,if_neg (by simp),if_neg (by simp),if_pos rfl]
 have zp:(z.ds k).phase=if q then 116 else 48:=by
  rw [d1,Dm.tick,if_neg (by simp [Dm.down]),if_neg (by simp [Dm.down]),if_pos (show((x.ds k).down q).phase=99 from rfl)];cases q <;> rfl
 have zd:(z.ds k).isDown=true:=by rw [Dm.isDown,zp];cases q <;> rfl
 have zc:∀j,j<s.nv->z.ca j=x.ca j:=fun j hj=>by
  rw [c1 j hj];show En (Au s k x.ca s.nv j)=x.ca j;rw [hush j hj,Hg ca j hj]
 have ok:DJ s z (C7 cw 0 k false):=h1.done (fun c=>by cases c) (fun _=>by rw [zp,hq];cases q;exact .inl rfl;exact .inr ⟨rfl,rfl⟩) fun j hj=>by rw [zc j hj];exact ca j hj
 obtain⟨t1,t2,t3⟩:=ok.tick hs;refine⟨_, .more a f0 (by rw [hz];exact .last (MG t17 k hk zd) (ok.fine hs)),t1,fun d hd r=>(t2 d hd r).trans ?_,by rw [t3, <-hz,Cm]⟩;unfold QX;by_cases e:(s.dv d).dom=k
 . have v0:x0.val s d r=(x0.fl d).now r:=by rw [Hw.val,e, <-hdx,if_pos hp]
   rw [if_pos e,Hw.val,e,zp,f1 d hd e,ek,told,hf d hd,v0,hq];cases q
   . rw [if_neg (by simp),if_neg (by simp),if_neg (by simp)]
   . rw [if_pos rfl,if_neg (by omega),if_pos rfl,if_pos (by simp)];show(if(true&&((s.dv d).reg r).ret)=true then(if((s.dv d).reg r).ret=true then(x0.fl d).now r else(x0.fl d).saved r) else((s.dv d).reg r).reset)=_;by_cases q:((s.dv d).reg r).ret=true
     . rw [q];rfl
     . rw [if_neg (by simpa using q),if_neg (fun a=>q a.2)]
 . rw [if_neg e,Dg (h1.dx _ (hs.dom d hd) e) (h1.fx d hd e)]
theorem SY (hs:s.Ok) (h:DJ s x cw) (k:Nat) (hk:k<s.nd) (h0:cw 0 k=true) (lo:∀j,j<s.nd->(s.dm j).above=(k:Int)->cw 0 j=false) {t:Int} (ht:t=if(s.dm k).ret then 107 else 100):Jk s t k x (C7 cw 0 k false) (QX s x k):=by
 have dk:=h.ds k hk;have hp:=dk.up h0;have t17:t=100∨t=107:=by rw [ht];cases (s.dm k).ret;exact .inl rfl;exact .inr rfl
 by_cases hst:Ak s k x.ca s.nv=true
 . obtain⟨x2,dd,o,vv,p⟩:=UC hs hk (h.mid hk) (fun j hj=>by
    rcases h.ca j hj with e | e
    . exact .inl e
    . refine .inr ⟨e.1,?_⟩;rw [CI];by_cases c:(s.dv j).dom=k
      . rw [c,upd_same]
      . rw [uo_ c];exact e.2) hst rfl (fun _ _=>rfl) hp lo ht
   exact⟨2,x2,by omega,dd,o,vv,p⟩
 . have hst:Ak s k x.ca s.nv=false:=by simpa using hst
   have a:=MF (s:=s) (x:=x) t17 hs k hk hp (Yr h.ca) hst;have mid:=(h.mid hk).ports (Au s k x.ca s.nv);obtain⟨h1,d1,f1,c1⟩:=mid.tick hs hk;have f0:=mid.fine hs;obtain⟨z,hz⟩:=ex (({ x with ca:=Au s k x.ca s.nv }:Hw).tk s);rw [hz] at h1 d1 f1 c1;have d1:z.ds k=(x.ds k).tick:=d1;have f1:∀j,j<s.nv->(s.dv j).dom=k->z.fl j=if(x.ds k).told≠0 then(x.fl j).deed (x.ds k).told (s.dv j) else x.fl j:=f1
   rw [dk.still.1] at d1;have zf:∀j,j<s.nv->z.fl j=x.fl j:=fun j hj=>by
    by_cases e:(s.dv j).dom=k
    . rw [f1 j hj e,dk.still.2,if_neg (by omega)]
    . exact h1.fx j hj e
   have zc:∀j,j<s.nv->z.ca j=if(s.dv j).dom=k then 2 else x.ca j:=fun j hj=>by
    rw [c1 j hj];show En (Au s k x.ca s.nv j)=_;unfold Au;by_cases e:(s.dv j).dom=k
    . have z0:x.ca j=0:=by
       rcases h.ca j hj with q | q
       . exact q
       . rw [e,h0] at q;cases q.2
      rw [if_pos ⟨hj,e,z0⟩,if_pos e];rfl
    . rw [if_neg (fun q=>e q.2.1),if_neg e];exact Hg h.ca j hj
   obtain⟨x2,dd,o,vv,p⟩:=UC hs hk h1 (fun j hj=>by
    rw [zc j hj,CI];by_cases e:(s.dv j).dom=k
    . rw [if_pos e,e,upd_same];exact .inr ⟨rfl,rfl⟩
    . rw [if_neg e,uo_ e];exact h.ca j hj) ((Jg s k z.ca s.nv).2 fun j hj e=>by rw [zc j hj,if_pos e]) d1 zf (by rw [d1];exact hp) lo ht
   exact .more (n:=2) (by omega) a f0 rfl ⟨x2,by rw [hz];exact dd,o,vv,by rw [p, <-hz]⟩
abbrev T3 (t:Nat):Prop:=t=0∨t=1∨t=2
abbrev Nh (s:AE) (X X':St):Prop:=Ez s 17 (fun B=> #[.pointer B.W, .int .u32 0]) (.tuple #[]) X X'
structure F5 (X:St) (u:Nat):Prop where
 st:(X.rm.tk u).st=0
 wt:X.waits u=false
section
variable {s:AE} {X X':St}
theorem Di (hs:s.Ok) (f:Qv s X.hx) (hn:X.ev.length<=1000) (ends:∀t,T3 t->(X.rm.tk t).st≠3):Hk s X { X with hx:=X.hx.tk s }:=by
 refine Kf hs f.hm s.nv 0 false 0 0 ⟨fun i hi _=>f.m i hi,fun c=>absurd c (DE _),fun c=>absurd c (DE _),fun c=>absurd c (DE _),fun c=>absurd c (DE _)⟩ ⟨f.mux,f.left,f.dleft,f.lleft⟩ hn rfl (fun _=>{ X with hx:=X.hx.tk s }) ?_ (fun _=>rfl) (fun c=>absurd c (DE _)) (fun t ht=>Bv t ht rfl (ends t ht));rw [Sr,if_neg (DE _),St.tell_nil];rfl
theorem Mu {u:Nat} (hu:T3 u) (h:F5 X u):GH s u X X:=Hm u hu h.wt (V4 u hu h.st (by omega) (by omega)) (Bv u hu h.st (by omega))
theorem Dt (ht:T3 t) {X1 X2 X3:St} (i0:∀u,T3 u->u≠t->F5 X u) (i1:∀u,T3 u->u≠t->F5 X1 u) (g:GH s t X X1) (gf:GI s X1 X2) (gk:Hk s X2 X3):Nh s X X3:=by
 have h:=PF (s:=s) (fun k=>if k<=t then X else X1) (X4:=X2) (X5:=X3) (fun u hu=>by
  by_cases c:u=t
  . subst c;rw [if_pos (al11_ _),if_neg (by omega)];exact g
  . by_cases l:u<=t
    . rw [if_pos l,if_pos (by omega)];exact Mu hu (i0 u hu c)
    . rw [if_neg l,if_neg (by omega)];exact Mu hu (i1 u hu c)) (by rw [if_neg (by rcases ht with e | e | e <;> omega)];exact gf) gk
 rw [if_pos (Nat.zero_le _)] at h;exact h
end
inductive Bp (s:AE):Nat->St->St->Prop
 | zero (X:St):Bp s 0 X X
 | succ {k:Nat} {X X1 X2:St}:(∃t,T3 t∧(X.rm.tk t).st≠0)->Nh s X X1->Bp s k X1 X2->Bp s (k+1) X X2
theorem Bp.trans {b:Nat} (h:Bp s a X Y) (k:Bp s b Y Z):Bp s (a+b) X Z:=by
 induction h with
 | zero X=>rw [Ag];exact k
 | succ c g _ ih=>rw [Nat.succ_add];exact .succ c g (ih k)
structure Kp (X X':St) (l:List Ev):Prop where
 calls:X'.calls=X.calls
 n:X'.n=X.n
 cnt:X'.cnt=X.cnt
 asl:X'.asl=X.asl
 wd:X'.rm.wd=X.rm.wd
 h:∀u,(X'.rm.tk u).h=(X.rm.tk u).h
 ev:X'.ev=X.ev++l
theorem Kp.trans {l m:List Ev} (a:Kp X Y l) (b:Kp Y Z m):Kp X Z (l++m):=
 ⟨b.calls.trans a.calls,b.n.trans a.n,b.cnt.trans a.cnt,b.asl.trans a.asl,b.wd.trans a.wd,fun u=>(b.h u).trans (a.h u),by rw [b.ev,a.ev,List.append_assoc]⟩
def Eb (s:AE) (y:Fm) (cw:Nat->Nat->Bool):Prop:=(∀j i,j<3->i<Ao s j->y.wish 0 j i=cw j i)∧∀j i,y.wish 1 j i=false
structure Hl (X:St) (t:Nat) (l:List DX):Prop where
 st:(X.rm.tk t).st=2
 rest:∀u,T3 u->u≠t->F5 X u
 wt:X.waits t=false
 ho:X.rm.holder=(t:Int)
 steps:X.rm.steps=l
 posted:X.rm.posted=false
 many:X.rm.many<=1023
 last:X.fm.last<=1
 ev:X.ev.length<=990
theorem Hl.no3 (h:Hl X t l):∀u,T3 u->(X.rm.tk u).st≠3:=fun u hu=>by
 by_cases e:u=t
 . rw [e,h.st];omega
 . rw [(h.rest u hu e).st];omega
structure Busy (s:AE) (X:St) (t:Nat) (cw:Nat->Nat->Bool) (l:List DX):Prop where
 a:Hl X t l
 sent:X.rm.sent=false
 at_:X.fm.at_= -1
 box:X.fm.box=0
 wish:Eb s X.fm cw
 hw:DJ s X.hx cw
structure IB (s:AE) (X:St) (cw:Nat->Nat->Bool):Prop where
 rest:∀u,T3 u->F5 X u
 ho:X.rm.holder= -1
 steps:X.rm.steps=[]
 sent:X.rm.sent=false
 posted:X.rm.posted=false
 many:X.rm.many<=1023
 last:X.fm.last<=1
 at_:X.fm.at_= -1
 box:X.fm.box=0
 wish:Eb s X.fm cw
 hw:DJ s X.hx cw
def ZX (s:AE) (X:St) (t:Nat) (cw:Nat->Nat->Bool) (l:List DX) (v:Nat->Nat->Int) (p:Int) (X':St):Prop:=
 (∀d,d<s.nv->∀r,X'.hx.val s d r=v d r)∧X'.hx.posted=p∧(l≠[]->Busy s X' t cw l∧Kp X X' [])∧(l=[]->IB s X' cw∧Kp X X' [Bm t (X.calls t) 0 0])
section
variable {s:AE} {X:St} {t:Nat}
theorem LV (hs:s.Ok) (ht:T3 t) {q:DX} (a:Hl X t (q::l)) (sent:X.rm.sent=true) (hat:X.fm.at_= -1) (hbx:X.fm.box=2) (hq:X.q= .done) (wi:Eb s X.fm cw) (hw:DJ s X.hx cw):
 ∃X',Bp s 1 X X'∧ZX s X t cw l (X.hx.val s) X.hx.posted X':=by
 have gs:=VZ (s:=s) t ht a.st a.posted hbx hq a.steps sent a.ho;obtain⟨k1,k2,k3⟩:=hw.tick hs;have ev:=a.ev;by_cases e:l=[]
 . subst e;have e1:X.reads t []={ X with rm:=(X.rm.next []).over t 0 0,fm:={ X.fm with box:=0 },q:= .none }:=rfl;rw [e1] at gs;have st3:(((X.rm.next []).over t 0 0).tk t).st=3:=by show(upd X.rm.tk t _ t).st=3;rw [upd_same]
   have ge:=Ll (s:=s) (X:={ X with rm:=(X.rm.next []).over t 0 0,fm:={ X.fm with box:=0 },q:= .none }) t ht st3 (by show X.ev.length<=1000;omega);obtain⟨Y,hY⟩:=ex (St.ended { X with rm:=(X.rm.next []).over t 0 0,fm:={ X.fm with box:=0 },q:= .none } t);rw [hY] at ge;have g:=Hm t ht a.wt gs ge;have yev:Y.ev=X.ev++[Bm t (X.calls t) 0 0]:=by
    rw [<-hY];show X.ev++[Bm t (X.calls t) (upd X.rm.tk t { X.rm.tk t with st:=3,err:=0,res:=0 } t).err (upd X.rm.tk t { X.rm.tk t with st:=3,err:=0,res:=0 } t).res]=_;rw [upd_same]
   have ytk:∀u,Y.rm.tk u=if u=t then Tk.taken { (X.rm.tk t) with st:=3,err:=0,res:=0 } else X.rm.tk u:=fun u=>by
    rw [<-hY];show upd (upd X.rm.tk t { X.rm.tk t with st:=3,err:=0,res:=0 }) t (upd X.rm.tk t { X.rm.tk t with st:=3,err:=0,res:=0 } t).taken u=_;by_cases c:u=t
    . subst c;rw [upd_same,upd_same,if_pos rfl]
    . rw [uo_ c,uo_ c,if_neg c]
   have yre:∀u,T3 u->F5 Y u:=fun u hu=>by
    by_cases c:u=t
    . subst c;exact⟨by rw [ytk,if_pos rfl];rfl,by rw [<-hY];exact a.wt⟩
    . exact⟨by rw [ytk,if_neg c];exact(a.rest u hu c).st,by rw [<-hY];exact(a.rest u hu c).wt⟩
   have gf:=Cy (s:=s) (X:=Y) (by rw [<-hY];exact hat) (by rw [<-hY];show(0:Nat)≠1;omega) (by rw [<-hY];show(0:Nat)<=2;omega) (by rw [<-hY];exact a.last);have yhx:Y.hx=X.hx:=by rw [<-hY];rfl
   have gk:=Di (X:=Y) hs (by rw [yhx];exact hw.fine hs) (by rw [yev,CX];simp;omega) fun u hu=>by rw [(yre u hu).st];omega
   refine⟨_, .succ ⟨t,ht,by rw [a.st];omega⟩ (Dt ht a.rest (fun u hu _=>yre u hu) g gf gk) (.zero _),?_,by show(Y.hx.tk s).posted=_;rw [Cm,yhx],fun c=>absurd rfl c,fun _=>⟨?_,?_⟩⟩
   . intro d hd r;show(Y.hx.tk s).val s d r=_;rw [yhx];exact k2 d hd r
   . exact⟨fun u hu=>⟨(yre u hu).st,(yre u hu).wt⟩,by show Y.rm.holder=_;rw [<-hY];rfl,by show Y.rm.steps=_;rw [<-hY];rfl,by show Y.rm.sent=_;rw [<-hY];rfl,by show Y.rm.posted=_;rw [<-hY];rfl,by show Y.rm.many<=_;rw [<-hY];exact a.many,by show Y.fm.last<=_;rw [<-hY];exact a.last,by show Y.fm.at_=_;rw [<-hY];exact hat,by show Y.fm.box=_;rw [<-hY];rfl,by show Eb s Y.fm cw;rw [<-hY];exact wi,by show DJ s (Y.hx.tk s) cw;rw [yhx];exact k1⟩
   . refine⟨by show Y.calls=_;rw [<-hY];rfl,by show Y.n=_;rw [<-hY];rfl,by show Y.cnt=_;rw [<-hY];rfl,by show Y.asl=_;rw [<-hY];rfl,by show Y.rm.wd=_;rw [<-hY];rfl,fun u=>?_,yev⟩;show(Y.rm.tk u).h=_;rw [ytk];by_cases c:u=t
     . rw [if_pos c,c];rfl
     . rw [if_neg c]
 . have e1:X.reads t l={ X with rm:=X.rm.next l,fm:={ X.fm with box:=0 },q:= .none }:=by rw [St.reads,if_neg e]
   rw [e1] at gs;have ge:=Bv (s:=s) (X:={ X with rm:=X.rm.next l,fm:={ X.fm with box:=0 },q:= .none }) t ht a.st (by omega);have g:=Hm t ht a.wt gs ge;have gf:=Cy (s:=s) (X:={ X with rm:=X.rm.next l,fm:={ X.fm with box:=0 },q:= .none }) hat (by show(0:Nat)≠1;omega) (by show(0:Nat)<=2;omega) a.last;have i1:∀u,T3 u->u≠t->F5 { X with rm:=X.rm.next l,fm:={ X.fm with box:=0 },q:= .none } u:=fun u hu c=>⟨(a.rest u hu c).st,(a.rest u hu c).wt⟩;have gk:=Di (X:={ X with rm:=X.rm.next l,fm:={ X.fm with box:=0 },q:= .none }) hs (hw.fine hs) (by show X.ev.length<=1000;omega) a.no3;refine⟨_, .succ ⟨t,ht,by rw [a.st];omega⟩ (Dt ht a.rest i1 g gf gk) (.zero _),k2,k3,fun _=>⟨?_,?_⟩,fun c=>absurd c e⟩
   . exact⟨⟨a.st,fun u hu c=>⟨(a.rest u hu c).st,(a.rest u hu c).wt⟩,a.wt,a.ho,rfl,a.posted,a.many,a.last,a.ev⟩,rfl,hat,rfl,wi,k1⟩
   . exact⟨rfl,rfl,rfl,rfl,rfl,fun _=>rfl,(List.append_nil _).symm⟩
structure AtWork (s:AE) (X:St) (t:Nat) (cw:Nat->Nat->Bool) (q:DX) (l:List DX) (ac:Int) (tok:Nat):Prop where
 a:Hl X t (q::l)
 sent:X.rm.sent=true
 at_:X.fm.at_=0
 box:X.fm.box=1
 qs:X.q= .sent q.p tok q.i q.x
 tok:tok<=1023
 kind:X.fm.kind=ac
 ident:X.fm.ident=q.i
 wish:Eb s X.fm cw
theorem Hl.turn (h:Hl X t l) {hx':Hw} {z:Qs} (e:y.last<=1):Hl { X with hx:=hx',fm:=y,q:=z } t l:=
 ⟨h.st,fun u hu c=>⟨(h.rest u hu c).st,(h.rest u hu c).wt⟩,h.wt,h.ho,h.steps,h.posted,h.many,e,h.ev⟩
theorem Oe (hs:s.Ok) (ht:T3 t) {ac:Int} {tok:Nat} {x2:Hw} (st:DG s q.p q.x q.i ac) (d:IM s ac q.i k x x2) (hw:DJ s x2 cw) (v:Nat->Nat->Int) (hv:∀d,d<s.nv->∀r,x2.val s d r=v d r):
 ∀ (X:St),X.hx=x->AtWork s X t cw q l ac tok->∃X',Bp s (k+1) X X'∧ZX s X t cw l v x2.posted X':=by
 induction d with
 | @last x x1 ac1 f=>
  intro X hX a;subst hX;have ev:=a.a.ev;have g:=Hm (s:=s) t ht a.a.wt (NO t ht a.a.st a.a.posted a.box a.sent) (Bv t ht a.a.st (by omega));have gf:=NN (s:=s) (X:=X) a.qs a.at_ a.box a.tok st ac1 a.kind a.ident;have e1:X.acted X.fm true x1={ X with hx:=x1,fm:={ X.fm with box:=2,at_:= -1 },q:= .done }:=rfl;rw [e1] at gf;have a1:Hl { X with hx:=x1,fm:={ X.fm with box:=2,at_:= -1 },q:= .done } t (q::l):=a.a.turn a.a.last;have gk:=Di (X:={ X with hx:=x1,fm:={ X.fm with box:=2,at_:= -1 },q:= .done }) hs f (by show X.ev.length<=1000;omega) a1.no3;have r1:=Dt ht a.a.rest a.a.rest g gf gk;obtain⟨X',r2,vv,po,n1,n2⟩:=LV (X:={ X with hx:=x1.tk s,fm:={ X.fm with box:=2,at_:= -1 },q:= .done }) hs ht (a.a.turn a.a.last) a.sent rfl rfl rfl a.wish hw;have kp:Kp X { X with hx:=x1.tk s,fm:={ X.fm with box:=2,at_:= -1 },q:= .done } []:=⟨rfl,rfl,rfl,rfl,rfl,fun _=>rfl,(List.append_nil _).symm⟩;refine⟨X', .succ ⟨t,ht,by rw [a.a.st];omega⟩ r1 r2,fun d hd r=>(vv d hd r).trans (hv d hd r),po,fun c=>?_,fun c=>?_⟩
  . obtain⟨b,k⟩:=n1 c;exact⟨b,kp.trans k⟩
  . obtain⟨b,k⟩:=n2 c;exact⟨b,kp.trans k⟩
 | @more k x x1 x2 ac1 f d ih=>
  intro X hX a;subst hX;have ev:=a.a.ev;have g:=Hm (s:=s) t ht a.a.wt (NO t ht a.a.st a.a.posted a.box a.sent) (Bv t ht a.a.st (by omega));have gf:=NN (s:=s) (X:=X) a.qs a.at_ a.box a.tok st ac1 a.kind a.ident;have e1:X.acted X.fm false x1={ X with hx:=x1 }:=rfl;rw [e1] at gf;have gk:=Di (X:={ X with hx:=x1 }) hs f (by show X.ev.length<=1000;omega) a.a.no3;have r1:=Dt ht a.a.rest a.a.rest g gf gk;obtain⟨X',r2,vv,po,n1,n2⟩:=ih hw hv { X with hx:=x1.tk s } rfl ⟨a.a.turn a.a.last,a.sent,a.at_,a.box,a.qs,a.tok,a.kind,a.ident,a.wish⟩;have kp:Kp X { X with hx:=x1.tk s } []:=⟨rfl,rfl,rfl,rfl,rfl,fun _=>rfl,(List.append_nil _).symm⟩;refine⟨X', .succ ⟨t,ht,by rw [a.a.st];omega⟩ r1 r2,vv,po,fun c=>?_,fun c=>?_⟩
  . obtain⟨b,k⟩:=n1 c;exact⟨b,kp.trans k⟩
  . obtain⟨b,k⟩:=n2 c;exact⟨b,kp.trans k⟩
end
inductive Fs (s:AE) (cw:Nat->Nat->Bool):DX->(Nat->Nat->Bool)->Prop
 | up (k:Nat):k<s.nd->cw 0 k=false->((s.dm k).above= -1∨∃a:Nat,(s.dm k).above=(a:Int)∧a<s.nd∧cw 0 a=true)->Fs s cw ⟨17,k,1⟩ (C7 cw 0 k true)
 | down (k:Nat):k<s.nd->cw 0 k=true->(∀j,j<s.nd->(s.dm j).above=(k:Int)->cw 0 j=false)->Fs s cw ⟨17,k,if(s.dm k).ret then 2 else 0⟩ (C7 cw 0 k false)
 | on (i:Nat):i<s.nc->Sw s i->cw 1 i=false->(∀c ∈ AU s s.nc ((s.ck i).src 0),Sw s c->cw 1 c=true)->Fs s cw ⟨20,i,1⟩ (C7 cw 1 i true)
 | off (i:Nat):i<s.nc->Sw s i->cw 1 i=true->(∀j,j<s.nc->j≠i->cw 1 j=true->i ∉ AU s s.nc j)->Fs s cw ⟨20,i,0⟩ (C7 cw 1 i false)
 | rel (i:Nat):i<s.nr->cw 2 i=false->Fs s cw ⟨22,i,0⟩ (C7 cw 2 i true)
def Gi (s:AE) (q:DX) (v:Nat->Nat->Int) (d r:Nat):Int:=
 if q.p=17∧q.x≠1∧(s.dv d).dom=q.i then(if(s.dm q.i).ret=true∧((s.dv d).reg r).ret=true then v d r else((s.dv d).reg r).reset) else v d r
def FQ (s:AE):List DX->(Nat->Nat->Int)->Nat->Nat->Int
 | [],v=>v
 | q::l,v=>FQ s l (Gi s q v)
theorem Rh (q:DX) (v w:Nat->Nat->Int) (d:Nat) (h:∀r,v d r=w d r) (r:Nat):Gi s q v d r=Gi s q w d r:=by
 unfold Gi;rw [h r]
theorem Gp:∀ (l:List DX) (v w:Nat->Nat->Int) (d:Nat),(∀r,v d r=w d r)->∀r,FQ s l v d r=FQ s l w d r
 | [],v,w,d,h=>h
 | q::l,v,w,d,h=>Gp l _ _ d (Rh q v w d h)
theorem Wk (h:Eb s y cw) (t:Int) (i:Nat):Eb s (y.taken t i) (C7 cw (Ft t) i (Wh t)):=by
 refine⟨fun j i' hj hi=>?_,fun j i'=>?_⟩
 . show Br y.wish t i 0 j i'=_;unfold Br C7;by_cases c:j=Ft t∧i'=i
   . rw [if_pos ⟨rfl,c.1,c.2⟩,if_pos c]
   . rw [if_neg (fun a=>c a.2),if_neg c];exact h.1 j i' hj hi
 . show Br y.wish t i 1 j i'=_;unfold Br;rw [if_neg (fun a=>by have:=a.1;omega)];exact h.2 j i'
theorem Fs.act (hs:s.Ok) (h:Fs s cw q cw') (w:Eb s y cw) (o:DJ s x cw):
 ∃t,DG s q.p q.x q.i t∧Qz s y.wish t q.i∧cw'=C7 cw (Ft t) q.i (Wh t)∧Jk s t q.i x cw' (Gi s q (x.val s)):=by
 cases h with
 | up k hk h0 ha=>
  refine⟨117, .inr (.inl ⟨rfl,hk,rfl,rfl⟩),⟨by show y.wish 0 0 k=_;rw [w.1 0 k (by omega) hk,h0];rfl,fun _=>?_,fun c=>by omega,fun c=>by omega⟩,rfl,?_⟩
  . rcases ha with e | ⟨a,e,la,ca⟩
    . exact .inl e
    . exact .inr ⟨a,la,e,by rw [w.1 0 a (by omega) la,ca];rfl⟩
  . have:=Xx hs o k hk h0 ha
    rwa [show Gi s ⟨17,k,1⟩ (x.val s)=x.val s from by funext d r;exact if_neg fun a=>a.2.1 rfl]
 | down k hk h0 lo=>
  obtain⟨rt,hrt⟩:=ex ((s.dm k).ret);have w1:y.wish 1 0 k=false∧∀j,j<s.nd->(s.dm j).above=(k:Int)->(y.wish 0 0 j||y.wish 1 0 j)=false:=⟨w.2 0 k,fun j hj e=>by rw [w.1 0 j (by omega) hj,w.2,lo j hj e];rfl⟩;have w0:y.wish 0 0 k=true:=by rw [w.1 0 k (by omega) hk,h0]
  have L:=SY hs o k hk h0 lo rfl;have sv:QX s x k=Gi s ⟨17,k,if(s.dm k).ret then 2 else 0⟩ (x.val s):=by
   funext d r;unfold QX Gi;by_cases e:(s.dv d).dom=k
   . exact(if_pos e).trans (Eq.symm (if_pos ⟨rfl,by dsimp only;cases (s.dm k).ret <;> simp,e⟩))
   . exact(if_neg e).trans (Eq.symm (if_neg fun a=>e a.2.2))
  rw [sv] at L;rw [hrt] at L ⊢;cases rt
  . exact⟨100, .inl ⟨rfl,hk,rfl,rfl⟩,⟨w0,fun c=>by omega,fun _=>w1,fun c=>by omega⟩,rfl,L⟩
  . exact⟨107, .inr (.inr (.inl ⟨rfl,hk,rfl,rfl,hrt⟩)),⟨w0,fun c=>by omega,fun _=>w1,fun c=>by omega⟩,rfl,L⟩
 | on i hi hk h0 hc=>
  refine⟨99, .inr (.inr (.inr (.inr (.inl ⟨rfl,hi,hk,rfl,rfl⟩)))),⟨by show y.wish 0 1 i=_;rw [w.1 1 i (by omega) hi,h0];rfl,fun c=>by omega,fun c=>by omega,fun c=>by omega⟩,rfl,?_⟩;have:=Xy hs o i hi hk h0 hc
  rwa [show Gi s ⟨20,i,1⟩ (x.val s)=x.val s from by funext d r;exact if_neg fun a=>by have:=a.1;dsimp only at this;omega]
 | off i hi hk h0 hc=>
  refine⟨111, .inr (.inr (.inr (.inl ⟨rfl,hi,hk,rfl,rfl⟩))),⟨by show y.wish 0 1 i=_;rw [w.1 1 i (by omega) hi,h0];rfl,fun c=>by omega,fun c=>by omega,fun _=>⟨w.2 1 i,fun j hj e a=>hc j hj e ?_⟩⟩,rfl,?_⟩
  . rw [w.1 1 j (by omega) hj,w.2,Bool.or_false] at a;exact a
  . have:=VK hs o i hi hk hc
    rwa [show Gi s ⟨20,i,0⟩ (x.val s)=x.val s from by funext d r;exact if_neg fun a=>by have:=a.1;dsimp only at this;omega]
 | rel i hi h0=>
  refine⟨114, .inr (.inr (.inr (.inr (.inr ⟨rfl,hi,rfl,rfl⟩)))),⟨by show y.wish 0 2 i=_;rw [w.1 2 i (by omega) hi,h0];rfl,fun c=>by omega,fun c=>by omega,fun c=>by omega⟩,rfl,?_⟩;have:=MW hs o i hi h0
  rwa [show Gi s ⟨22,i,0⟩ (x.val s)=x.val s from by funext d r;exact if_neg fun a=>by have:=a.1;dsimp only at this;omega]
section
variable {s:AE} {X:St} {t:Nat}
theorem Xi (hs:s.Ok) (ht:T3 t) {q:DX} (b:Busy s X t cw (q::l)) (h:Fs s cw q cw'):
 ∃k X',k<=7∧Bp s k X X'∧ZX s X t cw' l (Gi s q (X.hx.val s)) X.hx.posted X':=by
 obtain⟨ac,st,cd,ecw,n,x2,hn,d,ok,vv,po⟩:=h.act hs b.wish b.hw;have ev:=b.a.ev;have qp:q.p<=255:=by rcases h with _ | _ | _ | _ | _ <;> (dsimp only;omega)
 have gs:=VY (s:=s) t ht b.a.st b.a.posted b.box b.a.steps b.sent qp b.a.many;have g:=Hm t ht b.a.wt gs (Bv t ht b.a.st (by omega));have i1:∀u,T3 u->u≠t->F5 (X.sends q) u:=fun u hu c=>⟨(b.a.rest u hu c).st,(b.a.rest u hu c).wt⟩;have wi:=Wk b.wish ac q.i;rw [<-ecw] at wi;have al:∀ (hx':Hw) (y:Fm) (z:Qs),y.last<=1->Hl { X.sends q with hx:=hx',fm:=y,q:=z } t (q::l):=fun hx' y z e=>⟨b.a.st,fun u hu c=>⟨(b.a.rest u hu c).st,(b.a.rest u hu c).wt⟩,b.a.wt,b.a.ho,b.a.steps,b.a.posted,by show(X.rm.many+1) % 1024<=1023;omega,e,b.a.ev⟩
 cases d with
 | @last _ x1 a f=>
  have gf:=NP (s:=s) (X:=X.sends q) rfl hs b.hw.m b.at_ rfl b.a.last b.a.many st a cd;obtain⟨Y,hY⟩:=ex ((X.sends q).acted (Fm.taken (X.sends q).fm ac q.i) true x1);have eY:Y={ X.sends q with hx:=x1,fm:={ (X.sends q).fm.taken ac q.i with box:=2,at_:= -1 },q:= .done }:=by rw [<-hY];rfl
  rw [hY,eY] at gf;have gk:=Di hs (X:={ X.sends q with hx:=x1,fm:={ (X.sends q).fm.taken ac q.i with box:=2,at_:= -1 },q:= .done }) f (by show X.ev.length<=1000;omega) (al _ _ _ (Nat.zero_le 1)).no3;have r1:=Dt ht b.a.rest i1 g gf gk;obtain⟨X',r2,vv2,po2,n1,n2⟩:=LV (X:={ X.sends q with hx:=x1.tk s,fm:={ (X.sends q).fm.taken ac q.i with box:=2,at_:= -1 },q:= .done }) hs ht (al _ _ _ (Nat.zero_le 1)) rfl rfl rfl rfl wi ok;have kp:Kp X { X.sends q with hx:=x1.tk s,fm:={ (X.sends q).fm.taken ac q.i with box:=2,at_:= -1 },q:= .done } []:=⟨rfl,rfl,rfl,rfl,rfl,fun _=>rfl,(List.append_nil _).symm⟩;refine⟨2,X',by omega, .succ ⟨t,ht,by rw [b.a.st];omega⟩ r1 r2,fun d hd r=>(vv2 d hd r).trans (vv d hd r),po2.trans po,fun c=>?_,fun c=>?_⟩
  . obtain⟨x,k⟩:=n1 c;exact⟨x,kp.trans k⟩
  . obtain⟨x,k⟩:=n2 c;exact⟨x,kp.trans k⟩
 | @more k _ x1 _ a f d=>
  have gf:=NP (s:=s) (X:=X.sends q) rfl hs b.hw.m b.at_ rfl b.a.last b.a.many st a cd;obtain⟨Y,hY⟩:=ex ((X.sends q).acted (Fm.taken (X.sends q).fm ac q.i) false x1);have eY:Y={ X.sends q with hx:=x1,fm:=(X.sends q).fm.taken ac q.i }:=by rw [<-hY];rfl
  rw [hY,eY] at gf;have gk:=Di hs (X:={ X.sends q with hx:=x1,fm:=(X.sends q).fm.taken ac q.i }) f (by show X.ev.length<=1000;omega) (al _ _ (X.sends q).q (Nat.zero_le 1)).no3;have r1:=Dt ht b.a.rest i1 g gf gk;obtain⟨X',r2,vv2,po2,n1,n2⟩:=Oe hs ht st d ok (Gi s q (X.hx.val s)) vv { X.sends q with hx:=x1.tk s,fm:=(X.sends q).fm.taken ac q.i } rfl (tok:=X.rm.many) (l:=l) (cw:=cw') ⟨al _ _ (X.sends q).q (Nat.zero_le 1),rfl,rfl,rfl,rfl,b.a.many,rfl,rfl,wi⟩;have kp:Kp X { X.sends q with hx:=x1.tk s,fm:=(X.sends q).fm.taken ac q.i } []:=⟨rfl,rfl,rfl,rfl,rfl,fun _=>rfl,(List.append_nil _).symm⟩;refine⟨k+1+1,X',by omega, .succ ⟨t,ht,by rw [b.a.st];omega⟩ r1 r2,vv2,po2.trans po,fun c=>?_,fun c=>?_⟩
  . obtain⟨x,k⟩:=n1 c;exact⟨x,kp.trans k⟩
  . obtain⟨x,k⟩:=n2 c;exact⟨x,kp.trans k⟩
inductive Jr (s:AE):(Nat->Nat->Bool)->List DX->(Nat->Nat->Bool)->Prop
 | nil (cw:Nat->Nat->Bool):Jr s cw [] cw
 | cons {cw cw1 cw2:Nat->Nat->Bool} {q:DX} {l:List DX}:Fs s cw q cw1->Jr s cw1 l cw2->Jr s cw (q::l) cw2
theorem XQ (hs:s.Ok) (ht:T3 t) (p:Jr s cw l cw'):∀X,l≠[]->Busy s X t cw l->
 ∃k X',k<=7*l.length∧Bp s k X X'∧IB s X' cw'∧Kp X X' [Bm t (X.calls t) 0 0]∧X'.hx.posted=X.hx.posted∧∀d,d<s.nv->∀r,X'.hx.val s d r=FQ s l (X.hx.val s) d r:=by
 induction p with
 | nil cw=>intro X h;exact absurd rfl h
 | @cons cw cw1 cw2 q l h p ih=>
  intro X _ b;obtain⟨k,X1,hk,r1,vv,po,n1,n2⟩:=Xi hs ht b h;by_cases e:l=[]
  . subst e;cases p;obtain⟨re,kp⟩:=n2 rfl;exact⟨k,X1,by simpa using hk,r1,re,kp,po,vv⟩
  . obtain⟨b1,kp1⟩:=n1 e;obtain⟨k2,X2,hk2,r2,re,kp,po2,vv2⟩:=ih X1 e b1;refine⟨k+k2,X2,by rw [Dy];omega,r1.trans r2,re,by have:=kp1.trans kp;rw [kp1.calls] at this;exact this,po2.trans po,fun d hd r=>(vv2 d hd r).trans ?_⟩;exact Gp l _ _ d (fun r=>vv d hd r) r
end
end Go.Proofs.YtpekoejdnhaohaaGreatDoor
