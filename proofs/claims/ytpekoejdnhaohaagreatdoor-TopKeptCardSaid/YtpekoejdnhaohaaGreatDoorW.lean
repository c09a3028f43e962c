/- The plain law of what is kept; what settles does at put, get, suspend, resume, write and read. For every chip in which nothing is wrong. -/
import Derived.Laws.OwnMore
import Derived.Test.YtpekoejdnhaohaaGreatDoorV
namespace Go.Proofs.YtpekoejdnhaohaaGreatDoor
open Go.RowKit Tryz
set_option maxRecDepth 100000
set_option maxHeartbeats 40000000
set_option linter.all false
variable {s:AE} {a b:Ev} {l:List Ev} {xs ys:List Value} {B K SB base c d e k m n n' q t u:Nat} {cnt:Nat->Nat} {cw:Nat->Nat->Bool} {f:Nat->Nat->Value} {S:Nat->Prop} {v v':Value} {W3 w w' wx:World}
def wantD (s:AE) (d:Nat):Nat->Nat->Bool:=Bh s (actN s (fun i=>if i=d then 1 else 0) s.nv) s.nv
structure Bn (s:AE) (X:St) (d c:Nat) (q:Bool) (m:Nat) (v:Nat->Int):Prop where
 rest:IB s X X.rm.wd
 cnt:∀i,i<s.nv->X.cnt i=if i=d then c else 0
 hand:(X.rm.tk 2).h d=c
 asl:X.asl=q
 on:0<c->q=false->(∀i,X.rm.wd 0 i=wantD s d 0 i)∧(∀i,X.rm.wd 1 i=wantD s d 1 i)∧∀i,wantD s d 2 i=true->X.rm.wd 2 i=true
 off:c=0∨q=true->(∀i,X.rm.wd 0 i=false)∧∀i,X.rm.wd 1 i=false
 ev:X.ev.length<=3*m
 n:X.n<=m
 posted:0<=X.hx.posted∧X.hx.posted<=(m:Int)
 val:∀r,X.hx.val s d r=v r
theorem T7 (hc:0<c) (h:∀i,i<s.nv->cnt i=if i=d then c else 0):Fo s cnt false=actN s (fun i=>if i=d then 1 else 0) s.nv:=by
 funext i;show(true&&actN s cnt s.nv i)=_;rw [Bool.true_and,MH (b:=fun i=>if i=d then 1 else 0) s.nv fun k hk=>by rw [h k hk];split <;> omega]
theorem Wo {asl:Bool} (h:asl=true∨∀i,i<s.nv->cnt i=0):Fo s cnt asl=fun _=>false:=by
 funext i;show(!asl&&actN s cnt s.nv i)=false;rcases h with h | h
 . rw [h];rfl
 . rw [N6 s.nv h,Bool.and_false]
theorem JB (hs:s.Ok) (hd:d<s.nv):wantD s d 0 (s.dv d).dom=true∧wantD s d 2 (s.dv d).line=true∧∀i ∈ AU s s.nc (s.dv d).clock,Sw s i->wantD s d 1 i=true:=by
 have a:actN s (fun i=>if i=d then 1 else 0) s.nv d=true:=WU (by simp) s.nv hd;refine⟨(wantN_iff s.nv).2 ⟨d,hd,a,?_⟩,(wantN_iff s.nv).2 ⟨d,hd,a,decide_eq_true rfl⟩,fun i hi sw=>(wantN_iff s.nv).2 ⟨d,hd,a,?_⟩⟩
 . show decide ((s.dv d).dom ∈ Ga s s.nd ((s.dv d).dom:Int))=true;obtain⟨n,hn⟩:∃n,s.nd=n+1:=⟨s.nd - 1,by have:=hs.d1;omega⟩;rw [hn,JS];exact decide_eq_true (List.mem_cons_self ..)
 . show(decide (i ∈ AU s s.nc (s.dv d).clock)&&(decide ((s.ck i).kind=112)||decide ((s.ck i).kind=103)))=true;rw [decide_eq_true hi,Bool.true_and,Eu,decide_eq_true_eq,decide_eq_true_eq];exact sw
def NG (s:AE) (d:Nat) (a b:Bool) (v:Nat->Int) (r:Nat):Int:=if a&&!b then Ds s d r (v r) else v r
def ED (c:Nat) (asl:Bool):Bool:=decide (0<c)&&!asl
section
variable {s:AE} {X:St} {t d c m:Nat} {asl:Bool} {v:Nat->Int}
theorem Bn.move (hs:s.Ok) (ht:T3 t) (hd:d<s.nv) (h:Bn s X d c asl m v) (hm:m<=300) (cl:Cl) {hd':Nat->Nat} {cnt':Nat->Nat} {asl':Bool} {c':Nat} (B:I3 s t (X.called t cl) ((X.called t cl).eff s t hd' n' cnt' asl'))
 (hc':∀i,i<s.nv->cnt' i=if i=d then c' else 0) (hn:n'<=m+1) (hh:(if 2=t then hd' else(X.rm.tk 2).h) d=c') (len:∀fr tw,(Ax s fr tw).length<=40):
 ∃k X',k<=281∧Bp s k (X.called t cl) X'∧Bn s X' d c' asl' (m+1) (NG s d (ED c asl) (ED c' asl') v)∧X'.ev=X.ev++[CJ t cl,Bm t cl 0 0]:=by
 obtain⟨fr,hfr⟩:=ex X.rm.wd;obtain⟨tw,htw⟩:=ex (Cv s cnt' asl' fr);have on:=h.on;have off:=h.off;rw [hfr] at on off;have evl:=h.ev;have nl:=h.n;have pl:=h.posted;have tw_on:ED c' asl'=true->(∀i,tw 0 i=wantD s d 0 i)∧(∀i,tw 1 i=wantD s d 1 i)∧∀i,tw 2 i=(wantD s d 2 i||fr 2 i):=fun q=>by
  rw [ED,F0,decide_eq_true_eq,Bool.not_eq_true'] at q;rw [q.2] at htw;have u:=T7 q.1 hc';rw [<-htw];refine⟨fun i=>?_,fun i=>?_,fun i=>?_⟩
  . show(Bh s (Fo s cnt' false) s.nv 0 i||(false&&fr 2 i))=_;rw [u,Bool.false_and,Bool.or_false];rfl
  . show(Bh s (Fo s cnt' false) s.nv 1 i||(false&&fr 2 i))=_;rw [u,Bool.false_and,Bool.or_false];rfl
  . show(Bh s (Fo s cnt' false) s.nv 2 i||(true&&fr 2 i))=_;rw [u,Bool.true_and];rfl
 have tw_off:ED c' asl'=false->(∀i,tw 0 i=false)∧(∀i,tw 1 i=false)∧∀i,tw 2 i=fr 2 i:=fun q=>by
  have u:Fo s cnt' asl'=fun _=>false:=Wo (by
   cases asl'
   . right
     intro i hi;rw [ED,Bool.not_false,Bool.and_true,decide_eq_false_iff_not] at q;rw [hc' i hi];split <;> omega
   . exact .inl rfl)
  rw [<-htw];refine⟨fun i=>?_,fun i=>?_,fun i=>?_⟩
  . show(Bh s (Fo s cnt' asl') s.nv 0 i||(false&&fr 2 i))=_;rw [u,EK];rfl
  . show(Bh s (Fo s cnt' asl') s.nv 1 i||(false&&fr 2 i))=_;rw [u,EK];rfl
  . show(Bh s (Fo s cnt' asl') s.nv 2 i||(true&&fr 2 i))=_;rw [u,EK];rfl
 have fr_on:ED c asl=true->(∀i,fr 0 i=wantD s d 0 i)∧(∀i,fr 1 i=wantD s d 1 i)∧∀i,wantD s d 2 i=true->fr 2 i=true:=fun q=>by
  rw [ED,F0,decide_eq_true_eq,Bool.not_eq_true'] at q;exact on q.1 q.2
 have fr_off:ED c asl=false->(∀i,fr 0 i=false)∧∀i,fr 1 i=false:=fun q=>off (by
  cases asl
  . rw [ED,Bool.not_false,Bool.and_true,decide_eq_false_iff_not] at q;exact .inl (by omega)
  . exact .inr rfl)
 have path:∃cw',Jr s fr (Ax s fr tw) cw'∧EqW s cw' tw∧∀r,FQ s (Ax s fr tw) (X.hx.val s) d r=NG s d (ED c asl) (ED c' asl') v r:=by
  cases e:ED c asl with
  | false=>
   obtain⟨f0,f1⟩:=fr_off e
   cases e':ED c' asl' with
   | false=>
    obtain⟨t0,t1,t2⟩:=tw_off e';have z:Ax s fr tw=[]:=Ks fun j i hj=>by
     have:j=0∨j=1∨j=2:=by omega
     rcases this with rfl | rfl | rfl
     . rw [f0,t0]
     . rw [f1,t1]
     . rw [t2]
    rw [z];exact⟨fr, .nil _,fun j i hj hi=>by
     have:j=0∨j=1∨j=2:=by omega
     rcases this with rfl | rfl | rfl
     . rw [f0,t0]
     . rw [f1,t1]
     . rw [t2],fun r=>h.val r⟩
   | true=>
    obtain⟨t0,t1,t2⟩:=tw_on e';obtain⟨cw',p,eq⟩:=Tj hs f0 f1 (fun i q=>by rw [t2,q,Bool.or_true]) (Gf hs t0 t1)
    exact⟨cw',p,eq,fun r=>(val_up f0 d _ r).trans (h.val r)⟩
  | true=>
   obtain⟨f0,f1,f2⟩:=fr_on e
   cases e':ED c' asl' with
   | false=>
    obtain⟨t0,t1,t2⟩:=tw_off e';obtain⟨cw',p,eq⟩:=Uv hs t0 t1 t2 (Gf hs f0 f1)
    exact⟨cw',p,eq,fun r=>by rw [Wn t0 d (hs.dom d hd) (by rw [f0];exact(JB hs hd).1),h.val r];rfl⟩
   | true=>
    obtain⟨t0,t1,t2⟩:=tw_on e';have q2:∀i,fr 2 i=tw 2 i:=fun i=>by
     rw [t2]
     cases q:wantD s d 2 i with
     | false=>rfl
     | true=>rw [f2 i q];rfl
    have z:Ax s fr tw=[]:=Ks fun j i hj=>by
     have:j=0∨j=1∨j=2:=by omega
     rcases this with rfl | rfl | rfl
     . rw [f0,t0]
     . rw [f1,t1]
     . exact q2 i
    rw [z];exact⟨fr, .nil _,fun j i hj hi=>by
     have:j=0∨j=1∨j=2:=by omega
     rcases this with rfl | rfl | rfl
     . rw [f0,t0]
     . rw [f1,t1]
     . exact q2 i,fun r=>h.val r⟩
 obtain⟨cw',p,eq,vv⟩:=path;rw [<-hfr] at htw;obtain⟨k,X',hk,r,ca⟩:=Qf hs ht h.rest cl B (by omega) (cw':=cw') (by rw [htw,hfr];exact p) (by rw [htw];exact eq) (len _ _);have wd:=ca.wd;rw [htw] at wd;refine⟨k,X',by have:=len X.rm.wd (Cv s cnt' asl' X.rm.wd);omega,r,⟨by have:=ca.rest;rw [htw] at this;rw [wd];exact this,fun i hi=>by rw [ca.cnt];exact hc' i hi,?_,ca.asl,fun q1 q2=>?_,fun q=>?_,by rw [ca.ev,CX];simp;omega,by rw [ca.n];exact hn,by rw [ca.posted];omega,fun r=>?_⟩,ca.ev⟩
 . rw [ca.h];exact hh
 . obtain⟨t0,t1,t2⟩:=tw_on (by rw [ED,q2,decide_eq_true q1];rfl);rw [wd];exact⟨t0,t1,fun i q=>by rw [t2,q];rfl⟩
 . obtain⟨t0,t1,t2⟩:=tw_off (by
    rcases q with q | q
    . rw [ED,q];rfl
    . rw [ED,q,Bool.not_true,Bool.and_false])
   rw [wd];exact⟨t0,t1⟩
 . rw [ca.val d hd r,htw,hfr];exact vv r
theorem Bn.get (hs:s.Ok) (hd:d<s.nv) (h:Bn s X d c false m v) (hm:m<=300) (hc:c<=5) (len:∀fr tw,(Ax s fr tw).length<=40):
 ∃k X',k<=281∧Bp s k (X.called 2 ⟨103,d,0,0⟩) X'∧Bn s X' d (c+1) false (m+1) v∧X'.ev=X.ev++[CJ 2 ⟨103,d,0,0⟩,Bm 2 ⟨103,d,0,0⟩ 0 0]:=by
 have nl:=h.n;have ctk:(X.called 2 ⟨103,d,0,0⟩).rm.tk 2={ X.rm.tk 2 with st:=1,c:=⟨103,d,0,0⟩ }:=rfl;have hcd:X.cnt d=c:=by rw [h.cnt d hd,if_pos rfl]
 have hhd:=h.hand;have B:=MB (X:=X.called 2 ⟨103,d,0,0⟩) hs 2 (.inr (.inr rfl)) (by rw [ctk]) h.rest.ho (d:=d) (by rw [ctk]) (by rw [ctk]) hd h.asl (by show X.n<=1000;omega) (by show X.cnt d<7;omega) (by rw [ctk];show(X.rm.tk 2).h d<=1000;omega);have r:=h.move hs (.inr (.inr rfl)) hd hm _ (c':=c+1) B (fun i hi=>by
  show upd X.cnt d (X.cnt d+1) i=_;by_cases e:i=d
  . subst e;rw [upd_same,if_pos rfl,hcd]
  . rw [uo_ e,if_neg e,h.cnt i hi,if_neg e]) (by show X.n+1<=_;omega) (by rw [if_pos rfl,ctk,upd_same];show(X.rm.tk 2).h d+1=_;omega) len
 rwa [show NG s d (ED c false) (ED (c+1) false) v=v from by funext r;rw [NG,show ED (c+1) false=true from by rw [ED,decide_eq_true (by omega)];rfl,Bool.not_true,Bool.and_false];rfl] at r
theorem Bn.put (hs:s.Ok) (hd:d<s.nv) (h:Bn s X d (c+1) false m v) (hm:m<=300) (hc:c<=5) (len:∀fr tw,(Ax s fr tw).length<=40):
 ∃k X',k<=281∧Bp s k (X.called 2 ⟨112,d,0,0⟩) X'∧Bn s X' d c false (m+1) (fun r=>if c=0 then Ds s d r (v r) else v r)∧X'.ev=X.ev++[CJ 2 ⟨112,d,0,0⟩,Bm 2 ⟨112,d,0,0⟩ 0 0]:=by
 have nl:=h.n;have ctk:(X.called 2 ⟨112,d,0,0⟩).rm.tk 2={ X.rm.tk 2 with st:=1,c:=⟨112,d,0,0⟩ }:=rfl;have hcd:X.cnt d=c+1:=by rw [h.cnt d hd,if_pos rfl]
 have hhd:=h.hand;have B:=TE (X:=X.called 2 ⟨112,d,0,0⟩) hs 2 (.inr (.inr rfl)) (by rw [ctk]) h.rest.ho (d:=d) (by rw [ctk]) (by rw [ctk]) hd h.asl (by show X.n<=1000;omega) (by show 0<X.cnt d∧X.cnt d<=7;omega) (by rw [ctk];show 0<(X.rm.tk 2).h d∧(X.rm.tk 2).h d<=1000;omega);have r:=h.move hs (.inr (.inr rfl)) hd hm _ (c':=c) B (fun i hi=>by
  show upd X.cnt d (X.cnt d - 1) i=_;by_cases e:i=d
  . subst e;rw [upd_same,if_pos rfl,hcd];omega
  . rw [uo_ e,if_neg e,h.cnt i hi,if_neg e]) (by show X.n+1<=_;omega) (by rw [if_pos rfl,ctk,upd_same];show(X.rm.tk 2).h d - 1=_;omega) len
 rwa [show NG s d (ED (c+1) false) (ED c false) v=fun r=>if c=0 then Ds s d r (v r) else v r from by
  funext r;rw [NG,show ED (c+1) false=true from by rw [ED,decide_eq_true (by omega)];rfl]
  cases c with
  | zero=>rfl
  | succ c=>rw [show ED (c+1) false=true from by rw [ED,decide_eq_true (by omega)];rfl];rfl] at r
theorem Bn.suspend (hs:s.Ok) (hd:d<s.nv) (h:Bn s X d 1 false m v) (hm:m<=300) (len:∀fr tw,(Ax s fr tw).length<=40):
 ∃k X',k<=281∧Bp s k (X.called 1 ⟨115,0,0,0⟩) X'∧Bn s X' d 1 true (m+1) (fun r=>Ds s d r (v r))∧X'.ev=X.ev++[CJ 1 ⟨115,0,0,0⟩,Bm 1 ⟨115,0,0,0⟩ 0 0]:=by
 have nl:=h.n;have ctk:(X.called 1 ⟨115,0,0,0⟩).rm.tk 1={ X.rm.tk 1 with st:=1,c:=⟨115,0,0,0⟩ }:=rfl;have B:=MA (X:=X.called 1 ⟨115,0,0,0⟩) hs 1 (.inr (.inl rfl)) (by rw [ctk]) h.rest.ho (by rw [ctk]) h.asl;exact h.move hs (.inr (.inl rfl)) hd hm _ (c':=1) B h.cnt (by show X.n<=_;omega) (by rw [if_neg (by omega)];exact h.hand) len
theorem Bn.resume (hs:s.Ok) (hd:d<s.nv) (h:Bn s X d 1 true m v) (hm:m<=300) (len:∀fr tw,(Ax s fr tw).length<=40):
 ∃k X',k<=281∧Bp s k (X.called 0 ⟨109,0,0,0⟩) X'∧Bn s X' d 1 false (m+1) v∧X'.ev=X.ev++[CJ 0 ⟨109,0,0,0⟩,Bm 0 ⟨109,0,0,0⟩ 0 0]:=by
 have nl:=h.n;have ctk:(X.called 0 ⟨109,0,0,0⟩).rm.tk 0={ X.rm.tk 0 with st:=1,c:=⟨109,0,0,0⟩ }:=rfl;have B:=Mg (X:=X.called 0 ⟨109,0,0,0⟩) hs 0 (.inl rfl) (by rw [ctk]) h.rest.ho (by rw [ctk]) h.asl;exact h.move hs (.inl rfl) hd hm _ (c':=1) B h.cnt (by show X.n<=_;omega) (by rw [if_neg (by omega)];exact h.hand) len
theorem Bn.access (hs:s.Ok) (hd:d<s.nv) (h:Bn s X d (c+1) false m v) (hm:m<=300) (wr:Bool) (g:Nat) (hg:g<(s.dv d).nreg) (vl:Int):
 ∃X',Bp s 1 (X.called 2 ⟨if wr then 119 else 114,d,g,vl⟩) X'∧Bn s X' d (c+1) false (m+1) (fun r=>if wr=true∧r=g then vl else v r)∧
  X'.ev=X.ev++[CJ 2 ⟨if wr then 119 else 114,d,g,vl⟩,evDel X.hx.posted d (v g),Bm 2 ⟨if wr then 119 else 114,d,g,vl⟩ 0 (v g)]:=by
 have evl:=h.ev;have nl:=h.n;have pl:=h.posted;obtain⟨o0,o1,o2⟩:=h.on (Nat.succ_pos c) rfl;obtain⟨w0,w2,w1⟩:=JB hs hd;obtain⟨X',r,q⟩:=Qg hs (.inr (.inr rfl)) h.rest ⟨if wr then 119 else 114,d,g,vl⟩ wr rfl hd hg h.asl (by rw [h.hand];omega) pl.1 (by omega) (by omega) (by rw [o0];exact w0) (o2 _ w2) (fun i hi sw=>by rw [o1];exact w1 i hi sw);refine⟨X',r,⟨by have:=q.rest;rw [q.wd];exact this,fun i hi=>by rw [q.cnt];exact h.cnt i hi,by rw [q.h];exact h.hand,by rw [q.asl];exact h.asl,fun a b=>by rw [q.wd];exact h.on a b,fun a=>by rw [q.wd];exact h.off a,by rw [q.ev,CX];simp;omega,by rw [q.n];omega,by rw [q.posted];omega,fun r=>?_⟩,?_⟩
 . rw [q.val d hd r,h.val r];by_cases e:wr=true∧r=g
   . rw [if_pos ⟨e.1,rfl,e.2⟩,if_pos e]
   . rw [if_neg e,if_neg (fun a=>e ⟨a.1,a.2.2⟩)]
 . rw [q.ev];show X.ev++[_,evDel _ d (X.hx.val s d g),Bm 2 _ 0 (X.hx.val s d g)]=_;rw [h.val g]
theorem QB (hs:s.Ok) (hd:d<s.nv) (fb fc:Nat->Nat):Bn s (St.new s fb fc) d 0 false 0 (fun r=>((s.dv d).reg r).reset) where
 rest:=⟨fun u _=>⟨rfl,rfl⟩,rfl,rfl,rfl,rfl,Nat.zero_le _,al11_ _,rfl,rfl,⟨fun _ _ _ _=>rfl,fun _ _=>rfl⟩,
  ⟨fun i hi=>⟨rfl,rfl,rfl,rfl,rfl,rfl,fun _=>rfl,by
   show(if(s.ck i).kind=112 then(s.ck i).lock else 0)=Lf s (fun _=>false) i;unfold Lf;by_cases e:(s.ck i).kind=112
   . rw [if_pos e,if_pos ⟨e,rfl⟩]
   . rw [if_neg e,if_neg (fun a=>e a.1)]⟩,fun j hj h=>(by cases h),fun i hi=>⟨rfl,rfl,rfl,⟨Int.le_refl _,by show(0:Int)<=3;omega⟩,fun h=>(by cases h),fun _=> .inl rfl⟩,fun i hi=>⟨rfl,rfl,rfl⟩,fun j hj=> .inl rfl,fun j hj=>rfl,fun j hj=>rfl⟩⟩
 cnt i hi:=by show 0=_;split <;> rfl
 hand:=rfl
 asl:=rfl
 on h:=absurd h (DE _)
 off _:=⟨fun _=>rfl,fun _=>rfl⟩
 ev:=al11_ _
 n:=al11_ _
 posted:=⟨Int.le_refl _,Int.le_refl _⟩
 val r:=rfl
end
section
variable {s:AE} {X X':St}
theorem IB.quiet (h:IB s X cw):((X.rm.tk 0).st=0∧(X.rm.tk 1).st=0∧(X.rm.tk 2).st=0)∧X.fm.at_<0:=
 ⟨⟨(h.rest 0 (.inl rfl)).st,(h.rest 1 (.inr (.inl rfl))).st,(h.rest 2 (.inr (.inr rfl))).st⟩,by rw [h.at_];omega⟩
theorem EM (hs:s.Ok) (t:Nat) (ht:T3 t) (h0:(X.rm.tk t).st=0) (c:Cl) (hk:JA c.kind) (k281:k<=281) (R:Bp s k (X.called t c) X') (re:IB s X' cw) {E:List Ev} {x:Int} (hev:X'.ev=E++[Bm t c 0 x]) (hn:E.length<=990):
 Ez s 8 (fun B=> #[.pointer B.W, .int .i64 t,c.V]) (.bool true) X X':=by
 intro w lab B h;obtain⟨bx,hbx⟩:=ex w.heap.size;have HA:=Ae (And.intro ht (And.intro h0 hk));have HS:=Ae hs;have H:=Ae h;have HR:=Ae R;have RE:=Ae re;have HEV:=Ae hev;obtain⟨bd,hbd⟩:∃bd:Int,10+200*((s.nd+s.nc+s.nr:Nat):Int)=bd:=⟨_,rfl⟩;have HBD:=Ae hbd.symm;have bd1:600<bd:=by have:=hs.c1;have:=hs.d1;have:=hs.r1;omega
 have bd2:bd<100000:=by have:=hs.c2;have:=hs.d2;have:=hs.r2;omega
 have N3:AG (s.nd<=1000∧s.nc<=1000∧s.nr<=1000):=⟨by have:=hs.c2;have:=hs.d2;have:=hs.r2;omega⟩;obtain⟨n,hN⟩:=ex E.length;rw [hN] at hn;have HNN:=Ae hN;clear h hs ht h0 hk R re hev hbd hN;go_in;go_wp2_with fail;have kb:=(nr w).alloc (.cells #[.int .u8 c.kind, .int .i64 c.dev, .int .i64 c.reg, .int .u32 c.val] 43);have bb:=AF.new w [.int .u8 c.kind, .int .i64 c.dev, .int .i64 c.reg, .int .u32 c.val] 43;obtain⟨W1,hW1⟩:=ex (w.alloc (.cells #[.int .u8 c.kind, .int .i64 c.dev, .int .i64 c.reg, .int .u32 c.val] 43));have hW1':w.alloc (.cells [.int .u8 c.kind, .int .i64 c.dev, .int .i64 c.reg, .int .u32 c.val].toArray 43)=W1:=hW1;rw [hW1',hbx] at bb;rw [hW1] at kb;rw [hW1];clear hW1 hW1';have T1:=Ae (H.out.turn_new kb);clear kb bb hbx;refine((UD t HA.out.1 HA.out.2.1 c HA.out.2.2).next T1.out rfl).mono ?_;rintro e w2 ⟨rfl,lab2,B2,T2⟩;have T2:=Ae T2;go_wp2_with fail;refine((PG bd HBD.out N3.out).next T2.out (by rw [T2.out.b.W])).mono ?_;rintro e w3 ⟨rfl,lab3,B3,T3⟩;have T3':=Ae T3;clear T3;go_wp2;go_loopw [8] (fun i wr=>∃j:Nat,j<=k∧i= .int .i64 j∧∃Y lab1 B1,Cs w lab s B Y wr lab1 B1∧Bp s (k - j) Y X') (fun i _=>k - (intOf i).toNat);case atStart=>exact⟨0,by omega,rfl,_,_,_,T3'.out,HR.out⟩
 case round=>
  obtain⟨j,hj,rfl,Y,lab1,B1,TY,RY⟩:=hrel;have TY:=Ae TY;have hc:(j:Int)<bd:=by omega
  obtain⟨m,hm⟩:=ex (k - j);rw [hm] at RY
  cases RY with
  | zero X=>
   have idle:=(EJ true (by rw [decide_eq_true RE.out.quiet])).next TY.out (by rw [TY.out.b.W]);have ID:=Ae idle;clear idle;go_wp2_with fail;refine ID.out.mono ?_;rintro e w4 ⟨rfl,lab4,B4,T4⟩;have T4:=Ae T4;go_wp2_with fail;have hl:X'.ev.length=n+1:=by rw [HEV.out,CX,HNN.out];rfl
   have hev':X'.ev[n]?=some (Bm t c 0 x):=by rw [HEV.out,ME (by rw [HNN.out];exact al11_ _),HNN.out,Nat.sub_self];rfl
   have EV:=Ae (GM T4.out.h (by omega));rw [T4.out.b.W] at EV;have HL:=Ae hl;have HE':=Ae hev';clear hl hev';refine EV.out.mono ?_;rintro e w5 ⟨k5,a,cp,rfl,row⟩;obtain⟨g,rfl,hg,row⟩:=row (by intro e;have:=HL.out;rw [e] at this;simp at this);have T5:=Ae (T4.out.trans (T4.out.h.turn_new k5));have IDL:AG (Calls prog 16 #[.pointer B.W] w5 (WP w5 lab4 s B4 X' (.bool true))):=⟨by rw [<-T5.out.b.W];exact(EJ (X:=X') true (by rw [decide_eq_true RE.out.quiet])) w5 lab4 B4 T5.out.h⟩;have LG:AG (lab4 g= .obj 0):=⟨T4.out.h.fr g hg⟩;have RW:=Ae row;rw [HL.out];clear row hg k5;have hn0:(0:Int)<((n+1:Nat):Int):=by omega
   have hn1:((n+1:Nat):Int) - 1=(n:Int):=by omega
   go_wp2_with fail;refine IDL.out.mono ?_;rintro e w6 ⟨rfl,lab6,B6,T6⟩;have row:=RW.out.keep T6.k fun c=>by have c:(lab4 g).mut=true:=c;rw [LG.out] at c;cases c
   have r0:w6.cell? (g (n*14))=some (.int .u8 101):=by rw [row.cell (i:=n*14) (by rw [HL.out];omega)];exact Oc HE'.out 0 (by omega)
   have r6:w6.cell? (g (n*14+6))=some (.int .i64 0):=by rw [row.cell (i:=n*14+6) (by rw [HL.out];omega)];exact Oc HE'.out 6 (by omega)
   have T6':=Ae (T5.out.trans T6);clear row T6;go_wp2;go_ret
   exact⟨rfl,lab6,B6,T6'.out⟩
  | @succ m' _ Y1 _ bz gr ry=>
   obtain⟨u,hu,bz⟩:=bz;have busy:=(EJ false (X:=Y) (Eq.symm (decide_eq_false (by
    rintro⟨⟨q0,q1,q2⟩, -⟩;rcases hu with rfl | rfl | rfl
    . exact bz q0
    . exact bz q1
    . exact bz q2)))).next TY.out (by rw [TY.out.b.W])
   have ID:=Ae busy;have GR:=Ae gr;have RY:=Ae ry;have hjk:j+1<=k:=by omega
   have hm2:k - (j+1)=m':=by omega
   clear busy bz gr ry hm;go_wp2_with fail;refine ID.out.mono ?_;rintro e w4 ⟨rfl,lab4,B4,T4⟩;have T4:=Ae T4;go_wp2_with fail;refine(GR.out.next T4.out (by rw [T4.out.b.W])).mono ?_;rintro e w5 ⟨rfl,lab5,B5,T5⟩;have T5:=Ae T5;go_wp2;go_roundw;case rel=>exact⟨j+1,hjk,by go_num,Y1,lab5,B5,T5.out,by rw [hm2];exact RY.out⟩
   case measure=>simp [intOf];omega
end
abbrev Hy (s:AE) (t:Nat) (c:Cl) (X X':St):Prop:=Ez s 8 (fun B=> #[.pointer B.W, .int .i64 t,c.V]) (.bool true) X X'
theorem Ho:l++[a,b]=(l++[a])++[b]:=by rw [List.append_assoc];rfl
theorem IT {c:Ev}:l++[a,b,c]=(l++[a,b])++[c]:=by rw [List.append_assoc];rfl
section
variable {s:AE} {X:St} {d m:Nat} {v:Nat->Int}
theorem Nw (hs:s.Ok) (hd:d<s.nv) (h:Bn s X d c false m v) (hm:m<=300) (hc:c<=5):∃X',Hy s 2 ⟨103,d,0,0⟩ X X'∧Bn s X' d (c+1) false (m+1) v:=by
 obtain⟨k,X',hk,r,h',ev⟩:=h.get hs hd hm hc (EO hs);have e:=h.ev;exact⟨X',EM hs 2 (.inr (.inr rfl)) (h.rest.rest 2 (.inr (.inr rfl))).st _ (.inl rfl) hk r h'.rest (by rw [ev,Ho]) (by rw [CX];simp;omega),h'⟩
theorem Te (hs:s.Ok) (hd:d<s.nv) (h:Bn s X d (c+1) false m v) (hm:m<=300) (hc:c<=5):∃X',Hy s 2 ⟨112,d,0,0⟩ X X'∧Bn s X' d c false (m+1) (fun r=>if c=0 then Ds s d r (v r) else v r):=by
 obtain⟨k,X',hk,r,h',ev⟩:=h.put hs hd hm hc (EO hs);have e:=h.ev;exact⟨X',EM hs 2 (.inr (.inr rfl)) (h.rest.rest 2 (.inr (.inr rfl))).st _ (.inr (.inl rfl)) hk r h'.rest (by rw [ev,Ho]) (by rw [CX];simp;omega),h'⟩
theorem P9 (hs:s.Ok) (hd:d<s.nv) (h:Bn s X d 1 false m v) (hm:m<=300):∃X',Hy s 1 ⟨115,0,0,0⟩ X X'∧Bn s X' d 1 true (m+1) (fun r=>Ds s d r (v r)):=by
 obtain⟨k,X',hk,r,h',ev⟩:=h.suspend hs hd hm (EO hs);have e:=h.ev;exact⟨X',EM hs 1 (.inr (.inl rfl)) (h.rest.rest 1 (.inr (.inl rfl))).st _ (.inr (.inr (.inr (.inr (.inl rfl))))) hk r h'.rest (by rw [ev,Ho]) (by rw [CX];simp;omega),h'⟩
theorem Ri (hs:s.Ok) (hd:d<s.nv) (h:Bn s X d 1 true m v) (hm:m<=300):∃X',Hy s 0 ⟨109,0,0,0⟩ X X'∧Bn s X' d 1 false (m+1) v:=by
 obtain⟨k,X',hk,r,h',ev⟩:=h.resume hs hd hm (EO hs);have e:=h.ev;exact⟨X',EM hs 0 (.inl rfl) (h.rest.rest 0 (.inl rfl)).st _ (.inr (.inr (.inr (.inr (.inr rfl))))) hk r h'.rest (by rw [ev,Ho]) (by rw [CX];simp;omega),h'⟩
theorem Um (hs:s.Ok) (hd:d<s.nv) (h:Bn s X d (c+1) false m v) (hm:m<=300) (g:Nat) (hg:g<(s.dv d).nreg) (vl:Int):∃X',Hy s 2 ⟨119,d,g,vl⟩ X X'∧Bn s X' d (c+1) false (m+1) (fun r=>if r=g then vl else v r):=by
 obtain⟨X',r,h',ev⟩:=h.access hs hd hm true g hg vl;have e:=h.ev;refine⟨X',EM hs 2 (.inr (.inr rfl)) (h.rest.rest 2 (.inr (.inr rfl))).st _ (.inr (.inr (.inr (.inl rfl)))) (k:=1) (by omega) r h'.rest (by rw [ev,IT];rfl) (by rw [CX];simp;omega),?_⟩
 rwa [show(fun r=>if true=true∧r=g then vl else v r)=fun r=>if r=g then vl else v r from by funext r;by_cases e:r=g <;> simp [e]] at h'
theorem XI (hs:s.Ok) (hd:d<s.nv) (h:Bn s X d (c+1) false m v) (hm:m<=300) (g:Nat) (hg:g<(s.dv d).nreg):∃X' E,Hy s 2 ⟨114,d,g,0⟩ X X'∧Bn s X' d (c+1) false (m+1) v∧X'.ev=E++[Bm 2 ⟨114,d,g,0⟩ 0 (v g)]:=by
 obtain⟨X',r,h',ev⟩:=h.access hs hd hm false g hg 0;have e:=h.ev;refine⟨X',_,EM hs 2 (.inr (.inr rfl)) (h.rest.rest 2 (.inr (.inr rfl))).st _ (.inr (.inr (.inl rfl))) (k:=1) (by omega) r h'.rest (by rw [ev,IT];rfl) (by rw [CX];simp;omega),?_,by rw [ev,IT];rfl⟩
 rwa [show(fun r=>if false=true∧r=g then 0 else v r)=v from by funext r;simp] at h'
end
structure Trn (w:World) (lab:Nat->Lb) (s:AE) (B:Wb) (nb:Nat) (X':St) (w':World) (lab':Nat->Lb) (B':Wb):Prop where
 k:AD (fun j=>(lab j).mut=true∨j=nb) w w'
 e:∀j,j<w.heap.size->lab' j=lab j
 b:Jj B B'
 h:AN w' lab' s B' X'
section
variable {w w' w2:World} {lab lab' lab2:Nat->Lb} {s:AE} {B B' B2:Wb} {X X' X2:St} {nb:Nat}
theorem AN.adopt (h:AN w lab s B X) (k:AJ w w') (e:∀j,j<w.heap.size->lab' j=lab j) (fr:∀j,w'.heap.size<=j->lab' j= .obj 0):AN w' lab' s B X:=
 ⟨(h.hard.relab e).new k,(h.firm.relab e).new k,(h.rpm.relab e).new k,(h.cnt.relab e).new k,h.wd.keep k id,⟨AW h.ev.own k (fun _ _=>id),fun j hj=>(e j (h.ev_lt hj)).trans (h.ev.lab j hj)⟩,(e _ h.wd.lt).trans h.lW,fr,h.le.keep k id,(e 1 h.l1_lt).trans h.l1,(h.q.relab e).keep k fun _ _=>id⟩
theorem Trn.refl (h:AN w lab s B X):Trn w lab s B nb X w lab B:=⟨kx_,fun _ _=>rfl, .refl B,h⟩
theorem Trn.turn (h:Trn w lab s B nb X w' lab' B') (k:Cs w' lab' s B' X2 w2 lab2 B2):Trn w lab s B nb X2 w2 lab2 B2:=
 ⟨h.k.trans k.k fun j hj c=>by have c:(lab' j).mut=true:=c;rw [h.e j hj] at c;exact .inl c,
  fun j hj=>(k.e j (Bo hj h.k.size)).trans (h.e j hj),h.b.trans k.b,k.h⟩
theorem Trn.new (h:Trn w lab s B nb X w' lab' B') (k:AJ w' w2):Trn w lab s B nb X w2 lab' B':=h.turn (h.h.turn_new k)
theorem Trn.next {f:Nat} {args:Wb->Array Value} (g:Ez s f args v X X') (T:Trn w lab s B nb X w' lab' B') {A:Array Value} (hA:args B'=A):
 Calls prog f A w' fun e w2=>e= .returned v∧∃lab2 B2,Trn w lab s B nb X' w2 lab2 B2:=by
 subst hA;refine(g _ _ _ T.h).mono ?_;rintro e w2 ⟨rfl,lab2,B2,T2⟩;exact⟨rfl,lab2,B2,T.turn T2⟩
theorem Trn.store (T:Trn w lab s B nb X w' lab' B') (h20:lab nb= .obj 20) (lt:nb<w.heap.size) (i:Nat) (v:Value):Trn w lab s B nb X (w'.setCell (nb i) v) lab' B':=by
 have l':=(T.e nb lt).trans h20;have k1:AD (SL lab' fun q=>decide (q= .obj 20)) w' (w'.setCell (nb i) v):=(keeps_set v).mono fun j e=>by rw [show j=nb from e];show decide (lab' nb= .obj 20)=true;rw [l'];rfl
 have e0:∀j,j<w'.heap.size->lab' j=lab' j:=fun _ _=>rfl;refine⟨T.k.trans (keeps_set v) fun j _ e=> .inr e,T.e,T.b,?_⟩;have h:=T.h;refine⟨h.hard_k e0 k1 fun q hq=>?_,h.firm_k e0 k1 rfl rfl,h.rpm_k e0 k1 rfl rfl,h.cnt_k e0 k1 rfl rfl rfl,h.wd_k k1 rfl,h.ev_k e0 k1 rfl,h.lW,h.fr_k k1,h.le_k k1 rfl,h.l1,h.q_k e0 k1 rfl⟩
 cases q with
 | obj k=>simp [Lb.isHard] at hq ⊢;omega
 | sub k i=>rfl
end
def Qu (k:IntKind) (w:World) (a:Option Addr) (len cap:Nat) (zs:List Int):Prop:=
 (a=none∧len=0∧cap=0∧zs=[])∨
 ∃x,a=some x∧len<=cap∧cap<=maxLen∧zs.length=cap∧(∀i,i<zs.length->w.cell? (x.add i)=some (.int k (zs.getD i 0)))∧(∀n ∈ zs,(Lit.int k n).wf=true)∧∀i,i<zs.length->(x.add i).block<w.heap.size
structure IN (k:IntKind) (w:World) (a:Option Addr) (n:Nat) (z:Nat->Int):Prop where
 c:n≠0->∃b off,a=some ⟨b,off,none⟩∧b<w.heap.size∧∀j,j<n->w.cell? ⟨b,off+j,none⟩=some (.int k (z j))
 wf:∀j,j<n->(Lit.int k (z j)).wf=true
theorem JM {k:IntKind} {a:Option Addr} {len cap:Nat} {z:List Int} (h:Qu k w a len cap z):IN k w a len (fun j=>z.getD j 0):=by
 rcases h with⟨rfl,rfl,rfl,rfl⟩ | ⟨x,rfl,h1,h2,h3,h4,h5,h6⟩
 . exact⟨fun h=>absurd rfl h,fun j hj=>by omega⟩
 . refine⟨fun hl=>?_,fun j hj=>h5 _ (by rw [List.getD_eq_getElem?_getD,List.getElem?_eq_getElem (by omega)];exact List.getElem_mem _)⟩;obtain⟨b,off,spot⟩:=x;have hc:=h4 0 (by omega);have hspot:spot=none:=by simpa [Addr.add] using World.cell?_spot hc
   subst hspot;refine⟨b,off,rfl,by simpa [Addr.add] using h6 0 (by omega),fun j hj=>?_⟩;have:=h4 j (by omega);unfold Addr.add at this;by_cases c:j=0
   . subst c;simpa using this
   . simpa [c] using this
theorem IN.keep {k:IntKind} {a:Option Addr} {z:Nat->Int} (h:IN k w a n z) (q:AD S w w') (hS:∀j,j<w.heap.size->¬S j):IN k w' a n z:=
 ⟨fun hn=>by
  obtain⟨b,off,e,lt,c⟩:=h.c hn;exact⟨b,off,e,Bo lt q.size,fun j hj=>(q.cell (p:=(b (off+j))) lt (hS b lt)).trans (c j hj)⟩,h.wf⟩
def ChipP (w:World) (e:Ending) (w':World):Prop:=∃s v,s.Ok∧e= .returned (Kv s v)∧AJ w w'∧A6 w' v s
structure Ec (w wx:World) (DB RB:Nat) (D:Nat->Nat):Prop where
 lt:∀i,D i<1000000
 row:Row wx DB 3 120 (fun i=> .int .i64 (D i:Int))
 new:AJ w wx
 r:AF wx RB 30 [.slice none 0 0, .slice none 0 0, .slice none 0 0, .slice none 0 0]
 ge:w.heap.size<=DB∧w.heap.size<=RB
theorem Ec.keep {wy:World} {DB RB:Nat} {D:Nat->Nat} (h:Ec w wx DB RB D) (k:AD S wx wy) (h1:¬S DB) (h2:¬S RB) (h3:∀j,j<w.heap.size->¬S j):Ec w wy DB RB D:=
 ⟨h.lt,h.row.keep k h1,h.new.trans k fun j hj e=>h3 j hj e,h.r.keep k h2,h.ge⟩
def Tch (w:World) (B SB:Nat) (t:TypeId) (b:Nat):Prop:=B<=b∧(b=SB∨∃c,w.heap[b]?=some (.cells c t (0,0)))
theorem Dx {b:Nat} (h:Al w b u K n f) (k:AD (Tch w B SB t) w w') (h1:u≠t) (h2:b≠SB):Al w' b u K n f:=h.keep k fun c=>by
 rcases c.2 with e | ⟨c,hc⟩
 . exact h2 e
 . obtain⟨c',h',_⟩:=h;rw [hc] at h';injection h' with h';injection h' with _ h';exact h1 h'.symm
theorem Ch (h:w.ownsRow base u K v n xs) (k:AD (Tch w B SB t) w w') (h1:u≠t) (bx:AF w SB 30 ys) (h2:u≠30):w'.ownsRow base u K v n xs:=AW h k fun b hb c=>by
 rcases h.2 with⟨hv,_⟩ | ⟨g,_,cur,hv,_,hg,_⟩
 . subst hv;cases hb
 . subst hv;injection hb with hb;subst hb;rcases c.2 with e | ⟨c,hc⟩
   . subst e;unfold AF at bx;rw [hg] at bx;injection bx with bx;injection bx with _ bx;exact h2 bx
   . rw [hc] at hg;injection hg with hg;injection hg with _ hg;exact h1 hg.symm
theorem Bq {b:Nat} (h:Al w b u K n f) (bx:AF w SB 30 ys) (h2:u≠30):b≠SB:=fun e=>by
 subst e;obtain⟨c',h',_⟩:=h;unfold AF at bx;rw [h'] at bx;injection bx with bx;injection bx with _ bx;exact h2 bx
theorem Np (x m:Nat) (h:0<m):∃r:Nat,(x:Int).tmod (m:Int)=r∧r<m:=⟨x % m,by rw [Hj (by omega)];rfl,Nat.mod_lt _ h⟩
theorem td_ (x m:Nat) (h:x<1000000):∃r:Nat,(x:Int).tdiv (m:Int)=r∧r<1000000∧IntKind.i64.wrap (r:Int)=r:=by
 obtain⟨r,hr⟩:=ex (x / m);have:=Nat.div_le_self x m;exact⟨r,by rw [Int.tdiv_eq_ediv_of_nonneg (by omega), <-hr];rfl,by omega,A8 (by omega)⟩
structure Fj (Y wx:World) (q cl dm ln:Nat) (cp:Int) (k j n:Nat) (vg vq:Value) (reg:Nat->Rg) (need:Nat->Nat):Prop where
 new:AJ Y wx
 lt:∀i,i<n->need i<k
 b:AF wx q 40 [.int .i64 cl, .int .i64 dm, .int .i64 ln, .int .u32 cp,vg,vq]
 og:wx.ownsRow Y.heap.size 45 2 vg j (Av j 2 (fun i=>Ed (reg i)))
 oq:wx.ownsRow Y.heap.size 3 1 vq n (Av n 1 (fun i _=> .int .i64 (need i:Int)))
 eg:j=0->vg= .slice none 0 0
 eq:n=0->vq= .slice none 0 0
def DV (Y wx:World) (q cl dm ln:Nat) (cp:Int) (k j m:Nat):Prop:=∃ (vg vq:Value) (n:Nat) (reg:Nat->Rg) (need:Nat->Nat),n<=m∧Fj Y wx q cl dm ln cp k j n vg vq reg need
theorem OH (o:w.ownsRow base e K v n xs):∀b,v.ownBlock=some b->∃c,w.heap[b]?=some (.cells c e (0,0)):=fun b hb=>by
 rcases o.2 with⟨hv,_⟩ | ⟨g,_,cur,hv,_,hg,_⟩
 . subst hv;cases hb
 . subst hv;injection hb with hb;subst hb;exact⟨cur,hg⟩
theorem JE (o:w.ownsRow base e K v n xs) (b:AF w q t ys) (h:t≠e):v.ownBlock≠some q:=fun hb=>by
 obtain⟨c,hc⟩:=OH o q hb;unfold AF at b;rw [hc] at b;injection b with b;injection b with _ b;exact h b.symm
theorem NF {base' e' K':Nat} {xs':List Value} (o:w.ownsRow base e K v n xs) (o':w.ownsRow base' e' K' v' n' xs') (h:e≠e'):∀b,v.ownBlock=some b->¬v'.ownBlock=some b:=fun b h1 h2=>by
 obtain⟨c,hc⟩:=OH o b h1;obtain⟨c',hc'⟩:=OH o' b h2;rw [hc] at hc';injection hc' with hc';injection hc' with _ hc';exact h hc'
namespace Fj
variable {Y W W':World} {q cl dm ln:Nat} {cp:Int} {k j n:Nat} {vg vq:Value} {reg:Nat->Rg} {need:Nat->Nat}
theorem go (h:Fj Y W q cl dm ln cp k j n vg vq reg need) (x:AJ W W'):Fj Y W' q cl dm ln cp k j n vg vq reg need:=
 ⟨h.new.then_ x,h.lt,h.b.keep x id,AW h.og x fun _ _=>id,AW h.oq x fun _ _=>id,h.eg,h.eq⟩
theorem boxg (h:Fj Y W q cl dm ln cp k j n vg vq reg need) (x:AD (fun b=>vg.ownBlock=some b) W W'):AF W' q 40 [.int .i64 cl, .int .i64 dm, .int .i64 ln, .int .u32 cp,vg,vq]:=
 h.b.keep x fun e=>JE h.og h.b (by decide) e
theorem boxq (h:Fj Y W q cl dm ln cp k j n vg vq reg need) (x:AD (fun b=>vq.ownBlock=some b) W W'):AF W' q 40 [.int .i64 cl, .int .i64 dm, .int .i64 ln, .int .u32 cp,vg,vq]:=
 h.b.keep x fun e=>JE h.oq h.b (by decide) e
theorem reg1 (h:Fj Y W q cl dm ln cp k j n vg vq reg need) (x:AD (fun b=>vg.ownBlock=some b) W W') (hq:Y.heap.size<=q) {v:Value} {r:Rg} (o:W'.ownsRow Y.heap.size 45 2 v (j+1) (Av j 2 (fun i=>Ed (reg i))++[.int .u32 r.reset, .bool r.ret])):
 Fj Y (W'.setCell (q 4) v) q cl dm ln cp k (j+1) n v vq (upd reg j r) need where
 new:=(h.new.trans x fun b hb e=>absurd (h.og.lt b e).1 (by omega)).trans (keeps_set v) fun b hb e=>by rw [show b=q from e] at hb;omega
 lt:=h.lt
 b:=(h.boxg x).set 4 v
 og:=by
  have e:Av j 2 (fun i=>Ed (upd reg j r i))=Av j 2 (fun i=>Ed (reg i)):=Cx fun i _ hi _=>by rw [uo_ (by omega)]
  rw [BM,e];refine AW (by simpa [List.range_succ,Ed,upd_same] using o) (keeps_set v) fun b hb c=>?_;rw [show b=q from c] at hb;exact JE o (h.boxg x) (by decide) hb
 oq:=AW (AW h.oq x fun b hb c=>NF h.oq h.og (by decide) b hb c) (keeps_set v) fun b hb c=>by rw [show b=q from c] at hb;exact JE h.oq h.b (by decide) hb
 eg:=fun e=>by omega
 eq:=h.eq
theorem need1 (h:Fj Y W q cl dm ln cp k j n vg vq reg need) (x:AD (fun b=>vq.ownBlock=some b) W W') (hq:Y.heap.size<=q) {v:Value} {r:Nat} (hr:r<k) (o:W'.ownsRow Y.heap.size 3 1 v (n+1) (Av n 1 (fun i _=> .int .i64 (need i:Int))++[.int .i64 r])):
 Fj Y (W'.setCell (q 5) v) q cl dm ln cp k j (n+1) vg v reg (upd need n r) where
 new:=(h.new.trans x fun b hb e=>absurd (h.oq.lt b e).1 (by omega)).trans (keeps_set v) fun b hb e=>by rw [show b=q from e] at hb;omega
 lt:=fun i hi=>by
  by_cases e:i=n
  . subst e;rw [upd_same];exact hr
  . rw [uo_ e];exact h.lt i (by omega)
 b:=(h.boxq x).set 5 v
 oq:=by
  have e:Av n 1 (fun i _=> .int .i64 ((upd need n r i:Nat):Int))=Av n 1 (fun i _=> .int .i64 (need i:Int)):=Cx fun i _ hi _=>by rw [uo_ (by omega)]
  rw [BM,e];refine AW (by simpa [List.range_succ,upd_same] using o) (keeps_set v) fun b hb c=>?_;rw [show b=q from c] at hb;exact JE o (h.boxq x) (by decide) hb
 og:=AW (AW h.og x fun b hb c=>NF h.og h.oq (by decide) b hb c) (keeps_set v) fun b hb c=>by rw [show b=q from c] at hb;exact JE h.og h.b (by decide) hb
 eq:=fun e=>by omega
 eg:=h.eg
end Fj
theorem Xf (h:w.ownsRow base e K v m (Av m K f)) (hn:m=0->v= .slice none 0 0):∃b c,v=Aa b m c∧(0<m->Al w b e K m f):=by
 obtain⟨a,c,rfl⟩:=AI h;obtain⟨b,h1,h2⟩:=Fa h fun e=>by have:=hn e;injection this
 exact⟨b,c,h1,fun hm=>(h2 hm).1⟩
theorem DV.box {Y:World} {cl dm ln:Nat} {cp:Int} {j:Nat} (h:DV Y wx q cl dm ln cp k j m):AJ Y wx∧∃ (c:Dv) (gb gc qb qc:Nat),c.clock=cl∧c.dom=dm∧c.line=ln∧c.nreg=j∧c.nneed<=m∧(∀i,i<c.nneed->c.need i<k)∧
 AF wx q 40 [.int .i64 c.clock, .int .i64 c.dom, .int .i64 c.line, .int .u32 c.clamp,Aa gb c.nreg gc,Aa qb c.nneed qc]∧(0<c.nreg->Al wx gb 45 2 c.nreg (fun j=>Ed (c.reg j)))∧(0<c.nneed->Al wx qb 3 1 c.nneed (fun j _=> .int .i64 (c.need j:Int))):=by
 obtain⟨vg,vq,n,reg,need,hn,N,hl,b,og,oq,eg,eq⟩:=h;obtain⟨gb,gc,rfl,rg⟩:=Xf og eg;obtain⟨qb,qc,rfl,rq⟩:=Xf oq eq;exact⟨N,⟨cl,dm,ln,cp,j,reg,n,need⟩,gb,gc,qb,qc,rfl,rfl,rfl,rfl,hn,hl,b,rg,rq⟩
structure Mk (w wx:World) (RB:Nat) (D:Nat->Nat) (SB:Nat) (s:AE) (l:Bx) (vc vd vr vv:Value):Prop where
 d:Ec w wx (RB+1) RB D
 sb:RB+2<=SB
 box:AF wx SB 30 [vc,vd,vr,vv]
 c:wx.ownsRow (RB+2) 62 6 vc s.nc (Av s.nc 6 (fun i=>Cf (s.ck i) (l.fb i) (l.fc i)))
 dm:wx.ownsRow (RB+2) 47 3 vd s.nd (Av s.nd 3 (fun i=>D8 (s.dm i)))
 rs:wx.ownsRow (RB+2) 64 1 vr s.nr (Av s.nr 1 (fun i _=> .int .i64 (s.rs i)))
 dv:wx.ownsRow (RB+2) 40 6 vv s.nv (Av s.nv 6 (fun i=>CR (s.dv i) (l.gb i) (l.gc i) (l.qb i) (l.qc i)))
 src:∀i,i<s.nc->0<(s.ck i).m->Al wx (l.fb i) 3 1 (s.ck i).m (fun j _=> .int .i64 ((s.ck i).src j:Int))
 reg:∀i,i<s.nv->0<(s.dv i).nreg->Al wx (l.gb i) 45 2 (s.dv i).nreg (fun j=>Ed ((s.dv i).reg j))
 need:∀i,i<s.nv->0<(s.dv i).nneed->Al wx (l.qb i) 3 1 (s.dv i).nneed (fun j _=> .int .i64 ((s.dv i).need j:Int))
 ckOk:∀i,i<s.nc->(s.ck i).Ok i
 dmOk:∀i,i<s.nd->(s.dm i).Ok i
 rsOk:∀i,i<s.nr->0<=s.rs i∧s.rs i<=3
 dvOk:∀i,i<s.nv->(s.dv i).clock<s.nc∧(s.dv i).dom<s.nd∧(s.dv i).line<s.nr∧(s.dv i).nreg<=4∧(s.dv i).nneed<=2∧∀j,j<(s.dv i).nneed->(s.dv i).need j<i
namespace Mk
variable {w wx wy:World} {RB SB:Nat} {D:Nat->Nat} {s:AE} {l:Bx} {vc vd vr vv:Value}
theorem new (h:Mk w wx RB D SB s l vc vd vr vv) (k:AJ wx wy):Mk w wy RB D SB s l vc vd vr vv:=
 ⟨h.d.keep k id id fun _ _=>id,h.sb,h.box.keep k id,AW h.c k fun _ _=>id,AW h.dm k fun _ _=>id,AW h.rs k fun _ _=>id,AW h.dv k fun _ _=>id,
  fun i hi hm=>(h.src i hi hm).keep k id,fun i hi hm=>(h.reg i hi hm).keep k id,fun i hi hm=>(h.need i hi hm).keep k id,h.ckOk,h.dmOk,h.rsOk,h.dvOk⟩
theorem dr (h:Mk w wx RB D SB s l vc vd vr vv) {t:TypeId} (k:AD (Tch wx (RB+2) SB t) wx wy):Ec w wy (RB+1) RB D:=
 h.d.keep k (fun c=>by have:=c.1;omega) (fun c=>by have:=c.1;omega) fun j hj c=>by have:=c.1;have:=h.d.ge;omega
theorem clock (h:Mk w wx RB D SB s l vc vd vr vv) (k:AD (Tch wx (RB+2) SB 62) wx wy) {vc':Value} (bx:AF wy SB 30 [vc',vd,vr,vv]) (c:Ck) (fb fc:Nat)
 (o:wy.ownsRow (RB+2) 62 6 vc' (s.nc+1) (Av s.nc 6 (fun i=>Cf (s.ck i) (l.fb i) (l.fc i))++[.int .u8 c.kind,Aa fb c.m fc, .int .u64 c.rate, .int .i64 c.mul, .int .i64 c.div, .int .i64 c.lock]))
 (ok:c.Ok s.nc) (hs:0<c.m->Al wy fb 3 1 c.m (fun j _=> .int .i64 (c.src j:Int))) (h0:s.nv=0):
 Mk w wy RB D SB { s with nc:=s.nc+1,ck:=upd s.ck s.nc c } { l with fb:=upd l.fb s.nc fb,fc:=upd l.fc s.nc fc } vc' vd vr vv where
 d:=h.dr k
 sb:=h.sb
 box:=bx
 c:=by
  have e:Av s.nc 6 (fun i=>Cf (upd s.ck s.nc c i) (upd l.fb s.nc fb i) (upd l.fc s.nc fc i))=Av s.nc 6 (fun i=>Cf (s.ck i) (l.fb i) (l.fc i)):=Cx fun i j hi hj=>by rw [uo_ (by omega),uo_ (by omega),uo_ (by omega)]
  show wy.ownsRow (RB+2) 62 6 vc' (s.nc+1) (Av (s.nc+1) 6 _);rw [BM,e];simpa [List.range_succ,Cf,upd_same] using o
 dm:=Ch h.dm k (by decide) h.box (by decide)
 rs:=Ch h.rs k (by decide) h.box (by decide)
 dv:=Ch h.dv k (by decide) h.box (by decide)
 src:=fun i hi hm=>by
  simp only at hi hm ⊢;by_cases e:i=s.nc
  . subst e;simp only [upd_same] at hm ⊢;exact hs hm
  . simp only [uo_ e] at hm ⊢;exact Dx (h.src i (by omega) hm) k (by decide) (Bq (h.src i (by omega) hm) h.box (by decide))
 reg:=fun i hi=>by simp only at hi;omega
 need:=fun i hi=>by simp only at hi;omega
 ckOk:=fun i hi=>by
  simp only at hi ⊢;by_cases e:i=s.nc
  . subst e;rw [upd_same];exact ok
  . rw [uo_ e];exact h.ckOk i (by omega)
 dmOk:=h.dmOk
 rsOk:=h.rsOk
 dvOk:=fun i hi=>by simp only at hi;omega
theorem dom (h:Mk w wx RB D SB s l vc vd vr vv) (k:AD (Tch wx (RB+2) SB 47) wx wy) {vd':Value} (bx:AF wy SB 30 [vc,vd',vr,vv]) (c:Do)
 (o:wy.ownsRow (RB+2) 47 3 vd' (s.nd+1) (Av s.nd 3 (fun i=>D8 (s.dm i))++[.int .i64 c.above, .int .i64 c.delay, .bool c.ret]))
 (ok:c.Ok s.nd) (h0:s.nv=0):Mk w wy RB D SB { s with nd:=s.nd+1,dm:=upd s.dm s.nd c } l vc vd' vr vv where
 d:=h.dr k
 sb:=h.sb
 box:=bx
 c:=Ch h.c k (by decide) h.box (by decide)
 dm:=by
  have e:Av s.nd 3 (fun i=>D8 (upd s.dm s.nd c i))=Av s.nd 3 (fun i=>D8 (s.dm i)):=Cx fun i j hi hj=>by rw [uo_ (by omega)]
  show wy.ownsRow (RB+2) 47 3 vd' (s.nd+1) (Av (s.nd+1) 3 _);rw [BM,e];simpa [List.range_succ,D8,upd_same] using o
 rs:=Ch h.rs k (by decide) h.box (by decide)
 dv:=Ch h.dv k (by decide) h.box (by decide)
 src:=fun i hi hm=>Dx (h.src i hi hm) k (by decide) (Bq (h.src i hi hm) h.box (by decide))
 reg:=fun i hi=>by simp only at hi;omega
 need:=fun i hi=>by simp only at hi;omega
 ckOk:=h.ckOk
 dmOk:=fun i hi=>by
  simp only at hi ⊢;by_cases e:i=s.nd
  . subst e;rw [upd_same];exact ok
  . rw [uo_ e];exact h.dmOk i (by omega)
 rsOk:=h.rsOk
 dvOk:=fun i hi=>by simp only at hi;omega
theorem line (h:Mk w wx RB D SB s l vc vd vr vv) (k:AD (Tch wx (RB+2) SB 64) wx wy) {vr':Value} (bx:AF wy SB 30 [vc,vd,vr',vv]) (c:Int)
 (o:wy.ownsRow (RB+2) 64 1 vr' (s.nr+1) (Av s.nr 1 (fun i _=> .int .i64 (s.rs i))++[.int .i64 c]))
 (ok:0<=c∧c<=3) (h0:s.nv=0):Mk w wy RB D SB { s with nr:=s.nr+1,rs:=upd s.rs s.nr c } l vc vd vr' vv where
 d:=h.dr k
 sb:=h.sb
 box:=bx
 c:=Ch h.c k (by decide) h.box (by decide)
 dm:=Ch h.dm k (by decide) h.box (by decide)
 rs:=by
  have e:Av s.nr 1 (fun i _=> .int .i64 (upd s.rs s.nr c i))=Av s.nr 1 (fun i _=> .int .i64 (s.rs i)):=Cx fun i j hi hj=>by rw [uo_ (by omega)]
  show wy.ownsRow (RB+2) 64 1 vr' (s.nr+1) (Av (s.nr+1) 1 _);rw [BM,e];simpa [List.range_succ,upd_same] using o
 dv:=Ch h.dv k (by decide) h.box (by decide)
 src:=fun i hi hm=>Dx (h.src i hi hm) k (by decide) (Bq (h.src i hi hm) h.box (by decide))
 reg:=fun i hi=>by simp only at hi;omega
 need:=fun i hi=>by simp only at hi;omega
 ckOk:=h.ckOk
 dmOk:=h.dmOk
 rsOk:=fun i hi=>by
  simp only at hi ⊢;by_cases e:i=s.nr
  . subst e;rw [upd_same];exact ok
  . rw [uo_ e];exact h.rsOk i (by omega)
 dvOk:=fun i hi=>by simp only at hi;omega
theorem device (h:Mk w wx RB D SB s l vc vd vr vv) (k:AD (Tch wx (RB+2) SB 40) wx wy) {vv':Value} (bx:AF wy SB 30 [vc,vd,vr,vv']) (c:Dv) (gb gc qb qc:Nat)
 (o:wy.ownsRow (RB+2) 40 6 vv' (s.nv+1) (Av s.nv 6 (fun i=>CR (s.dv i) (l.gb i) (l.gc i) (l.qb i) (l.qc i))++[.int .i64 c.clock, .int .i64 c.dom, .int .i64 c.line, .int .u32 c.clamp,Aa gb c.nreg gc,Aa qb c.nneed qc]))
 (ok:c.clock<s.nc∧c.dom<s.nd∧c.line<s.nr∧c.nreg<=4∧c.nneed<=2∧∀j,j<c.nneed->c.need j<s.nv)
 (hg:0<c.nreg->Al wy gb 45 2 c.nreg (fun j=>Ed (c.reg j))) (hq:0<c.nneed->Al wy qb 3 1 c.nneed (fun j _=> .int .i64 (c.need j:Int))):
 Mk w wy RB D SB { s with nv:=s.nv+1,dv:=upd s.dv s.nv c } { l with gb:=upd l.gb s.nv gb,gc:=upd l.gc s.nv gc,qb:=upd l.qb s.nv qb,qc:=upd l.qc s.nv qc } vc vd vr vv' where
 d:=h.dr k
 sb:=h.sb
 box:=bx
 c:=Ch h.c k (by decide) h.box (by decide)
 dm:=Ch h.dm k (by decide) h.box (by decide)
 rs:=Ch h.rs k (by decide) h.box (by decide)
 dv:=by
  have e:Av s.nv 6 (fun i=>CR (upd s.dv s.nv c i) (upd l.gb s.nv gb i) (upd l.gc s.nv gc i) (upd l.qb s.nv qb i) (upd l.qc s.nv qc i))=Av s.nv 6 (fun i=>CR (s.dv i) (l.gb i) (l.gc i) (l.qb i) (l.qc i)):=Cx fun i j hi hj=>by rw [uo_ (by omega),uo_ (by omega),uo_ (by omega),uo_ (by omega),uo_ (by omega)]
  show wy.ownsRow (RB+2) 40 6 vv' (s.nv+1) (Av (s.nv+1) 6 _);rw [BM,e];simpa [List.range_succ,CR,upd_same] using o
 src:=fun i hi hm=>Dx (h.src i hi hm) k (by decide) (Bq (h.src i hi hm) h.box (by decide))
 reg:=fun i hi hm=>by
  simp only at hi hm ⊢;by_cases e:i=s.nv
  . subst e;simp only [upd_same] at hm ⊢;exact hg hm
  . simp only [uo_ e] at hm ⊢;exact Dx (h.reg i (by omega) hm) k (by decide) (Bq (h.reg i (by omega) hm) h.box (by decide))
 need:=fun i hi hm=>by
  simp only at hi hm ⊢;by_cases e:i=s.nv
  . subst e;simp only [upd_same] at hm ⊢;exact hq hm
  . simp only [uo_ e] at hm ⊢;exact Dx (h.need i (by omega) hm) k (by decide) (Bq (h.need i (by omega) hm) h.box (by decide))
 ckOk:=h.ckOk
 dmOk:=h.dmOk
 rsOk:=h.rsOk
 dvOk:=fun i hi=>by
  simp only at hi ⊢;by_cases e:i=s.nv
  . subst e;rw [upd_same];exact ok
  . rw [uo_ e];exact h.dvOk i (by omega)
theorem put (h:Mk w wx RB D SB s l vc vd vr vv) {zs:List Value} (o:wx.ownsRow (RB+2) e K v n xs) (k:AD (fun j=>v.ownBlock=some j) wx W3) (he:e≠30) (o':W3.ownsRow (RB+2) e K v' m zs) (i:Nat) (x:Value):
 AD (Tch wx (RB+2) SB e) wx (W3.setCell (SB i) x)∧AF (W3.setCell (SB i) x) SB 30 ([vc,vd,vr,vv].set i x)∧(W3.setCell (SB i) x).ownsRow (RB+2) e K v' m zs:=by
 have own:∀ {w:World} {v:Value} {n:Nat} {xs ys:List Value},w.ownsRow (RB+2) e K v n xs->AF w SB 30 ys->∀b,v.ownBlock=some b->b≠SB:=fun o bx b hb c=>by
  rcases o.2 with⟨hv,_⟩ | ⟨g,_,cur,hv,_,hg,_⟩
  . subst hv;cases hb
  . subst hv;injection hb with hb;subst hb;subst c;unfold AF at bx;rw [hg] at bx;injection bx with bx;injection bx with _ bx;exact he bx
 have b3:=h.box.keep k fun c=>own o h.box SB c rfl;refine⟨AD.trans (k.mono fun b hb=>?_) (keeps_set x) fun j _ e=>⟨by rw [show j=SB from e];exact h.sb, .inl e⟩,b3.set i x,AW o' (keeps_set x) fun b hb c=>own o' b3 b hb c⟩;rcases o.2 with⟨hv,_⟩ | ⟨g,_,cur,hv,hb',hg,_⟩
 . subst hv;cases hb
 . subst hv;injection hb with hb;subst hb;exact⟨hb', .inr ⟨cur,hg⟩⟩
theorem box_grown (h:Mk w wx RB D SB s l vc vd vr vv) (o:wx.ownsRow (RB+2) e K v n xs) (k:AD (fun j=>v.ownBlock=some j) wx W3) (he:e≠30):AF W3 SB 30 [vc,vd,vr,vv]:=by
 refine h.box.keep k fun c=>?_;rcases o.2 with⟨hv,_⟩ | ⟨g,_,cur,hv,_,hg,_⟩
 . subst hv;cases c
 . subst hv;injection c with c;subst c;have bx:=h.box;unfold AF at bx;rw [hg] at bx;injection bx with bx;injection bx with _ bx;exact he bx
theorem done (h:Mk w wx RB D SB s l vc vd vr vv) (c:1<=s.nc∧s.nc<=9) (d:1<=s.nd∧s.nd<=4) (r:1<=s.nr∧s.nr<=3) (v:1<=s.nv∧s.nv<=4) (hx:AJ w wx):
 ∃l',s.Ok∧Value.agg #[vc,vd,vr,vv]=Kv s l'∧A6 wx l' s:=by
 obtain⟨ac,cc,rfl⟩:=AI h.c;obtain⟨ad,cd,rfl⟩:=AI h.dm;obtain⟨ar,cr,rfl⟩:=AI h.rs;obtain⟨av,cv,rfl⟩:=AI h.dv;obtain⟨g1,rfl,r1,_⟩:=A5 h.c (by omega);obtain⟨g2,rfl,r2,_⟩:=A5 h.dm (by omega);obtain⟨g3,rfl,r3,_⟩:=A5 h.rs (by omega);obtain⟨g4,rfl,r4,_⟩:=A5 h.dv (by omega);exact⟨{ l with cb:=g1,cc:=cc,db:=g2,dc:=cd,rb:=g3,rc:=cr,vb:=g4,vc:=cv },
  ⟨c.1,c.2,d.1,d.2,r.1,r.2,v.1,v.2,h.ckOk,h.dmOk,h.rsOk,fun i hi=>(h.dvOk i hi).1,fun i hi=>(h.dvOk i hi).2.1,fun i hi=>(h.dvOk i hi).2.2.1,fun i hi=>(h.dvOk i hi).2.2.2.1,fun i hi=>(h.dvOk i hi).2.2.2.2.1,fun i hi=>(h.dvOk i hi).2.2.2.2.2⟩,rfl,
  ⟨r1,r2,r3,r4,h.src,h.reg,h.need⟩⟩
end Mk
theorem soc_ne {v:Bx} (h:A6 w v s) (bx:AF w B 30 xs):∀b,v.In s b->¬b=B:=fun b hb e=>by
 subst e;rcases hb with e | e | e | e | ⟨i,hi,hm,e⟩ | ⟨i,hi,hm,e⟩ | ⟨i,hi,hm,e⟩
 . exact Bq h.ck bx (by decide) e.symm
 . exact Bq h.dm bx (by decide) e.symm
 . exact Bq h.rs bx (by decide) e.symm
 . exact Bq h.dv bx (by decide) e.symm
 . exact Bq (h.src i hi hm) bx (by decide) e.symm
 . exact Bq (h.reg i hi hm) bx (by decide) e.symm
 . exact Bq (h.need i hi hm) bx (by decide) e.symm
def Du (n:Nat):Code->Option Code
 | .region id ops d=>if id=n then some (.region id ops d) else none
 | .seq a b=>(Du n a).orElse fun _=>Du n b
 | .cond _ a b=>(Du n a).orElse fun _=>Du n b
 | .block _ c=>Du n c
 | .loop c=>Du n c
 | .scope c=>Du n c
 | _=>none
noncomputable def reg49:Code:=(Tryz.f5.body.bind (Du 49)).getD .skip
theorem zA {u0 u1 u2 u3 u4 u5 u7 u8 u9 aa ab ac ad ae af ag ah ai aj ak al am an ap aq ar au aw ax ay az a4 a5 a6 a7 a8 a9 ba bb bc bd be bf bg bh bi bj bk bl bm bn bo bp bq br bs bt bu bv bw bx bz b0 b1 b2 b3 b4 b5 b6 b7 b8 b9 ca cb cc cd ce cf cg ch ci cj ck cl cm cn co cp cq cr cs ct cu cw cx cy cz c0 c1 c2 c3 c4 c5 c6 c7 c8 c9 da db dc dd de df dg dh di dj dk dl dm dn dp dq dr ds dt du dv dw dx dy dz d0 d1 d2 d3 d4 d5 d6 d7 d8 d9 ea eb ec ed ee eg eh ei ej ek el em en eo ep eq er es eu ev ew ey ez e0 e1 e2 e3 e4 e5 e6 e7 e8 e9 fa fb fc fd fe ff fg fh fi fj fk fl fm fn fo fp fq fr fs ft fu fv fw fx fy fz f0 f1 f2 f4 f6 f7 f8 f9 ga gb gc gd ge gf gg gh gi gj gk gl gm gn gp gq gr gs gt gu gv gw gx gy gz g0 g1 g2 g6 g7 g8 g9 ha hc hd hg hh hj hl hm hn ho hp hr hs ht hw hx hy hz h0 h1 h2 h3 h4 h5 h6 h7 h8 h9 ia ib ic ie ig ii ij ik il im io ip iq ir it iu iv iw ix iy iz i1 i2 i3 i4 i5 i6 i7 i8 i9 ja jb jc jd je jf jg jh ji jj jk jl jm jn jo jp jq jr js jt ju jv jw jx jy jz j0 j1 j2 j3 j4 j5 j6 j7 j8 j9 ka kb kc kd ke kf kg kh ki kj kk kl km kn ko:Value} (wc:World) (SB q k cv B:Nat) (av:Option Addr) (xs:List Value) (a0 a1 a2 a3:Int) (g4 g5:Value) (o4:g4.oneCell'=true) (o5:g5.oneCell'=true)
 (hq:AF wc q 40 [.int .i64 a0, .int .i64 a1, .int .i64 a2, .int .u32 a3,g4,g5]) (hb:wc.cell? (SB 3)=some (.slice av k cv)) (hf:wc.frozen? (SB 3)=false) (hBS:SB<wc.heap.size) (hB:B<=wc.heap.size) (hk:k<=100) (own:wc.ownsRow B 40 6 (.slice av k cv) k xs)
 (keep:∀W,AD (fun j=>(Value.slice av k cv).ownBlock=some j) wc W->W.cell? (SB 3)=some (.slice av k cv)∧W.frozen? (SB 3)=false)
 (K:Act->World->Prop) (Q:Exit->Act->World->Prop)
 (hK:∀ao c' W,W.ownsRow B 40 6 (.slice ao (k+1) c') (k+1) (xs++[.int .i64 a0, .int .i64 a1, .int .i64 a2, .int .u32 a3,g4,g5])->AD (fun j=>(Value.slice av k cv).ownBlock=some j) wc W->K { tmps:=List.toArray (u0::u1::u2::u3::u4::u5:: .pointer SB::u7::u8::u9::aa::ab::ac::ad::ae::af:: .pointer q::ag::ah::ai::aj::ak::al::am::an::ap::aq::ar::au::aw::ax::ay::az::a4::a5::a6::a7::a8::a9::ba::bb::bc::bd::be::bf::bg::bh::bi::bj::bk::bl::bm::bn::bo::bp::bq::br::bs::bt::bu::bv::bw::bx::bz::b0::b1::b2::b3::b4::b5::b6::b7::b8::b9::ca::cb::cc::cd::ce::cf::cg::ch::ci::cj::ck::cl::cm::cn::co::cp::cq::cr::cs::ct::cu::cw::cx::cy::cz::c0::c1::c2::c3::c4::c5::c6::c7::c8::c9::da::db::dc::dd::de::df::dg::dh::di::dj::dk::dl::dm::dn::dp::dq::dr::ds::dt::du::dv::dw::dx::dy::dz::d0::d1::d2::d3::d4::d5::d6::d7::d8::d9::ea::eb::ec::ed::ee::eg::eh::ei::ej::ek::el::em::en::eo::ep::eq::er::es::eu::ev::ew::ey::ez::e0::e1::e2::e3::e4::e5::e6::e7::e8::e9::fa::fb::fc::fd::fe::ff::fg::fh::fi::fj::fk::fl::fm::fn::fo::fp::fq::fr::fs::ft::fu::fv::fw::fx::fy::fz::f0::f1::f2::f4::f6::f7::f8::f9::ga::gb::gc::gd::ge::gf::gg::gh::gi::gj::gk::gl::gm::gn::gp::gq::gr::gs::gt::gu::gv::gw::gx::gy::gz::g0::g1::g2::g6::g7::g8::g9::ha::hc::hd::hg::hh::hj::hl::hm::hn::ho::hp::hr::hs::ht::hw::hx::hy::hz::h0::h1::h2::h3::h4::h5::h6::h7::h8::h9::ia::ib::ic::ie::ig::ii::ij::ik::il::im::io::ip::iq::ir::it::iu::iv::iw::ix::iy::iz::i1::i2::i3::i4::i5::i6::i7::i8::i9::ja::jb::jc::jd::je::jf::jg::jh::ji::jj::jk::jl::jm::jn::jo::jp::jq::jr::js::jt::ju::jv::jw::jx::jy::jz::j0::j1::j2::j3::j4::j5::j6::j7::j8::j9::ka::kb::kc::kd::ke::kf::kg::kh:: .pointer (some (SB 3)):: .slice av k cv:: .agg #[.int .i64 a0, .int .i64 a1, .int .i64 a2, .int .u32 a3,g4,g5]:: .slice wc.heap.size 1 1:: .slice ao (k+1) c':: .pointer (some (SB 3))::ko::[]),defers:=[] } (W.setCell (SB 3) (.slice ao (k+1) c'))):
 Code.wp prog reg49 (Exit.inBlock 10 (Exit.then K Q)) { tmps:=List.toArray (u0::u1::u2::u3::u4::u5:: .pointer SB::u7::u8::u9::aa::ab::ac::ad::ae::af:: .pointer q::ag::ah::ai::aj::ak::al::am::an::ap::aq::ar::au::aw::ax::ay::az::a4::a5::a6::a7::a8::a9::ba::bb::bc::bd::be::bf::bg::bh::bi::bj::bk::bl::bm::bn::bo::bp::bq::br::bs::bt::bu::bv::bw::bx::bz::b0::b1::b2::b3::b4::b5::b6::b7::b8::b9::ca::cb::cc::cd::ce::cf::cg::ch::ci::cj::ck::cl::cm::cn::co::cp::cq::cr::cs::ct::cu::cw::cx::cy::cz::c0::c1::c2::c3::c4::c5::c6::c7::c8::c9::da::db::dc::dd::de::df::dg::dh::di::dj::dk::dl::dm::dn::dp::dq::dr::ds::dt::du::dv::dw::dx::dy::dz::d0::d1::d2::d3::d4::d5::d6::d7::d8::d9::ea::eb::ec::ed::ee::eg::eh::ei::ej::ek::el::em::en::eo::ep::eq::er::es::eu::ev::ew::ey::ez::e0::e1::e2::e3::e4::e5::e6::e7::e8::e9::fa::fb::fc::fd::fe::ff::fg::fh::fi::fj::fk::fl::fm::fn::fo::fp::fq::fr::fs::ft::fu::fv::fw::fx::fy::fz::f0::f1::f2::f4::f6::f7::f8::f9::ga::gb::gc::gd::ge::gf::gg::gh::gi::gj::gk::gl::gm::gn::gp::gq::gr::gs::gt::gu::gv::gw::gx::gy::gz::g0::g1::g2::g6::g7::g8::g9::ha::hc::hd::hg::hh::hj::hl::hm::hn::ho::hp::hr::hs::ht::hw::hx::hy::hz::h0::h1::h2::h3::h4::h5::h6::h7::h8::h9::ia::ib::ic::ie::ig::ii::ij::ik::il::im::io::ip::iq::ir::it::iu::iv::iw::ix::iy::iz::i1::i2::i3::i4::i5::i6::i7::i8::i9::ja::jb::jc::jd::je::jf::jg::jh::ji::jj::jk::jl::jm::jn::jo::jp::jq::jr::js::jt::ju::jv::jw::jx::jy::jz::j0::j1::j2::j3::j4::j5::j6::j7::j8::j9::ka::kb::kc::kd::ke::kf::kg::kh::ki::kj::kk::kl::km::kn::ko::[]),defers:=[] } wc:=by
 conv=>arg 2;whnf
 have ONE:AG (∀u ∈ [.int .i64 a0, .int .i64 a1, .int .i64 a2, .int .u32 a3,g4,g5],u.oneCell'=true):=⟨fun u hu=>by
  simp only [List.mem_cons,List.mem_nil_iff,or_false] at hu;rcases hu with rfl | rfl | rfl | rfl | rfl | rfl
  . rfl
  . rfl
  . rfl
  . rfl
  . exact o4
  . exact o5⟩
 have OW:=Ae own;have KE:=Ae keep;have HK:=Ae hK;have x0:=hq.cell 0;have x1:=hq.cell 1;have x2:=hq.cell 2;have x3:=hq.cell 3;have x4:=hq.cell 4;have x5:=hq.cell 5;simp only [Bk,Bl] at x0 x1 x2 x3 x4 x5;obtain⟨i0,KI,KZ0,KZ1,KZ2⟩:=ik_ Gz;clear hq own keep hK;go_wp2_with (at_builtin;refine wpList_append_own _ rfl (.tmp 346) (.tmp 348) 28 rfl B 40 i0 _ 6 80 underlying28 KI.out KZ0.out KZ1.out KZ2.out rfl (by decide) _ _ _ rfl (OW.out.alloc _) (wc.heap.size 0) 1 1 [.int .i64 a0, .int .i64 a1, .int .i64 a2, .int .u32 a3,g4,g5] rfl rfl (fun j u h=>by rw [Af,Ag,(AF.new wc [.int .i64 a0, .int .i64 a1, .int .i64 a2, .int .u32 a3,g4,g5] 40).cell j];exact h) ONE.out (by unfold maxLen;omega) (by omega) (by simp;omega) ?_;intro v' w3 own3 grow3 _;obtain⟨ao',c',hv⟩:=AI own3;subst hv;have KO3:=Ae own3;have KK:=Ae (((AD.refl (fun j=>(Value.slice av k cv).ownBlock=some j) wc).alloc (.cells #[.int .i64 a0, .int .i64 a1, .int .i64 a2, .int .u32 a3,g4,g5] 40)).grown grow3 (fun j e _=>e));obtain⟨g3,f3⟩:=KE.out _ KK.out;clear own3 grow3);exact HK.out _ _ _ KO3.out KK.out
end Go.Proofs.YtpekoejdnhaohaaGreatDoor
