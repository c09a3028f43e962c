/- What marks, hanging and order of a graph compute where each edge leads to a lesser number; the laws on drawn regions that the other texts lean on. For every such graph. -/
import Derived.Deep.AppendLies
import Derived.Test.YtpekoejdnhaohaaGreatDoorB
import Derived.Test.YtpekoejdnhaohaaGreatDoorC
namespace Go.Proofs.YtpekoejdnhaohaaGreatDoor
open Go.RowKit Tryz
set_option maxRecDepth 100000
set_option maxHeartbeats 40000000
set_option linter.all false
variable {a a2:Act} {listed:Array Bool} {rem:List Nat} {xs:List Value} {base cap fuel gb i j k mb n size u x:Nat} {f:Nat->Bool} {cp m:Nat->Nat} {e:Nat->Nat->Nat} {ao:Nat->Option Addr} {S:Nat->Prop} {d:Tmp} {v:Value} {w:World}
def Bs (w:World) (mb m:Nat) (f:Nat->Bool):Prop:=∃D,w.ownsMap prog 3 unitElem (H:=Unit) mb m D∧∀i,Maps.has D (lk i)=f i
namespace Bs
variable {w w':World} {mb m:Nat} {f g:Nat->Bool}
theorem lt (h:Bs w mb m f):mb<w.heap.size:=by
 obtain⟨D,⟨es,clock,hb,_⟩,_⟩:=h;exact(Ci.1 hb).1
theorem keep (h:Bs w mb m f) (k:AD S w w') (n:¬S mb):Bs w' mb m f:=by
 have hl:=h.lt;obtain⟨D,⟨es,clock,hb,r⟩,hd⟩:=h;exact⟨D,⟨es,clock,(k.block mb hl n).trans hb,r⟩,hd⟩
theorem congr (h:Bs w mb m f) (e:∀i,f i=g i):Bs w mb m g:=by
 obtain⟨D,o,hd⟩:=h;exact⟨D,o,fun i=>(hd i).trans (e i)⟩
theorem made (w:World):Bs (w.alloc (.map #[] 0)) w.heap.size 0 (fun _=>false):=⟨_,World.ownsMap_made _ _ _ _,fun _=>rfl⟩
end Bs
theorem Z6 (w:World):(zeroValue 267).run prog w= .ok (.agg #[]) w:=by kernel_rfl
theorem Fy {m:Nat} (h:Bs w mb m f) (i:Nat) (hi:i<=1000) {b:Bool} (hb:f i=b):
 Calls prog 249 #[.map (some mb), .int .i64 i] w (TR (.bool b) w):=by
 obtain⟨D,hown,hd⟩:=h;have KO:=Ae hown;have KH:AG (Maps.has D (lk i)=b):=⟨(hd i).trans hb⟩;clear hown hd hb;go_in;go_wp2_with (at_lookup;refine wpList_lookup_own_ok _ rfl (.tmp 8) (.tmp 9) 339 rfl 3 267 (Maps.int_keyed underlying3) underlying339 unitElem (Z6 _) (.agg []) [] unitElem_mk mb m D rfl KO.out _ _ rfl (Ej (by omega)) ?_;intro v ps hv;obtain⟨rfl,_⟩:=unitElem_inv hv;rw [KH.out];clear hv);go_ret;exact⟨rfl,(AD.refl _ w).alloc _⟩
theorem Hs {m:Nat} (h:Bs w mb m f) (i:Nat) (hi:i<=1000) (hm:m<=100000):
 Calls prog 250 #[.map (some mb), .int .i64 i] w fun e w'=>e= .returned (.tuple #[])∧AD (· =mb) w w'∧Bs w' mb (m+1) (fun j=>decide (j=i)||f j):=by
 obtain⟨D,hown,hd⟩:=h;have KO:=Ae hown;have FIN:AG (∀j,Maps.has (D.put (lk i) (.agg [])) (lk j)=(decide (j=i)||f j)):=⟨fun j=>by
  by_cases e:j=i
  . subst e;rw [Maps.has_put_same (hown.isMap) (GV _)];simp
  . rw [Maps.has_put_other (Ja e),hd];simp [e]⟩
 clear hown hd;go_in;go_wp2_with (at_mapUpdate;refine wpList_mapUpdate_own _ rfl (.tmp 4) (.tmp 5) (.tmp 6) 339 rfl 3 267 (Maps.int_keyed underlying3) underlying339 unitElem mb m D rfl KO.out (by unfold maxLen;omega) _ (.agg #[]) (lk i) rfl rfl (Ej (by omega)) (.agg []) [] unitElem_mk ?_;intro w3 own3 grow3;have K3:=Ae ((AD.refl (· =mb) w).grown grow3 (fun j e _=>by injection e with e;exact e.symm));have KO3:=Ae own3;clear own3 grow3);go_end0;exact⟨rfl,K3.out,_,KO3.out,FIN.out⟩
structure Bt (w:World) (gb n:Nat) (ao:Nat->Option Addr) (cp:Nat->Nat) (m:Nat->Nat) (e:Nat->Nat->Nat):Prop where
 r:w.rowIs gb 22 n (fun i=> .slice (ao i) (m i) (cp i))
 i:∀i,i<n->CH w (ao i) (m i) (fun j=>(e i j:Int))
 few:n<=12
 deg:∀i,i<n->m i<=6
 less:∀i,i<n->∀j,j<m i->e i j<i
namespace Bt
variable {w w':World} {gb n:Nat} {ao:Nat->Option Addr} {cp:Nat->Nat} {m:Nat->Nat} {e:Nat->Nat->Nat}
theorem new (h:Bt w gb n ao cp m e) (k:AJ w w'):Bt w' gb n ao cp m e:=⟨rowIs_keep h.r k id,fun i hi=>(h.i i hi).new k,h.few,h.deg,h.less⟩
theorem row (h:Bt w gb n ao cp m e) (i:Nat) (hi:i<n):w.cell? (gb i)=some (.slice (ao i) (m i) (cp i)):=h.r.cell hi
theorem num (h:Bt w gb n ao cp m e) (i:Nat) (hi:i<n) (j:Nat) (hj:j<m i):∃b,ao i=some ⟨b,0,none⟩∧w.cell? ⟨b,j,none⟩=some (.int .i64 (e i j:Int)):=by
 rcases h.i i hi with h0 | ⟨b,e1,r⟩
 . omega
 . exact⟨b,e1,by have:=r.cell j 0 hj (by omega);simpa using this⟩
end Bt
theorem M7 (h:Bt w gb n ao cp m e):
 Calls prog 247 #[.slice gb n cap] w fun e w'=>e= .returned (.int .i64 0)∧w'=w:=by
 have hf:=h.few;have H:=Ae h;clear h;go_in;go_wp2;go_loopw [12] (fun i wr=>∃k:Nat,k<=n∧i= .int .i64 k∧wr=w) (fun i _=>n - (intOf i).toNat);case atStart=>exact⟨0,by omega,rfl,rfl⟩
 case round=>
  obtain⟨k,hk,rfl,rfl⟩:=hrel;by_cases hlt:k<n
  . have c:=H.out.row k hlt;have hd:=H.out.deg k hlt;have NU:=Ae (H.out.num k hlt);have LE:=Ae (H.out.less k hlt);generalize ao k=a at*;generalize m k=q at*;generalize cp k=p at*;generalize e k=ek at*;go_wp2_with fail;clear c;go_loopw [18] (fun i wq=>∃j:Nat,j<=q∧i= .int .i64 j∧wq=wr) (fun i _=>q - (intOf i).toNat);case atStart=>exact⟨0,by omega,rfl,rfl⟩
    case round=>
     obtain⟨j,hj,rfl,rfl⟩:=hrel;by_cases hlt2:j<q
     . obtain⟨b,rfl,cj⟩:=NU.out j hlt2;have le:=LE.out j hlt2;generalize ek j=x at*;go_wp2;go_roundw;case rel=>exact⟨j+1,by omega,by go_num,by trivial⟩
       case measure=>simp [intOf];omega
     . go_wp2;go_roundw;case rel=>exact⟨k+1,by omega,by go_num,by trivial⟩
       case measure=>simp [intOf];omega
  . go_wp2;go_ret;exact⟨rfl,rfl⟩
theorem AW {w':World} {e:Nat} (h:w.ownsRow base e size v n xs) (k:AD S w w') (hS:∀b,v.ownBlock=some b->¬S b):w'.ownsRow base e size v n xs:=by
 refine⟨h.1,?_⟩;rcases h.2 with h0 | ⟨g,cap,cur,hv,hb,hg,r⟩
 . exact .inl h0
 . exact .inr ⟨g,cap,cur,hv,hb,(k.block g (Ci.1 hg).1 (hS g (by rw [hv];rfl))).trans hg,r⟩
def Li (l:List Nat):List Value:=l.map fun(x:Nat)=> .int .i64 x
structure Cg (w:World) (ub base n:Nat) (L:Nat->List Nat) (vals:Nat->Value):Prop where
 r:w.rowIs ub 22 n vals
 o:∀u,u<n->w.ownsRow base 3 1 (vals u) (L u).length (Li (L u))
 d:∀u v b,u<n->v<n->u≠v->(vals u).ownBlock=some b->(vals v).ownBlock≠some b
 lo:ub<base
namespace Cg
variable {w w':World} {ub base n:Nat} {L M:Nat->List Nat} {vals:Nat->Value}
theorem keep (h:Cg w ub base n L vals) (k:AD S w w') (h1:¬S ub) (h2:∀b,base<=b->b<w.heap.size->¬S b):Cg w' ub base n L vals:=
 ⟨rowIs_keep h.r k h1,fun u hu=>AW (h.o u hu) k (fun b hb=>h2 b ((h.o u hu).lt b hb).1 ((h.o u hu).lt b hb).2),h.d,h.lo⟩
theorem keepOwn (h:Cg w ub base n L vals) (k:AD S w w') (h1:¬S ub) (h2:∀u b,u<n->(vals u).ownBlock=some b->¬S b):Cg w' ub base n L vals:=
 ⟨rowIs_keep h.r k h1,fun u hu=>AW (h.o u hu) k (fun b hb=>h2 u b hu hb),h.d,h.lo⟩
theorem congr (h:Cg w ub base n L vals) (e:∀u,u<n->L u=M u):Cg w ub base n M vals:=
 ⟨h.r,fun u hu=>by rw [<-e u hu];exact h.o u hu,h.d,h.lo⟩
theorem put (h:Cg w ub base n L vals) (u:Nat) (hu:u<n) {g c:Nat} (k:w.grownBy w' (vals u).ownBlock)
 (o:w'.ownsRow base 3 1 (.slice g ((L u).length+1) c) ((L u).length+1) (Li (L u)++[.int .i64 x])) (hg:(vals u).ownBlock=some g∨w.heap.size<=g):
 Cg (w'.setCell (ub u) (.slice g ((L u).length+1) c)) ub base n (upd L u (L u++[x])) (upd vals u (.slice g ((L u).length+1) c)):=by
 have hk:=(AD.refl _ w).grown k (fun j e _=>e.symm);have hub:∀b,(vals u).ownBlock=some b->b≠ub:=fun b hb=>by have:=((h.o u hu).lt b hb).1;have:=h.lo;omega
 have hgu:g≠ub:=by
  rcases hg with e | e
  . exact hub g e
  . have:=h.r.lt;omega
 refine⟨((rowIs_keep h.r hk (fun e=>hub ub e.symm rfl)).set u _).congr fun j hj=>?_,fun v hv=>?_,fun a v b ha hv hne hb=>?_,h.lo⟩
 . by_cases e:j=u
   . subst e;simp [upd_same]
   . rw [uo_ e];simp [e]
 . have ks:AD (· =ub) w' (w'.setCell (ub u) (.slice g ((L u).length+1) c)):=keeps_set _;by_cases e:v=u
   . subst e;rw [upd_same,upd_same];have:=AW o ks (fun b hb=>by injection hb with hb;subst hb;exact hgu);simpa [Li] using this
   . rw [uo_ e,uo_ e];have o1:=AW (h.o v hv) hk (fun b hb hc=>h.d v u b hv hu e hb hc.symm);exact AW o1 ks (fun b hb=>by have:=((h.o v hv).lt b hb).1;have:=h.lo;omega)
 . have fresh:∀t,t<n->t≠u->(vals t).ownBlock≠some g:=fun t ht hte hc=>by
    rcases hg with e | e
    . exact h.d t u g ht hu hte hc e
    . have:=((h.o t ht).lt g hc).2;omega
   by_cases e1:a=u
   . subst e1;rw [upd_same] at hb;rw [uo_ (Ne.symm hne)];injection hb with hb;subst hb;exact fresh v hv (Ne.symm hne)
   . rw [uo_ e1] at hb;by_cases e2:v=u
     . subst e2;rw [upd_same];intro hc;injection hc with hc;subst hc;exact fresh a ha e1 hb
     . rw [uo_ e2];exact h.d a v b ha hv hne hb
end Cg
theorem Pm (w:World) (x:Value) (t:TypeId) (s:Nat) (hs:w.heap.size=s):∀j u,[x][j]?=some u->(w.alloc (.cells #[x] t)).cell? (((s 0):Addr).add j)=some u:=by
 subst hs;exact Ee w x t
theorem IV:inf_ prog 22=some (some (.slice none 0 0),1,24):=by kernel_rfl
def HangP (w:World) (n:Nat) (m:Nat->Nat) (e:Nat->Nat->Nat) (en:Ending) (w':World):Prop:=
 ∃wb ub vals,en= .returned (.tuple #[.slice (some ⟨wb,0,none⟩) n n, .slice (some ⟨ub,0,none⟩) n n])∧AJ w w'∧w'.rowIs wb 3 n (fun v=> .int .i64 (left m e n 0 v))∧Cg w' ub (ub+1) n (CW m e n) vals∧w.heap.size<=wb∧wb<ub
def Jm (m:Nat->Nat) (e:Nat->Nat->Nat) (n v j x:Nat):Int:=if x<v then(cnt (Hz m e x) n:Int) else if x=v then(cnt (Dc (e v) j) n:Int) else 0
def Ms (m:Nat->Nat) (e:Nat->Nat->Nat) (v j u:Nat):List Nat:=CW m e v u++(if Dc (e v) j u then [v] else [])
theorem Wm (m:Nat->Nat) (e:Nat->Nat->Nat) (n v x:Nat):Jm m e n v (m v) x=Jm m e n (v+1) 0 x:=by
 unfold Jm;by_cases h1:x<v
 . simp [h1,show x<v+1 by omega]
 . by_cases h2:x=v
   . subst h2;simp;rfl
   . have h3:¬x<v+1:=by omega
     simp [h1,h2,h3];intro h;rw [show cnt (Dc (e (v+1)) 0) n=0 from Q8 (fun _ _=>rfl)];rfl
theorem Wr (m:Nat->Nat) (e:Nat->Nat->Nat) (v u:Nat):Ms m e v (m v) u=Ms m e (v+1) 0 u:=by
 unfold Ms;rw [RN,show Hz m e v u=Dc (e v) (m v) u from rfl];simp [Dc]
theorem Wl (m:Nat->Nat) (e:Nat->Nat->Nat) (n x:Nat):Jm m e n 0 0 x=0:=by
 unfold Jm;simp;intro h;rw [show cnt (Dc (e 0) 0) n=0 from Q8 (fun _ _=>rfl)]
theorem Wq (m:Nat->Nat) (e:Nat->Nat->Nat) (u:Nat):Ms m e 0 0 u=[]:=by unfold Ms;simp [Dc,CW]
theorem Za (m:Nat->Nat) (e:Nat->Nat->Nat) (hx:x<n):Jm m e n n 0 x=left m e n 0 x:=by
 rw [SJ];unfold Jm;simp [hx]
theorem Zg (m:Nat->Nat) (e:Nat->Nat->Nat) (n u:Nat):Ms m e n 0 u=CW m e n u:=by unfold Ms;simp [Dc]
theorem Z8 {v:Nat} (h:Dc (e v) j (e v j)=true):Jm m e n v (j+1) x=Jm m e n v j x:=by
 unfold Jm;have:Dc (e v) (j+1)=Dc (e v) j:=by
  funext u;rw [Dc];by_cases c:u=e v j
  . subst c;simp [h]
  . simp [c]
 rw [this]
theorem Zd {v:Nat} (h:Dc (e v) j (e v j)=true):Ms m e v (j+1) u=Ms m e v j u:=by
 unfold Ms;rw [Dc];by_cases c:u=e v j
 . subst c;simp [h]
 . simp [c]
theorem Z9 {v:Nat} (h:Dc (e v) j (e v j)=false) (hl:e v j<n):Jm m e n v (j+1) x=if x=v then Jm m e n v j v+1 else Jm m e n v j x:=by
 unfold Jm;by_cases h1:x<v
 . simp [h1,show x≠v by omega]
 . by_cases h2:x=v
   . subst h2;have:=Yf (f:=Dc (e x) j) (g:=Dc (e x) (j+1)) hl h (by rw [Dc];simp) (fun i hi=>by rw [Dc];simp [hi]);simp [this]
   . simp [h1,h2]
theorem Ze {v:Nat} (h:Dc (e v) j (e v j)=false):Ms m e v (j+1) u=if u=e v j then Ms m e v j (e v j)++[v] else Ms m e v j u:=by
 unfold Ms;rw [Dc];by_cases c:u=e v j
 . subst c;simp [h]
 . simp [c]
theorem UW (m:Nat->Nat) (e:Nat->Nat->Nat) (n v j x:Nat):0<=Jm m e n v j x∧Jm m e n v j x<=n:=by
 unfold Jm;have a:=Sv (Hz m e x) n;have b:=Sv (Dc (e v) j) n;split
 . omega
 . split <;> omega
theorem Zf (m:Nat->Nat) (e:Nat->Nat->Nat) (v j u:Nat):(Ms m e v j u).length<=v+1:=by
 have:=Mr m e v u;unfold Ms;split <;> simp <;> omega
section
open Go
section
variable {P:Program} {ops:Array Oper} {Q:Exit->Act->World->Prop} {md:Region.Mode} {S:World->Prop}
def Fi (P:Program) (o:Oper) (ρ:Operand->Value) (w:World) (C:Value->World->Prop):Prop:=
 ∀ (a:Act) (K:Act->World->Prop) (Q:Exit->Act->World->Prop),a.eval=ρ->(∀v w',C v w'->K (a.put o.dst v) w')->o.wp P a w K Q
theorem Fi.wp {o:Oper} {C:Value->World->Prop} {K:Act->World->Prop} (h:Fi P o a.eval w C) (hK:∀v w',C v w'->K (a.put o.dst v) w'):o.wp P a w K Q:=h a K Q rfl hK
def dstOf (ops:Array Oper) (i:Nat):Option Tmp:=(ops[i]?).bind (·.dst)
def Ad (md:Region.Mode) (ops:Array Oper) (i j:Nat):Bool:=
 match ops[i]? with
 | some o=>o.after.any fun e=>Region.binds md e&&e.on==j
 | none=>false
def Sn (md:Region.Mode) (ops:Array Oper) (listed:Array Bool) (done:List Nat) (i:Nat):Bool:=
 match ops[i]? with
 | some o=>o.after.all fun e=>!Region.binds md e||listed.getD e.on false||done.contains e.on
 | none=>false
def D7 (md:Region.Mode) (ops:Array Oper) (listed:Array Bool):List Nat->List Nat->Bool
 | _,[]=>true
 | done,i::rest=>!listed.getD i true&&!done.contains i&&(match ops[i]? with | some o=>o.guard.isNone | none=>false)&&Sn md ops listed done i&&D7 md ops listed (done++[i]) rest
def Jw (md:Region.Mode) (ops:Array Oper) (rem:List Nat):Nat->Nat->Nat->Bool
 | 0,t,r=>Ad md ops t r
 | k+1,t,r=>Ad md ops t r||rem.any fun m=>Ad md ops t m&&Jw md ops rem k m r
def Fv (md:Region.Mode) (ops:Array Oper) (listed:Array Bool) (rem:List Nat) (k:Nat):Bool:=
 (List.range ops.size).all fun t=>listed.getD t true||rem.contains t||
  (List.range ops.size).any (fun u=>!listed.getD u true&&!rem.contains u&&Ad md ops t u)||rem.all (fun r=>Jw md ops rem k t r)
def Dk (ops:Array Oper) (rem:List Nat):Bool:=
 rem.all fun i=>rem.all fun j=>i==j||(match dstOf ops i,dstOf ops j with | some d,some e=>d !=e | _,_=>true)
def Be (done:Nat->Bool) (l:Array Bool):List Nat->Array Bool
 | []=>l
 | i::r=>Be done (if done i then l.setIfInBounds i true else l) r
def AR (ops:Array Oper) (done:Nat->Bool) (vals:Nat->Value) (a:Act):List Nat->Act
 | []=>a
 | i::r=>AR ops done vals (if done i then a.put (dstOf ops i) (vals i) else a) r
def turn {α:Type} (f:Nat->α) (i:Nat) (x:α):Nat->α:=fun k=>if k=i then x else f k
theorem AQ {α:Type} (f:Nat->α) (i:Nat) (x:α):turn f i x i=x:=by simp [turn]
theorem turn_other {α:Type} (f:Nat->α) (x:α) (h:k≠i):turn f i x k=f k:=by simp [turn,h]
theorem Bu (done:Nat->Bool) (d:Bool) (j:Nat):∀ (rem:List Nat) (l:Array Bool),j<l.size->(Be done l rem).getD j d=(l.getD j d||(rem.contains j&&done j)):=by
 intro rem
 induction rem with
 | nil=>intro l hl;simp [Be]
 | cons i r ih=>
  intro l hl;rw [Be];by_cases hd:done i=true
  . rw [if_pos hd,ih _ (by simpa using hl)];by_cases e:i=j
    . subst e;simp [hl,hd]
    . simp [Array.getElem?_setIfInBounds_ne e,Ne.symm e]
  . rw [if_neg hd,ih _ hl];by_cases e:i=j
    . subst e;have:done i=false:=by simpa using hd
      simp [this]
    . simp [Ne.symm e]
theorem Pa (done:Nat->Bool) (k:Nat):∀ (rem:List Nat) (l:Array Bool),k ∈ rem->(Be (turn done k true) l rem)=(Be done l rem).setIfInBounds k true:=by
 intro rem;have nomem:∀ (rem:List Nat) (l:Array Bool),k ∉ rem->Be (turn done k true) l rem=Be done l rem:=by
  intro rem
  induction rem with
  | nil=>intro l _;rfl
  | cons i r ih=>
   intro l h;rw [Be,Be,turn_other _ _ (fun e=>h (by rw [e];exact List.mem_cons_self)),ih _ (fun h'=>h (al19_ _ h'))]
 have push:∀ (rem:List Nat) (l:Array Bool),Be done (l.setIfInBounds k true) rem=(Be done l rem).setIfInBounds k true:=by
  intro rem
  induction rem with
  | nil=>intro l;rfl
  | cons i r ih=>
   intro l;rw [Be,Be];split
   . by_cases e:i=k
     . subst e;rw [<-ih,Array.setIfInBounds_setIfInBounds]
     . rw [<-ih,Array.setIfInBounds_comm _ _ e]
   . rw [ih]
 induction rem with
 | nil=>intro l h;cases h
 | cons i r ih=>
  intro l h;rw [Be,Be];by_cases e:i=k
  . subst e;rw [AQ];by_cases hr:i ∈ r
    . rw [ih _ hr];cases hd:done i
      . simp only [if_true,Bool.false_eq_true,if_false];rw [push,Array.setIfInBounds_setIfInBounds]
      . rfl
    . rw [nomem _ _ hr];cases hd:done i
      . simp only [if_true,Bool.false_eq_true,if_false];rw [push]
      . simp only [if_true];rw [push,Array.setIfInBounds_setIfInBounds]
  . rw [turn_other _ _ e];exact ih _ (by rcases List.mem_cons.1 h with h | h;exact absurd h.symm e;exact h)
theorem Ro (hd:Dk ops rem=true) (hk:k ∈ rem) (done:Nat->Bool) (vals:Nat->Value) (v:Value):∀ (r:List Nat) (a:Act),(∀i ∈ r,i ∈ rem)->k ∉ r->
 AR ops done vals (a.put (dstOf ops k) v) r=(AR ops done vals a r).put (dstOf ops k) v:=by
 intro r
 induction r with
 | nil=>intro a _ _;rfl
 | cons i r ih=>
  intro a hm hn;have hik:i≠k:=fun e=>hn (by rw [e];exact List.mem_cons_self);have hi:=hm i List.mem_cons_self;rw [AR,AR];split
  . rw [<-ih _ (fun j hj=>hm j (al19_ _ hj)) (fun h'=>hn (al19_ _ h'))];rw [Act.put_comm];intro d hdk hdi;have h1:=List.all_eq_true.1 (List.all_eq_true.1 hd k hk) i hi;rw [hdk,hdi] at h1;simp [Ne.symm hik] at h1
  . rw [ih _ (fun j hj=>hm j (al19_ _ hj)) (fun h'=>hn (al19_ _ h'))]
theorem Gm {done done':Nat->Bool} {vals vals':Nat->Value}:∀ (r:List Nat) (a:Act),(∀i ∈ r,done i=done' i∧vals i=vals' i)->AR ops done vals a r=AR ops done' vals' a r:=by
 intro r
 induction r with
 | nil=>intro a _;rfl
 | cons i r ih=>
  intro a h;obtain⟨h1,h2⟩:=h i List.mem_cons_self;rw [AR,AR,h1,h2,ih _ (fun j hj=>h j (al19_ _ hj))]
theorem J8 (hd:Dk ops rem=true) (hn:rem.Nodup) (hk:k ∈ rem) (done:Nat->Bool) (hdk:done k=false) (vals:Nat->Value) (v:Value) (a:Act):
 AR ops (turn done k true) (turn vals k v) a rem=(AR ops done vals a rem).put (dstOf ops k) v:=by
 obtain⟨s,t,rfl⟩:=List.append_of_mem hk;have split_:∀ (d:Nat->Bool) (u:Nat->Value) (s t:List Nat) (a:Act),AR ops d u a (s++t)=AR ops d u (AR ops d u a s) t:=by
  intro d u s
  induction s with
  | nil=>intro t a;rfl
  | cons i r ih=>intro t a;rw [EH,AR,AR,ih]
 rw [split_,split_,AR,AR,AQ,AQ,hdk];simp only [if_true,Bool.false_eq_true,if_false];have hns:k ∉ s:=fun h=>by
  have:=(List.nodup_append.1 hn).2.2 k h k List.mem_cons_self;exact this rfl
 have hnt:=((List.nodup_cons.1 (List.nodup_append.1 hn).2.1)).1;rw [Gm (done:=turn done k true) (done':=done) (vals:=turn vals k v) (vals':=vals) s a (fun i hi=>⟨turn_other _ _ (fun e=>hns (e ▸ hi)),turn_other _ _ (fun e=>hns (e ▸ hi))⟩)];rw [Gm (done:=turn done k true) (done':=done) (vals:=turn vals k v) (vals':=vals) t _ (fun i hi=>⟨turn_other _ _ (fun e=>hnt (e ▸ hi)),turn_other _ _ (fun e=>hnt (e ▸ hi))⟩)];exact Ro hd hk done vals v t _ (fun i hi=>List.mem_append_right _ (al19_ _ hi)) hnt
theorem Mb (hd:d<a.tmps.size):(a.put (some d) v).eval (.tmp d)=v:=by
 simp [Act.put,Act.eval,hd]
theorem X8 (a:Act) (d:Option Tmp) (v:Value):(a.put d v).tmps.size=a.tmps.size:=by
 cases d <;> simp [Act.put]
theorem Pf (done:Nat->Bool) (vals:Nat->Value):∀ (r:List Nat) (a:Act),(AR ops done vals a r).tmps.size=a.tmps.size:=by
 intro r
 induction r with
 | nil=>intro a;rfl
 | cons i r ih=>intro a;rw [AR,ih];split <;> simp [X8]
theorem Jp (done:Nat->Bool) (vals:Nat->Value) (x:Operand):∀ (r:List Nat) (a:Act),(∀i ∈ r,∀d,dstOf ops i=some d->x≠ .tmp d)->(AR ops done vals a r).eval x=a.eval x:=by
 intro r
 induction r with
 | nil=>intro a _;rfl
 | cons i r ih=>
  intro a h;rw [AR,ih _ (fun j hj=>h j (al19_ _ hj))];split
  . exact Act.eval_put (h i List.mem_cons_self)
  . rfl
theorem QS (hd:Dk ops rem=true) (hn:rem.Nodup) (done:Nat->Bool) (vals:Nat->Value) (a:Act) (hk:k ∈ rem) (hdk:done k=true) (hdst:dstOf ops k=some d) (hs:d<a.tmps.size):
 (AR ops done vals a rem).eval (.tmp d)=vals k:=by
 have h:=J8 hd hn hk (turn done k false) (AQ _ _ _) vals (vals k) a;have e1:turn (turn done k false) k true=done:=by
  funext j;by_cases e:j=k
  . subst e;rw [AQ,hdk]
  . rw [turn_other _ _ e,turn_other _ _ e]
 have e2:turn vals k (vals k)=vals:=by
  funext j;by_cases e:j=k
  . subst e;rw [AQ]
  . rw [turn_other _ _ e]
 rw [e1,e2] at h;rw [h,hdst];exact Mb (by rw [Pf];exact hs)
def JO (ops:Array Oper) (rem:List Nat) (x:Operand):Bool:=
 match x with
 | .tmp t=>rem.all fun i=>dstOf ops i !=some t
 | _=>true
theorem QH {x:Operand} (h:JO ops rem x=true):∀i ∈ rem,∀d,dstOf ops i=some d->x≠ .tmp d:=by
 intro i hi d hd e;subst e;have:=List.all_eq_true.1 h i hi;rw [hd] at this;simp at this
theorem I7:Ad md ops i j=true ↔ ∃o,ops[i]?=some o∧∃e ∈ o.after,Region.binds md e=true∧e.on=j:=by
 unfold Ad
 cases h:ops[i]? with
 | none=>simp
 | some o=>
  constructor
  . intro h;obtain⟨e,he,hb⟩:=Array.any_eq_true'.1 h;rw [F0,beq_iff_eq] at hb;exact⟨o,rfl,e,he,hb⟩
  . rintro⟨o',ho,e,he,hb,hj⟩;cases ho;exact Array.any_eq_true'.2 ⟨e,he,by rw [F0,beq_iff_eq];exact⟨hb,hj⟩⟩
theorem Gl (hr:i ∈ Region.ready md ops listed) (hw:Ad md ops i j=true):listed.getD j false=true:=by
 obtain⟨_,o,ho,hall⟩:=mem_ready.1 hr;obtain⟨o',ho',e,he,hb,rfl⟩:=I7.1 hw;rw [ho] at ho';injection ho' with ho';subst ho';exact hall e he hb
def ZU (md:Region.Mode) (ops:Array Oper) (rem:List Nat) (listed:Array Bool):Prop:=∀i ∈ rem,listed.getD i false=true->∀j,Ad md ops i j=true->listed.getD j false=true
theorem LY (hc:ZU md ops rem listed):∀ (k t r:Nat),(∀j,Ad md ops t j=true->listed.getD j false=true)->Jw md ops rem k t r=true->listed.getD r false=true:=by
 intro k
 induction k with
 | zero=>intro t r ht h;exact ht r h
 | succ k ih=>
  intro t r ht h;rw [Jw,Eu] at h;rcases h with h | h
  . exact ht r h
  . obtain⟨m,hm,h⟩:=List.any_eq_true.1 h;rw [F0] at h;exact ih m r (hc m hm (ht m h.1)) h.2
theorem Ip:∀ (rem done:List Nat),D7 md ops listed done rem=true->(∀i ∈ rem,listed.getD i true=false∧i ∉ done∧(∃o,ops[i]?=some o∧o.guard=none)∧i<ops.size)∧rem.Nodup:=by
 intro rem
 induction rem with
 | nil=>intro done _;exact⟨fun i h=>(by cases h),List.nodup_nil⟩
 | cons i r ih=>
  intro done h;simp only [D7,F0,Bool.not_eq_true'] at h;obtain⟨⟨⟨⟨h1,h2⟩,h3⟩,h4⟩,h5⟩:=h;obtain⟨hr,hn⟩:=ih _ h5;have hi:∃o,ops[i]?=some o∧o.guard=none:=by
   cases ho:ops[i]? with
   | none=>rw [ho] at h3;cases h3
   | some o=>rw [ho] at h3;exact⟨o,rfl,by simpa using h3⟩
  refine⟨fun j hj=>?_,List.nodup_cons.2 ⟨fun hm=>(hr i hm).2.1 (by simp),hn⟩⟩;rcases List.mem_cons.1 hj with rfl | hj
  . obtain⟨o,ho,hg⟩:=hi;exact⟨h1,by simpa using h2,⟨o,ho,hg⟩,(Ci.1 ho).1⟩
  . obtain⟨a,b,c,d⟩:=hr j hj;exact⟨a,fun hm=>b (by simp [hm]),c,d⟩
theorem M4 (hsz:listed.size=ops.size) (done:Nat->Bool) (full:List Nat):∀ (rem pre:List Nat),D7 md ops listed pre rem=true->full=pre++rem->(∀i ∈ pre,done i=true∧i<ops.size)->(∃i ∈ rem,done i=false)->
 ∃i ∈ rem,done i=false∧i ∈ Region.ready md ops (Be done listed full):=by
 intro rem
 induction rem with
 | nil=>intro pre _ _ _ h;obtain⟨i,hi,_⟩:=h;cases hi
 | cons i r ih=>
  intro pre h hf hp hex;have hh:=h;simp only [D7,F0,Bool.not_eq_true'] at h;obtain⟨⟨⟨⟨h1,h2⟩,h3⟩,h4⟩,h5⟩:=h;have hi:=((Ip (i::r) pre hh).1 i List.mem_cons_self).2.2.2
  cases hd:done i with
  | true=>
   obtain⟨j,hj,hdj,hr⟩:=ih (pre++[i]) h5 (by simp [hf]) (fun j hj=>by
    rcases List.mem_append.1 hj with hj | hj
    . exact hp j hj
    . rw [Dz.1 hj];exact⟨hd,hi⟩) (by
    obtain⟨j,hj,hdj⟩:=hex;rcases List.mem_cons.1 hj with rfl | hj
    . rw [hd] at hdj;cases hdj
    . exact⟨j,hj,hdj⟩)
   exact⟨j,al19_ _ hj,hdj,hr⟩
  | false=>
   refine⟨i,List.mem_cons_self,hd,mem_ready.2 ⟨?_,?_⟩⟩
   . rw [Bu done true i full listed (by rw [hsz];exact hi),h1,hd];simp
   . unfold Sn at h4
     cases ho:ops[i]? with
     | none=>rw [ho] at h4;cases h4
     | some o=>
      rw [ho] at h4;refine⟨o,rfl,fun e he hb=>?_⟩;have:=(Array.all_eq_true_iff_forall_mem.1 h4) e he;rw [hb] at this;simp only [Bool.not_true,Bool.false_or,Eu] at this;rcases this with h | h
      . have hlt:e.on<listed.size:=by
         rcases Nat.lt_or_ge e.on listed.size with c | c
         . exact c
         . simp [Array.getElem?_eq_none c] at h
        rw [Bu done false e.on full listed hlt,h];rfl
      . have hm:e.on ∈ pre:=by simpa using h
        have hlt:e.on<listed.size:=by rw [hsz];exact(hp _ hm).2
        rw [Bu done false e.on full listed hlt,hf,(hp _ hm).1];simp [hm]
abbrev JV (listed:Array Bool) (rem:List Nat):Array Bool:=Be (fun _=>true) listed rem
abbrev Am (ops:Array Oper) (vals:Nat->Value) (a:Act) (rem:List Nat):Act:=AR ops (fun _=>true) vals a rem
theorem Ma (done:Nat->Bool) (rem:List Nat):(∀i ∈ rem,done i=true)∨∃i ∈ rem,done i=false:=by
 by_cases h:∃i ∈ rem,done i=false
 . exact .inr h
 . refine .inl fun i hi=>?_
   cases hd:done i with
   | true=>rfl
   | false=>exact absurd ⟨i,hi,hd⟩ h
def GP (done:Nat->Bool) (rem:List Nat):Nat:=(rem.filter fun i=>!done i).length
theorem PL (done:Nat->Bool) (hn:rem.Nodup) (hk:k ∈ rem) (hd:done k=false):GP done rem=GP (turn done k true) rem+1:=by
 induction rem with
 | nil=>cases hk
 | cons i r ih=>
  unfold GP at*;rw [List.filter_cons,List.filter_cons];obtain⟨h1,h2⟩:=List.nodup_cons.1 hn;by_cases e:i=k
  . subst e;rw [AQ,hd];have:r.filter (fun j=>!turn done i true j)=r.filter (fun j=>!done j):=List.filter_congr fun j hj=>by rw [turn_other done true (i:=i) (k:=j) (fun e=>h1 (by rw [<-e];exact hj))]
    simp [this]
  . rw [turn_other _ _ e];have hk':k ∈ r:=by rcases List.mem_cons.1 hk with h | h;exact absurd h.symm e;exact h
    have:=ih h2 hk';cases done i <;> simp <;> omega
theorem Kb {dep:Nat} {X:Nat->Array Bool->Act->World->Prop} {Gv:Oper->(Operand->Value)->World->(Value->World->Prop)->Prop}
 (hX:∀fuel listed a w,Region.ready md ops listed≠[]->(∀i ∈ Region.ready md ops listed,∃o,ops[i]?=some o∧Region.wanted o (yielded ops a.tmps)=true∧Gv o a.eval w fun v w'=>S w'∧X fuel (listed.setIfInBounds i true) (a.put o.dst v) w')->X (fuel+1) listed a w)
 (hmono:∀o ρ w C C',Gv o ρ w C->(∀v w',C v w'->C' v w')->Gv o ρ w C')
 (rem:List Nat) (V:Nat->(Nat->Value)->World->Prop) (J:(Nat->Bool)->(Nat->Value)->World->Prop) (R:Nat->World->World->Prop) {fuel:Nat} {listed:Array Bool} {a:Act} {w:World}
 (hsz:listed.size=ops.size) (hord:D7 md ops listed [] rem=true) (hap:Dk ops rem=true) (htl:Fv md ops listed rem dep=true)
 (hdst:(rem.all fun i=>match dstOf ops i with | some d=>decide (d<a.tmps.size) | none=>true)=true)
 (hJ:J (fun _=>false) (fun _=>undef) w)
 (step:∀i ∈ rem,∀o,ops[i]?=some o->∀ (done:Nat->Bool) (vals:Nat->Value) (ρ:Operand->Value) (w':World),done i=false->J done vals w'->
  (∀j ∈ rem,Ad md ops i j=true->V j vals w'∧∀d,dstOf ops j=some d->ρ (.tmp d)=vals j)->
  (∀x,JO ops rem x=true->ρ x=a.eval x)->
  Gv o ρ w' fun v w''=>R i w' w''∧J (turn done i true) (turn vals i v) w''∧S w''∧V i (turn vals i v) w'')
 (stab:∀k ∈ rem,∀i ∈ rem,i≠k->Ad md ops k i=false->∀vals w' w'',R i w' w''->V k vals w'->V k vals w'')
 (cong:∀i ∈ rem,∀vals vals' w',vals i=vals' i->(∀j ∈ rem,Ad md ops i j=true->vals j=vals' j)->V i vals w'->V i vals' w')
 (fin:∀done vals w',(∀i ∈ rem,done i=true)->J done vals w'->(∀i ∈ rem,V i vals w')->X fuel (JV listed rem) (Am ops vals a rem) w'):
 X (rem.length+fuel) listed a w:=by
 obtain⟨hspec,hnod⟩:=Ip rem [] hord;have main:∀ (n:Nat) (done:Nat->Bool) (vals:Nat->Value) (w:World),GP done rem=n->J done vals w->
  (∀i ∈ rem,done i=true->V i vals w)->(∀i ∈ rem,done i=true->∀j ∈ rem,Ad md ops i j=true->done j=true)->
  X (n+fuel) (Be done listed rem) (AR ops done vals a rem) w:=by
  intro n
  induction n with
  | zero=>
   intro done vals w hu hj hv hcl;have hall:∀i ∈ rem,done i=true:=fun i hi=>by
    cases hd:done i with
    | true=>rfl
    | false=>
     have:i ∈ rem.filter (fun i=>!done i):=List.mem_filter.2 ⟨hi,by simp [hd]⟩;unfold GP at hu;rw [Gc hu] at this;cases this
   have e1:Be done listed rem=JV listed rem:=by
    have:∀ (r:List Nat) (l:Array Bool),(∀i ∈ r,done i=true)->Be done l r=Be (fun _=>true) l r:=by
     intro r
     induction r with
     | nil=>intro l _;rfl
     | cons i r ih=>intro l h;rw [Be,Be,h i List.mem_cons_self,ih _ (fun j hj=>h j (al19_ _ hj))]
    exact this rem listed hall
   have e2:AR ops done vals a rem=Am ops vals a rem:=Gm rem a fun i hi=>⟨hall i hi,rfl⟩;rw [e1,e2,Ag]
   exact fin done vals w hall hj fun i hi=>hv i hi (hall i hi)
  | succ n ih=>
   intro done vals w hu hj hv hcl;have hex:∃i ∈ rem,done i=false:=by
    rcases Ma done rem with h | h
    . exfalso;have:rem.filter (fun i=>!done i)=[]:=List.filter_eq_nil_iff.2 fun i hi=>by simp [h i hi]
      unfold GP at hu;rw [this] at hu;cases hu
    . exact h
   obtain⟨i0,hi0,hd0,hr0⟩:=M4 hsz done rem rem [] hord rfl (fun i h=>by cases h) hex;rw [show n+1+fuel=(n+fuel)+1 by omega];refine hX _ _ _ _ (fun h=>(by rw [h] at hr0;cases hr0)) fun i hir=>?_;have hilt:i<ops.size:=by
    obtain⟨_,o,ho,_⟩:=mem_ready.1 hir;exact(Ci.1 ho).1
   have hiun:=(mem_ready.1 hir).1;rw [Bu done true i rem listed (by rw [hsz];exact hilt)] at hiun;rw [Bool.or_eq_false_iff] at hiun;have himem:i ∈ rem:=by
    by_cases hm:i ∈ rem
    . exact hm
    exfalso;have ht:=List.all_eq_true.1 htl i (List.mem_range.2 hilt);rw [hiun.1] at ht;have hc:rem.contains i=false:=by simpa using hm
    rw [hc] at ht;simp only [Bool.false_or,Eu] at ht;rcases ht with ht | ht
    . obtain⟨u,hu',hw'⟩:=List.any_eq_true.1 ht;simp only [F0,Bool.not_eq_true'] at hw';have h1:=Gl hir hw'.2;have hult:=List.mem_range.1 hu';rw [Bu done false u rem listed (by rw [hsz];exact hult)] at h1;have h2:listed.getD u false=false:=by
       have:=hw'.1.1;simp only [Array.getD_eq_getD_getElem?] at this ⊢;rw [Array.getElem?_eq_getElem (by rw [hsz];exact hult)] at this ⊢;exact this
      rw [h2,hw'.1.2] at h1;simp at h1
    . have hcl':ZU md ops rem (Be done listed rem):=by
       intro x hx hxl y hxy;have hxs:=(hspec x hx);rw [Bu done false x rem listed (by rw [hsz];exact hxs.2.2.2)] at hxl;have hx0:listed.getD x false=false:=by
        have:=hxs.1;simp only [Array.getD_eq_getD_getElem?] at this ⊢;rw [Array.getElem?_eq_getElem (by rw [hsz];exact hxs.2.2.2)] at this ⊢;exact this
       rw [hx0] at hxl;simp only [Bool.false_or,F0] at hxl;have hylist:listed.getD y false=true∨y ∈ rem:=by
        have:∀ (r pre:List Nat),D7 md ops listed pre r=true->x ∈ r->listed.getD y false=true∨y ∈ pre++r:=by
         intro r
         induction r with
         | nil=>intro pre _ h;cases h
         | cons z r ih2=>
          intro pre h hx;simp only [D7,F0] at h;rcases List.mem_cons.1 hx with rfl | hx
          . obtain⟨o,ho,e,he,hb,rfl⟩:=I7.1 hxy;have h4:=h.1.2;unfold Sn at h4;rw [ho] at h4;have:=(Array.all_eq_true_iff_forall_mem.1 h4) e he;rw [hb] at this;simp only [Bool.not_true,Bool.false_or,Eu] at this;rcases this with h | h
            . exact .inl h
            . exact .inr (List.mem_append_left _ (by simpa using h))
          . rcases ih2 _ h.2 hx with h | h
            . exact .inl h
            . exact .inr (by simpa using h)
        simpa using this rem [] hord hx
       rcases hylist with h | h
       . have hlt:y<listed.size:=by
          rcases Nat.lt_or_ge y listed.size with c | c
          . exact c
          . simp [Array.getElem?_eq_none c] at h
         rw [Bu done false y rem listed hlt,h];rfl
       . rw [Bu done false y rem listed (by rw [hsz];exact(hspec y h).2.2.2),hcl x hx hxl.2 y h hxy];simp [h]
      obtain⟨u,hum,hud⟩:=hex;have h1:=LY hcl' _ i u (fun j hj'=>Gl hir hj') (List.all_eq_true.1 ht u hum);have hus:=hspec u hum;rw [Bu done false u rem listed (by rw [hsz];exact hus.2.2.2),hud] at h1;have hu0:listed.getD u false=false:=by
       have:=hus.1;simp only [Array.getD_eq_getD_getElem?] at this ⊢;rw [Array.getElem?_eq_getElem (by rw [hsz];exact hus.2.2.2)] at this ⊢;exact this
      rw [hu0] at h1;simp at h1
   have hidone:done i=false:=by
    have:=hiun.2;simpa [himem] using this
   obtain⟨_,_,⟨o,ho,hog⟩,_⟩:=hspec i himem;have hw:Region.wanted o (yielded ops (AR ops done vals a rem).tmps)=true:=by unfold Region.wanted;rw [hog]
   have hwaitdone:∀j ∈ rem,Ad md ops i j=true->done j=true:=fun j hj' hwj=>by
    have h1:=Gl hir hwj;have hjs:=hspec j hj';rw [Bu done false j rem listed (by rw [hsz];exact hjs.2.2.2)] at h1;have hj0:listed.getD j false=false:=by
     have:=hjs.1;simp only [Array.getD_eq_getD_getElem?] at this ⊢;rw [Array.getElem?_eq_getElem (by rw [hsz];exact hjs.2.2.2)] at this ⊢;exact this
    rw [hj0] at h1;simpa [hj'] using h1
   refine⟨o,ho,hw,hmono _ _ _ _ _ (step i himem o ho done vals _ w hidone hj (fun j hj' hwj=>⟨hv j hj' (hwaitdone j hj' hwj),fun d hd=>?_⟩) (fun x hx=>Jp done vals x rem a (QH hx))) ?_⟩
   . have hdl:=List.all_eq_true.1 hdst j hj';rw [hd] at hdl;exact QS hap hnod done vals a hj' (hwaitdone j hj' hwj) hd (by simpa using hdl)
   . rintro v w' ⟨hR,hj',hS',hV'⟩;refine⟨hS',?_⟩;have e1:=(Pa done i rem listed himem).symm;have e2:(AR ops done vals a rem).put o.dst v=AR ops (turn done i true) (turn vals i v) a rem:=by
      rw [J8 hap hnod himem done hidone vals v a];rw [show dstOf ops i=o.dst by unfold dstOf;rw [ho];rfl]
     rw [e1,e2];refine ih (turn done i true) (turn vals i v) w' ?_ hj' (fun k hk hdk=>?_) (fun k hk hdk j hj'' hwj=>?_)
     . have:=PL done hnod himem hidone;omega
     . by_cases e:k=i
       . subst e;exact hV'
       . rw [turn_other _ _ e] at hdk;have hnw:Ad md ops k i=false:=by
          cases hx:Ad md ops k i with
          | false=>rfl
          | true=>have:=hcl k hk hdk i himem hx;rw [hidone] at this;cases this
         refine stab k hk i himem (Ne.symm e) hnw _ _ _ hR (cong k hk vals (turn vals i v) w (turn_other _ _ e).symm (fun j hj'' hwj=>?_) (hv k hk hdk));have hjd:=hcl k hk hdk j hj'' hwj;exact(turn_other _ _ (fun e=>by rw [e,hidone] at hjd;cases hjd)).symm
     . by_cases e:j=i
       . subst e;exact AQ _ _ _
       . rw [turn_other _ _ e];by_cases e2:k=i
         . subst e2;exact hwaitdone j hj'' hwj
         . rw [turn_other _ _ e2] at hdk;exact hcl k hk hdk j hj'' hwj
 have h0:=main (GP (fun _=>false) rem) (fun _=>false) (fun _=>undef) w rfl hJ (fun i _ h=>by cases h) (fun i _ h=>by cases h);have hu:GP (fun _=>false) rem=rem.length:=by unfold GP;simp
 have e1:∀ (r:List Nat) (l:Array Bool),Be (fun _=>false) l r=l:=by
  intro r;induction r with
  | nil=>intro l;rfl
  | cons i r ih=>intro l;rw [Be,ih];rfl
 have e2:∀ (r:List Nat) (b:Act),AR ops (fun _=>false) (fun _=>undef) b r=b:=by
  intro r;induction r with
  | nil=>intro b;rfl
  | cons i r ih=>intro b;rw [AR,ih];rfl
 rw [hu,e1,e2] at h0;exact h0
theorem A9 (rem:List Nat) (V:Nat->(Nat->Value)->World->Prop) (J:World->Prop) (R:Nat->World->World->Prop)
 (hsz:listed.size=ops.size) (hord:D7 md ops listed [] rem=true) (hap:Dk ops rem=true) (htl:Fv md ops listed rem 3=true)
 (hdst:(rem.all fun i=>match dstOf ops i with | some d=>decide (d<a.tmps.size) | none=>true)=true)
 (hJ:J w)
 (step:∀i ∈ rem,∀o,ops[i]?=some o->∀ (vals:Nat->Value) (ρ:Operand->Value) (w':World),J w'->
  (∀j ∈ rem,Ad md ops i j=true->V j vals w'∧∀d,dstOf ops j=some d->ρ (.tmp d)=vals j)->
  (∀x,JO ops rem x=true->ρ x=a.eval x)->
  Fi P o ρ w' fun v w''=>R i w' w''∧J w''∧S w''∧V i (turn vals i v) w'')
 (stab:∀k ∈ rem,∀i ∈ rem,i≠k->Ad md ops k i=false->∀vals w' w'',R i w' w''->V k vals w'->V k vals w'')
 (cong:∀i ∈ rem,∀vals vals' w',vals i=vals' i->(∀j ∈ rem,Ad md ops i j=true->vals j=vals' j)->V i vals w'->V i vals' w')
 (fin:∀vals w',J w'->(∀i ∈ rem,V i vals w')->wpAnyH P md ops Q S fuel (JV listed rem) (Am ops vals a rem) w'):
 wpAnyH P md ops Q S (rem.length+fuel) listed a w:=
 Kb (X:=wpAnyH P md ops Q S) (Gv:=Fi P) (fun fuel listed a w hne h=>⟨fun e=>absurd e hne,fun i hi=>by
  obtain⟨o,ho,hw,g⟩:=h i hi;unfold wpOp;rw [ho];simp only [hw,if_true];exact .inl (g.wp fun _ _ c=>c)⟩) (fun o ρ w C C' g hc a K Q ha hK=>g a K Q ha fun v w' c=>hK v w' (hc v w' c)) rem V (fun _ _=>J) R hsz hord hap htl hdst hJ (fun i hi o ho _ vals ρ w' _ hj=>step i hi o ho vals ρ w' hj) stab cong (fun _ vals w' _=>fin vals w')
theorem wl_ (rem:List Nat) (V:Nat->(Nat->Value)->World->Prop) (J:World->Prop) (R:Nat->World->World->Prop) (hJ:J w)
 (step:∀i ∈ rem,∀o,ops[i]?=some o->∀ (vals:Nat->Value) (ρ:Operand->Value) (w':World),J w'->
  (∀j ∈ rem,Ad md ops i j=true->V j vals w'∧∀d,dstOf ops j=some d->ρ (.tmp d)=vals j)->
  (∀x,JO ops rem x=true->ρ x=a.eval x)->
  Fi P o ρ w' fun v w''=>R i w' w''∧J w''∧S w''∧V i (turn vals i v) w'')
 (fin:∀vals w',J w'->(∀i ∈ rem,V i vals w')->wpAnyH P md ops Q S fuel (JV listed rem) (Am ops vals a rem) w')
 (stab:∀k ∈ rem,∀i ∈ rem,i≠k->Ad md ops k i=false->∀vals w' w'',R i w' w''->V k vals w'->V k vals w'':=by first | exact fun _ _ _ _ _ _ _ _ _ _ h=>h | (intro k hk i hi hne hw vals W W' hR;simp only [List.mem_cons,List.mem_nil_iff,or_false] at hk;(repeat' (rcases hk with rfl | hk));all_goals first | exact fun h=>h | exact fun⟨g,h1,h2,h3⟩=>⟨g,h1,h2,AF.keep h3 hR id⟩ | exact fun⟨g,h1,h2⟩=>⟨g,h1,h2.keep hR id⟩))
 (cong:∀i ∈ rem,∀vals vals' w',vals i=vals' i->(∀j ∈ rem,Ad md ops i j=true->vals j=vals' j)->V i vals w'->V i vals' w':=by first | exact fun i _ vals vals' _ e _ h=>by rw [<-e];exact h | (intro k hk vals vals' W he hd;simp only [List.mem_cons,List.mem_nil_iff,or_false] at hk;(repeat' (rcases hk with rfl | hk));all_goals first | exact fun h=>he.symm.trans h | exact fun⟨g,h1,h2⟩=>⟨g,he.symm.trans h1,h2⟩))
 (hsz:listed.size=ops.size:=by rfl) (hord:D7 md ops listed [] rem=true:=by kernel_rfl) (hap:Dk ops rem=true:=by kernel_rfl) (htl:Fv md ops listed rem 3=true:=by kernel_rfl)
 (hdst:(rem.all fun i=>match dstOf ops i with | some d=>decide (d<a.tmps.size) | none=>true)=true:=by kernel_rfl):wpAnyH P md ops Q S (rem.length+fuel) listed a w:=A9 rem V J R hsz hord hap htl hdst hJ step stab cong fin
theorem Fk (hd:dstOf ops i=some d)
 (hs:Region.noSelect ops=true) (hf:Region.free md ops listed i=true) (hr:(Region.ready md ops listed).contains i=true)
 (hQ:∀c a w,Q (.panic c) (a.put (some d) v) w->Q (.panic c) a w) (hy:∀oi,ops[i]?=some oi->YieldsIf P ops S oi v a) (hS:S w)
 (h:wpAnyH P md ops Q S fuel (listed.setIfInBounds i true) (a.put (some d) v) w):wpAnyH P md ops Q S (fuel+1) listed a w:=by
 cases ho:ops[i]? with
 | none=>unfold dstOf at hd;rw [ho] at hd;cases hd
 | some o=>
  have e:o.dst=some d:=by unfold dstOf at hd;rw [ho] at hd;exact hd
  exact wpAnyH_take ho hs hf hr (by rw [e];exact hQ) (hy o ho) hS (by rw [e];exact h)
theorem tk (i:Nat) (hS:S w) (h:wpAnyH P md ops Q S fuel (listed.setIfInBounds i true) a2 w) (hd:dstOf ops i=some d:=by rfl)
 (hs:Region.noSelect ops=true:=by kernel_rfl) (hf:Region.free md ops listed i=true:=by kernel_rfl) (hr:(Region.ready md ops listed).contains i=true:=by kernel_rfl)
 (hQ:∀c a w,Q (.panic c) (a.put (some d) v) w->Q (.panic c) a w:=by exact fun _ _ _ h=>by first | exact h | exact hQ_ h) (hy:∀oi,ops[i]?=some oi->YieldsIf P ops S oi v a:=by intro oi ho;cases ho;refine Or.inl ⟨by rfl,?_⟩;intro w' hS;(try dsimp only at hS);go_simp;try with_reducible rfl) (ha:a.put (some d) v=a2:=by conv=>lhs;simp only [Act.put,List.setIfInBounds_toArray,List.set_cons_zero,List.set_cons_succ]):wpAnyH P md ops Q S (fuel+1) listed a w:=
 Fk hd hs hf hr hQ hy hS (ha ▸ h)
theorem tq (i:Nat) (hS:S w) (h:wpAnyH P md ops Q S fuel (listed.setIfInBounds i true) a2 w) (hd:dstOf ops i=some d:=by rfl)
 (hs:Region.noSelect ops=true:=by kernel_rfl) (hf:Region.free md ops listed i=true:=by kernel_rfl) (hr:(Region.ready md ops listed).contains i=true:=by kernel_rfl)
 (hQ:∀c a w,Q (.panic c) (a.put (some d) v) w->Q (.panic c) a w:=by exact fun _ _ _ h=>by first | exact h | exact hQ_ h) (hy:∀oi,ops[i]?=some oi->YieldsIf P ops S oi v a:=by intro oi ho;cases ho;refine Or.inl ⟨by kernel_rfl,?_⟩;intro w' hS;(try dsimp only at hS);obtain⟨_,hc0,hc1,hc2,hc3,hd0,hd1⟩:=hS;go_simp;(first | done | with_reducible rfl | rfl)) (ha:a.put (some d) v=a2:=by conv=>lhs;simp only [Act.put,List.setIfInBounds_toArray,List.set_cons_zero,List.set_cons_succ]):wpAnyH P md ops Q S (fuel+1) listed a w:=
 Fk hd hs hf hr hQ hy hS (ha ▸ h)
theorem tb_ (i:Nat) (hS:S w) (h:wpAnyH P md ops Q S fuel (listed.setIfInBounds i true) a2 w) (hd:dstOf ops i=some d:=by rfl)
 (hs:Region.noSelect ops=true:=by kernel_rfl) (hf:Region.free md ops listed i=true:=by kernel_rfl) (hr:(Region.ready md ops listed).contains i=true:=by kernel_rfl)
 (hQ:∀c a w,Q (.panic c) (a.put (some d) v) w->Q (.panic c) a w:=by exact fun _ _ _ h=>by first | exact h | exact hQ_ h) (hy:∀oi,ops[i]?=some oi->YieldsIf P ops S oi v a:=by intro oi ho;cases ho;refine Or.inl ⟨by rfl,?_⟩;intro w' hS;go_simp;try with_reducible rfl) (ha:a.put (some d) v=a2:=by conv=>lhs;simp only [Act.put,List.setIfInBounds_toArray,List.set_cons_zero,List.set_cons_succ]):wpAnyH P md ops Q S (fuel+1) listed a w:=
 Fk hd hs hf hr hQ hy hS (ha ▸ h)
theorem tn (i:Nat) (hS:S w) (h:wpAnyH P md ops Q S fuel (listed.setIfInBounds i true) a2 w) (hd:dstOf ops i=some d:=by rfl)
 (hs:Region.noSelect ops=true:=by kernel_rfl) (hf:Region.free md ops listed i=true:=by kernel_rfl) (hr:(Region.ready md ops listed).contains i=true:=by kernel_rfl)
 (hQ:∀c a w,Q (.panic c) (a.put (some d) undef) w->Q (.panic c) a w:=by exact fun _ _ _ h=>by first | exact h | exact hQ_ h) (hy:∀oi,ops[i]?=some oi->YieldsIf P ops S oi undef a:=by intro oi ho;cases ho;exact Or.inr ⟨by kernel_rfl,rfl⟩) (ha:a.put (some d) undef=a2:=by conv=>lhs;simp only [Act.put,List.setIfInBounds_toArray,List.set_cons_zero,List.set_cons_succ]):wpAnyH P md ops Q S (fuel+1) listed a w:=
 Fk hd hs hf hr hQ hy hS (ha ▸ h)
end
structure BU (ty:TypeId) (B:Nat) (w w':World):Prop where
 k:AD (fun b=>B<=b∧∃xs,AF w b ty xs) w w'
 t:∀ (b:Nat) (xs:List Value),B<=b->AF w b ty xs->∃ys,ys.length=xs.length∧AF w' b ty ys
namespace BU
variable {ty B:Nat} {w w':World}
theorem of_new (h:AJ w w'):BU ty B w w':=⟨h.mono fun _ f=>f.elim,fun _ xs _ hb=>⟨xs,rfl,hb.keep h id⟩⟩
theorem set {b:Nat} (h:AF w b ty xs) (hB:B<=b) (i:Nat) (v:Value):BU ty B w (w.setCell (b i) v):=
 ⟨(keeps_set v).mono fun j e=>by subst e;exact⟨hB,xs,h⟩,fun c ys hc hy=>by
  by_cases e:c=b
  . subst e;exact⟨ys.set i v,by simp,hy.set i v⟩
  . exact⟨ys,rfl,hy.far (fun e'=>e e'.symm) v⟩⟩
theorem trans {a:World} (h:BU ty B a w) (k:BU ty B w w'):BU ty B a w':=
 ⟨h.k.trans k.k fun j hj ⟨hB,xs,hx⟩=>by
  refine⟨hB,?_⟩;by_cases e:∃ys,AF a j ty ys
  . exact e
  . exact⟨xs,by have:=h.k.block j hj (fun c=>e c.2);unfold AF at*;rw [<-this];exact hx⟩,
  fun b xs hB hb=>by
   obtain⟨ys,h1,h2⟩:=h.t b xs hB hb;obtain⟨zs,h3,h4⟩:=k.t b ys hB h2;exact⟨zs,by rw [h3,h1],h4⟩⟩
theorem new (h:BU ty B w w') (hB:w.heap.size<=B):AJ w w':=⟨h.k.os,h.k.tape,h.k.output,h.k.size,fun j hj _=>h.k.block j hj fun c=>by omega⟩
theorem owns {e:Nat} (h:BU ty B w w') (o:w.ownsRow base e size v n xs) (hne:e≠ty):w'.ownsRow base e size v n xs:=by
 refine⟨o.1,?_⟩;rcases o.2 with h0 | ⟨g,cap,cur,hv,hb,hg,r⟩
 . exact .inl h0
 . exact .inr ⟨g,cap,cur,hv,hb,(h.k.block g (Ci.1 hg).1 (fun c=>by
    obtain⟨_,ys,hy⟩:=c;unfold AF at hy;rw [hg] at hy;injection hy with hy;injection hy with _ hy;exact hne hy)).trans hg,r⟩
end BU
end
theorem Ap {α:Type} {f:Nat->α} {x:α}:turn f i x i=x:=AQ f i x
theorem rh_ {P:Program} {ops:Array Oper} {Q:Exit->Act->World->Prop} {id:Nat} (S:World->Prop) (hS:S w.drew) (h:S w.drew->wpAnyH P .any ops Q S ops.size (Array.replicate ops.size false) a w.drew) (hm:P.follows .mixedOrders=true:=by kernel_rfl):(Code.region id ops true).wp P Q a w:=wp_region_held_drew hm hS h
theorem Sf (h:Bt w gb n ao cp m e):
 Calls prog 248 #[.slice gb n cap] w (HangP w n m e):=by
 have hf:=h.few;have hm3:=fun(W:World)=>run_make_row' (P:=prog) 22 3 (.int .i64 0) 8 underlying22 Io rfl .i64 .i64 n (by omega) (by omega) W;have hm22:=fun(W:World)=>run_make_row' (P:=prog) 158 22 (.slice none 0 0) 24 underlying158 IV rfl .i64 .i64 n (by omega) (by omega) W;have hmm:= @run_makeMap prog;obtain⟨i0,KI,KZ0,KZ1,KZ2⟩:=ik_ Io;have H:=Ae h;clear h;go_in;go_wp2_with fail;have R0:=CV w (.int .i64 0) n 3;have R1:=CV (w.alloc (.cells (madeCells #[.int .i64 0] n) 3)) (.slice none 0 0) n 22;rw [Ay] at R1;have K0:AJ w ((w.alloc (.cells (madeCells #[.int .i64 0] n) 3)).alloc (.cells (madeCells #[.slice none 0 0] n) 22)):=((AD.refl _ w).alloc _).alloc _;have U0:Cg ((w.alloc (.cells (madeCells #[.int .i64 0] n) 3)).alloc (.cells (madeCells #[.slice none 0 0] n) 22)) (w.heap.size+1) (w.heap.size+1+1) n (fun _=>[]) (fun _=> .slice none 0 0):=
  ⟨R1,fun u hu=>Gs,fun u v b hu hv hne hb=>by simp [Value.ownBlock] at hb,by omega⟩
 have R0':=R0.alloc (.cells (madeCells #[.slice none 0 0] n) 22);obtain⟨wb,hwb⟩:=ex w.heap.size;obtain⟨W0,hW0⟩:=ex ((w.alloc (.cells (madeCells #[.int .i64 0] n) 3)).alloc (.cells (madeCells #[.slice none 0 0] n) 22));rw [hW0] at K0 U0 R0';rw [hwb] at R0' U0;rw [hW0,hwb];have KW0:=Ae K0;have KU0:=Ae U0;have KR0:=Ae R0';have hz:w.heap.size=wb:=hwb;have HZ:=Ae hz;clear R0 R1 R0' K0 U0 hW0 hwb hz hm3 hm22;go_loopw [17] (fun i wr=>∃k:Nat,k<=n∧i= .int .i64 k∧AJ w wr∧wr.rowIs wb 3 n (fun x=> .int .i64 (Jm m e n k 0 x))∧∃vals,Cg wr (wb+1) (wb+1+1) n (Ms m e k 0) vals) (fun i _=>n - (intOf i).toNat);case atStart=>exact⟨0,by omega,rfl,KW0.out,KR0.out.congr fun j hj=>by rw [Wl],_,KU0.out.congr fun u hu=>by rw [Wq]⟩
 case round=>
  obtain⟨k,hk,rfl,kp0,r0,vals,u0⟩:=hrel;have KP:=Ae kp0;have KR:=Ae r0;have KU:=Ae u0;have H1:=Ae (H.out.new kp0);clear kp0 r0 u0;by_cases hlt:k<n
  . have c:=H1.out.row k hlt;have hd:=H1.out.deg k hlt;have NU:=Ae (fun W (kW:AJ w W)=>(H.out.new kW).num k hlt);have LE:=Ae (H1.out.less k hlt);obtain⟨a,ha⟩:=ex (ao k);obtain⟨q,hq⟩:=ex (m k);rw [ha,hq] at c;rw [hq] at hd;have HA:=Ae ha;have HQ:=Ae hq;clear ha hq;generalize cp k=p at*;go_wp2_with fail;clear c;obtain⟨mb,hmb⟩:=ex wr.heap.size;obtain⟨W1,hW1⟩:=ex (wr.alloc (.map #[] 0));have K1:=Ae (KP.out.alloc (.map #[] 0));have N1:=(nr wr).alloc (.map #[] 0);have R1:=Ae (rowIs_keep KR.out N1 id);have U1:=Ae (KU.out.keep N1 id fun _ _ _=>id);have M1:=Ae (Bs.made wr);have O1:AG (∀u,u<n->(vals u).ownBlock≠some mb):=⟨fun u hu hc=>by have:=((KU.out.o u hu).lt mb hc).2;omega⟩;have hwm:AG (wb+1+1<=mb):=⟨by rw [<-hmb];have:=KU.out.r.lt;omega⟩;rw [hmb] at M1;rw [hW1] at K1 R1 U1 M1;rw [hW1,hmb];clear N1 hmb hW1 KP KR KU H1;go_loopw [25] (fun i wq=>∃j q',j<=q∧q'<=j∧i= .int .i64 ((j:Nat):Int)∧AJ w wq∧wq.rowIs wb 3 n (fun x=> .int .i64 (Jm m e n k j x))∧Bs wq mb q' (Dc (e k) j)∧∃vals,Cg wq (wb+1) (wb+1+1) n (Ms m e k j) vals∧∀u,u<n->(vals u).ownBlock≠some mb) (fun i _=>q - (intOf i).toNat);case atStart=>exact⟨0,0,by omega,by omega,rfl,K1.out,R1.out,M1.out,vals,U1.out,O1.out⟩
    case round=>
     obtain⟨j,q',hj,hq',rfl,kq,rq,mq,vq,uq,oq⟩:=hrel;have KQ:=Ae kq;have RQ:=Ae rq;have MQ:=Ae mq;have UQ:=Ae uq;have OQ:=Ae oq;clear kq rq mq uq oq;by_cases hlt2:j<q
     . obtain⟨b,hb,cj⟩:=NU.out wr KQ.out j (by rw [HQ.out];exact hlt2);rw [HA.out] at hb;subst hb;have le:=LE.out j (by rw [HQ.out];exact hlt2);obtain⟨x,hx⟩:=ex (e k j);rw [hx] at cj le;have HX:=Ae hx;clear hx;obtain⟨s,hs⟩:=ex (Dc (e k) j x);have HS:=Ae hs;clear hs;go_wp2_with fail;refine(Fy MQ.out x (by omega) HS.out).mono ?_;rintro z' w2 ⟨rfl,k2⟩;have K2:=Ae (KQ.out.then_ k2);have R2:=Ae (rowIs_keep RQ.out k2 id);have M2:=Ae (MQ.out.keep k2 id);have U2:=Ae (UQ.out.keep k2 id fun _ _ _=>id);clear k2 cj;cases s
       . go_wp2_with fail;refine(Hs M2.out x (by omega) (by omega)).mono ?_;rintro z' w3 ⟨rfl,k3,m3⟩;have K3:=Ae (K2.out.trans k3 fun i hi e=>by have:=hwm.out;have:=HZ.out;omega);have R3:=Ae (rowIs_keep R2.out k3 (fun e=>by have:=hwm.out;omega));have U3:=Ae (U2.out.keepOwn k3 (fun e=>by have:=hwm.out;omega) (fun u b hu hb e=>OQ.out u hu (by rw [hb,e])));have M3:=Ae m3;clear k3 m3;have c3:=R3.out.cell hlt;have f3:=R3.out.frozen k;have bd:=UW m e n k j k;have US:=Ae (U3.out.keep (keeps_set (b:=wb) (o:=k) (.int .i64 (Jm m e n k j k+1))) (fun e=>by omega) (fun b h1 h2 e=>by omega));have RS:=Ae ((R3.out.set k (.int .i64 (Jm m e n k j k+1))).congr (g:=fun x=> .int .i64 (Jm m e n k (j+1) x)) fun y hy=>by
          rw [Z9 (by rw [HX.out];exact HS.out) (by rw [HX.out];omega)];by_cases c:y=k <;> simp [c])
         have MS:=Ae (M3.out.keep (keeps_set (b:=wb) (o:=k) (.int .i64 (Jm m e n k j k+1))) (fun e=>by have:=hwm.out;omega));have KS:=Ae (K3.out.trans (keeps_set (b:=wb) (o:=k) (.int .i64 (Jm m e n k j k+1))) fun i hi e=>by have:=HZ.out;omega);have ll:=Zf m e k j x;obtain⟨ax,cx,hvx⟩:=AI (U3.out.o x (by omega));have c4:=U3.out.r.cell (i:=x) (by omega);have f4:=U3.out.r.frozen x;have OX:=US.out.o x (by omega);rw [hvx] at c4 OX;have OX:=Ae OX;have HVX:=Ae hvx;have hs3:wb+1+1<=w3.heap.size:=by have:=U3.out.r.lt;omega
         clear hvx;generalize Jm m e n k j k=wv at*;obtain⟨lx,hlx⟩:=ex ((Ms m e k j x).length);rw [hlx] at c4 OX ll HVX;have HLX:=Ae hlx;clear hlx;go_wp2_with (at_builtin;refine wpList_append_lies _ rfl (.tmp 46) (.tmp 48) 22 rfl (wb+1+1) 3 i0 _ 1 8 underlying22 KI.out KZ0.out KZ1.out KZ2.out rfl (by decide) (.slice ax lx cx) lx (Li (Ms m e k j x)) rfl (OX.out.alloc _) (w3.heap.size 0) 1 1 [.int .i64 k] rfl rfl (Pm _ _ _ _ (by simp)) (by simp [Value.oneCell']) (by omega) (by unfold maxLen;omega) (by omega) (by simp;omega) _ rfl ?_;intro g cx2 w5 own5 grow5 hat5 hlt5;have hne:¬some (wb+1)=(Value.slice ax lx cx).ownBlock:=(fun e=>by have:=(OX.out.lt (wb+1) e.symm).1;omega);have UA:=US.out.keep ((nr _).alloc (.cells #[.int .i64 k] 3)) id (fun _ _ _=>id);have hk5:=(AD.refl (fun j=>some j=(Value.slice ax lx cx).ownBlock) _).grown grow5 (fun j e _=>e.symm);have c5:=(hk5.cell (p:=((wb+1) x)) UA.r.lt hne).trans ((UA.r.cell (i:=x) (by omega)).trans (congrArg some HVX.out));have f5:=(hk5.frozen (p:=((wb+1) x)) UA.r.lt hne).trans (UA.r.frozen x);have UA:=Ae UA;have GK:=Ae grow5;have OW:=Ae own5;have HA5:=Ae hat5;have HK5:=Ae hk5;clear own5 grow5 hat5 hk5 hne);have UF:=UA.out.put x (by omega) (by rw [HVX.out];exact GK.out) (by rw [HLX.out];exact OW.out) (by rw [HVX.out];rcases HA5.out with e | e;exact .inl e;exact .inr (by omega));rw [HLX.out] at UF;have hb5:∀b,(Value.slice ax lx cx).ownBlock=some b->wb+1+1<=b∧b<w3.heap.size:=fun b hb=>by have:=OX.out.lt b hb;simpa using this
         have hwm':=hwm.out;have hz':=HZ.out;have hg5:g≠mb:=by
          rcases HA5.out with e | e
          . intro c;rw [c] at e;exact OQ.out x (by omega) (HVX.out ▸ e)
          . have h1:=M3.out.lt;simp at e;omega
         have KA:AD (fun j=>some j=(Value.slice ax lx cx).ownBlock∨j=wb+1) (w3.setCell (wb k) (.int .i64 (wv+1))) (w5.setCell ((wb+1) x) (.slice g (lx+1) cx2)):=
          (((AD.refl (fun j=>some j=(Value.slice ax lx cx).ownBlock∨j=wb+1) _).alloc (.cells #[.int .i64 k] 3)).then_ (HK5.out.mono fun j e=> .inl e)).then_ ((keeps_set _).mono fun j e=> .inr e)
         go_roundw;case rel=>
          refine⟨j+1,q'+1,by omega,by omega,by go_num,KS.out.trans KA (fun i hi e=>?_),rowIs_keep RS.out KA (fun e=>?_),(MS.out.keep KA (fun e=>?_)).congr (fun u=>by rw [Dc,HX.out]),_,UF.congr (fun u hu=>?_),fun u hu=>?_⟩
          . rcases e with e | e
            . have:=hb5 i e.symm;omega
            . omega
          . rcases e with e | e
            . have:=hb5 wb e.symm;omega
            . omega
          . rcases e with e | e
            . exact OQ.out x (by omega) (by rw [HVX.out];exact e.symm)
            . omega
          . rw [Ze (by rw [HX.out];exact HS.out),HX.out];by_cases c:u=x
            . subst c;rw [upd_same,if_pos rfl]
            . rw [uo_ c,if_neg c]
          . by_cases c:u=x
            . subst c;rw [upd_same];intro hc;injection hc with hc;exact hg5 hc
            . rw [uo_ c];exact OQ.out u hu
         case measure=>simp [intOf];omega
       . go_wp2;go_roundw;case rel=>
          refine⟨j+1,q',by omega,by omega,by go_num,K2.out,R2.out.congr (fun y hy=>?_),M2.out.congr (fun u=>?_),vq,U2.out.congr (fun u hu=>?_),OQ.out⟩
          . rw [Z8 (by rw [HX.out];exact HS.out)]
          . rw [Dc,HX.out];by_cases c:u=x
            . subst c;simp [HS.out]
            . simp [c]
          . rw [Zd (by rw [HX.out];exact HS.out)]
         case measure=>simp [intOf];omega
     . obtain rfl:q=j:=by omega
       go_wp2;go_roundw;case rel=>
        refine⟨k+1,by omega,by go_num,KQ.out,RQ.out.congr (fun y hy=>?_),vq,UQ.out.congr (fun u hu=>?_)⟩
        . rw [<-HQ.out,Wm]
        . rw [<-HQ.out,Wr]
       case measure=>simp [intOf];omega
  . obtain rfl:n=k:=by omega
    go_wp2;go_ret2;exact⟨wb,wb+1,vals,rfl,KP.out,KR.out.congr (fun y hy=>by rw [Za m e hy]),KU.out.congr (fun u hu=>Zg m e n u),by have:=HZ.out;omega,by omega⟩
theorem Af (b off j:Nat):((b off):Addr).add j=(b (off+j)):=by unfold Addr.add;split <;> simp_all
theorem L6 {l:List Nat} (h:w.ownsRow base 3 1 v l.length (Li l)) (j:Nat) (hj:j<l.length):∃g c,v= .slice (some ⟨g,0,none⟩) l.length c∧w.cell? ⟨g,j,none⟩=some (.int .i64 (l[j]:Int))∧base<=g∧g<w.heap.size:=by
 obtain⟨g,c,hv,hb,hl⟩:=h.form (by omega);refine⟨g,c,hv,?_,hb,hl⟩;have:=h.cells (g:=g) (by rw [hv];rfl) j (.int .i64 (l[j]:Int)) (by simp [Li,hj]);rw [Af] at this;simpa using this
def ZK (w:World) (n:Nat) (en:Ending) (w':World):Prop:=
 ∃ao c,en= .returned (.tuple #[.slice ao n c, .int .i64 0])∧AJ w w'∧w'.ownsRow w.heap.size 3 1 (.slice ao n c) n (Li (List.range n))
theorem Fe (h:Bt w gb n ao cp m e):
 Calls prog 189 #[.slice gb n cap] w (ZK w n):=by
 have hf:=h.few;have hmm:= @run_makeMap prog;obtain⟨i0,KI,KZ0,KZ1,KZ2⟩:=ik_ Io;have H:=Ae h;clear h;go_in;go_wp2_with fail;refine(M7 H.out).mono ?_;rintro z' w' ⟨rfl,rfl⟩;go_wp2_with fail;refine(Sf H.out).mono ?_;rintro z' w1 ⟨wb,ub,vals,rfl,n1,r1,u1,lo,hwu⟩;go_wp2_with fail;obtain⟨mb,hmb⟩:=ex w1.heap.size;obtain⟨W1,hW1⟩:=ex (w1.alloc (.map #[] 0));have K1:=Ae (n1.alloc (.map #[] 0));have N1:=(nr w1).alloc (.map #[] 0);have R1:=Ae (rowIs_keep r1 N1 id);have U1:=Ae (u1.keep N1 id fun _ _ _=>id);have M1:=Ae (Bs.made w1);have O1:AG (∀u,u<n->∀b,(vals u).ownBlock=some b->ub+1<=b∧b<mb):=⟨fun u hu b hb=>by have:=(u1.o u hu).lt b hb;omega⟩;have hum:ub<mb:=by rw [<-hmb];exact u1.r.lt
 have hsz:mb+1<=W1.heap.size:=by rw [<-hW1, <-hmb];simp
 rw [hmb] at M1;rw [hW1] at K1 R1 U1 M1;rw [hW1,hmb];clear N1 hmb hW1 n1 r1 u1;go_loopw [8] (fun s wr=>∃k ao c,k<=n∧s= .slice ao k c∧AJ w' wr∧wr.ownsRow (mb+1) 3 1 (.slice ao k c) k (Li (List.range k))∧wr.rowIs wb 3 n (fun v=> .int .i64 (left m e n k v))∧Cg wr ub (ub+1) n (CW m e n) vals∧Bs wr mb k (fun v=>decide (v<k))) (fun s _=>n - (match s with | .slice _ q _=>q | _=>0));case atStart=>exact⟨0,none,0,by omega,rfl,K1.out,Gs,R1.out,U1.out,M1.out.congr fun i=>by simp⟩
 case round=>
  obtain⟨k,a,c,hk,rfl,kp,op,rp,up,mp⟩:=hrel;have KP:=Ae kp;have OP:=Ae op;have RP:=Ae rp;have UP:=Ae up;have MP:=Ae mp;clear kp op rp up mp;by_cases hlt:k<n
  . go_wp2_with fail;obtain⟨wo,rfl⟩:∃wo,wo=wr:=⟨_,rfl⟩;go_loopw [9] (fun s wq=>∃v:Nat,v<=k∧s= .int .i64 v∧AJ wo wq) (fun s _=>n - (intOf s).toNat);case atStart=>exact⟨0,by omega,rfl,kx_⟩
    case round=>
     obtain⟨v,hv,rfl,kq⟩:=hrel;have KQ:=Ae kq;have MQ:=Ae (MP.out.keep kq id);have RQ:=Ae (rowIs_keep RP.out kq id);clear kq;by_cases hvk:v<k
     . have hs:decide (v<k)=true:=by simpa using hvk
       have HS:=Ae hs;clear hs;go_wp2_with fail;refine(Fy MQ.out v (by omega) HS.out).mono ?_;rintro z' w2 ⟨rfl,k2⟩;have K2:=Ae (KQ.out.then_ k2);clear k2;go_wp2;go_roundw;case rel=>exact⟨v+1,by omega,by go_num,K2.out⟩
       case measure=>simp [intOf];omega
     . obtain rfl:v=k:=by omega
       have hs:AG (decide (v<v)=false):=⟨by simp⟩;go_wp2_with fail;refine(Fy MQ.out v (by omega) hs.out).mono ?_;rintro z' w2 ⟨rfl,k2⟩;have K2:=Ae (KQ.out.then_ k2);have c2:=(rowIs_keep RQ.out k2 id).cell hlt;rw [VI hlt (H.out.less v hlt)] at c2;clear k2;go_wp2_with fail;have M2:=MP.out.keep K2.out id;refine(Hs M2 v (by omega) (by omega)).mono ?_;rintro z' w3 ⟨rfl,k3,m3⟩;have lo3:mb+1<=w3.heap.size:=by have:=K2.out.size;have:=k3.size;have:=MP.out.lt;omega
       have K3:=Ae ((K2.out.mono (T:=(· =mb)) fun _ h=>h.elim).then_ k3);have O3:=Ae (BN OP.out K3.out (fun j hj e=>by omega));have R3:=Ae (rowIs_keep RP.out K3.out (fun e=>by omega));have U3:=Ae (UP.out.keepOwn K3.out (fun e=>by omega) (fun u b hu hb e=>by have:=(O1.out u hu b hb).2;omega));have M3:=Ae (m3.congr (g:=fun x=>decide (x<v+1)) fun x=>by
        rw [Bool.eq_iff_iff];simp;omega)
       clear k3 m3 c2 M2;obtain⟨ar,cr,hax⟩:=AI (UP.out.o v hlt);obtain⟨lr,hlr⟩:=ex ((CW m e n v).length);rw [hlr] at hax;have hlr2:lr<=n:=by rw [<-hlr];exact Mr m e n v
       have HAX:=Ae hax;have HLR:=Ae hlr;clear hax hlr;go_wp2_with (at_builtin;refine wpList_append_lies _ rfl (.tmp 53) (.tmp 55) 22 rfl (mb+1) 3 i0 _ 1 8 underlying22 KI.out KZ0.out KZ1.out KZ2.out rfl (by decide) (.slice a v c) v (Li (List.range v)) rfl (O3.out.alloc _) (w3.heap.size 0) 1 1 [.int .i64 v] rfl rfl (Pm _ _ _ _ (by simp)) (by simp [Value.oneCell']) (by omega) (by unfold maxLen;omega) (by omega) (by simp;omega) _ rfl ?_;intro g cx2 w5 own5 grow5 hat5 hlt5;have hk5:=(AD.refl (fun j=>mb+1<=j) w3).alloc (.cells #[.int .i64 v] 3) |>.grown grow5 (fun j e _=>(O3.out.lt j e).1);have K5:=Ae hk5;have OW:=Ae own5;have R5:=Ae (rowIs_keep R3.out hk5 (fun e=>by omega));have U5:=Ae (U3.out.keepOwn hk5 (fun e=>by omega) (fun u b hu hb e=>by have:=(O1.out u hu b hb).2;omega));have M5:=Ae (M3.out.keep hk5 (fun e=>by omega));have c5:=U5.out.r.cell hlt;rw [HAX.out] at c5;clear own5 grow5 hat5 hk5);clear c5;obtain⟨W5,rfl⟩:∃W5,W5=w5:=⟨_,rfl⟩;go_loopw [62] (fun s wq=>∃j:Nat,j<=lr∧s= .int .i64 j∧AD (· =wb) W5 wq∧wq.rowIs wb 3 n (fun x=> .int .i64 (Ca m e n v j x))) (fun s _=>lr - (intOf s).toNat);case atStart=>exact⟨0,by omega,rfl,kx_,R5.out.congr fun x hx=>by rw [Pr]⟩
       case round=>
        obtain⟨j,hj,rfl,k6,r6⟩:=hrel;have K6:=Ae k6;have R6:=Ae r6;have U6:=Ae (U5.out.keepOwn k6 (fun e=>by omega) (fun u b hu hb e=>by have:=(O1.out u hu b hb).1;omega));clear k6 r6;by_cases hlt2:j<lr
        . obtain⟨gr,c',hv',cj,hb1,hb2⟩:=L6 (U6.out.o v hlt) j (by rw [HLR.out];exact hlt2);rw [HAX.out] at hv';injection hv' with hv1 hv2 hv3;subst hv1;have HJ:=Ae hlt2;have HX:AG (∃h,(CW m e n v)[j]'h=(CW m e n v)[j]'(by rw [HLR.out];exact hlt2)):=⟨_,rfl⟩;have hxn:(CW m e n v)[j]'(by rw [HLR.out];exact hlt2)<n:=Wp (List.getElem_mem _);have LS:AG (∀x,Ca m e n v (j+1) x=if x=(CW m e n v)[j]'(by rw [HLR.out];exact hlt2) then Ca m e n v j x - 1 else Ca m e n v j x):=⟨Ps m e (by rw [HLR.out];exact hlt2)⟩;generalize (CW m e n v)[j]'(by rw [HLR.out];exact hlt2)=x at*;clear HX;have c6:=R6.out.cell hxn;have f6:=R6.out.frozen x;have b6:=OL m e (n:=n) (k:=v) (by omega) j x;have RS:=Ae ((R6.out.set x (.int .i64 (Ca m e n v j x - 1))).congr (g:=fun y=> .int .i64 (Ca m e n v (j+1) y)) fun y hy=>by
           rw [LS.out];by_cases q:y=x
           . subst q;simp
           . simp [q])
          have KS:=Ae (K6.out.then_ (keeps_set (b:=wb) (o:=x) (.int .i64 (Ca m e n v j x - 1))));generalize Ca m e n v j x=lv at*;go_wp2;go_roundw;case rel=>exact⟨j+1,by omega,by go_num,KS.out,RS.out⟩
          case measure=>simp [intOf];omega
        . obtain rfl:lr=j:=by omega
          go_wp2;go_roundw;case rel=>
           refine⟨v+1,_,_,by omega,rfl,?_,?_,?_,?_,?_⟩
           . exact((KP.out.trans K3.out (fun i hi e=>by omega)).trans K5.out (fun i hi e=>by omega)).trans K6.out (fun i hi e=>by omega)
           . rw [List.range_succ];have:=BN OW.out K6.out (fun i hi e=>by omega);simpa [Li] using this
           . exact R6.out.congr fun x hx=>by rw [<-HLR.out,SV m e hx]
           . exact U6.out
           . exact M5.out.keep K6.out (fun e=>by omega)
          case measure=>simp;omega
  . obtain rfl:n=k:=by omega
    go_wp2;go_ret2;refine⟨a,c,rfl,KP.out,OP.out.1,?_⟩;rcases OP.out.2 with h0 | ⟨g,cap',cur,hv,hb,r⟩
    . exact .inl h0
    . exact .inr ⟨g,cap',cur,hv,by omega,r⟩
theorem QF (h:Bt w gb n ao cp m e):
 Calls prog 124 #[.slice gb n cap] w (Az w):=by
 have H:=Ae h;clear h;go_in;go_wp2_with fail;refine(Fe H.out).mono ?_;rintro z' w1 ⟨ao',c',rfl,k1,o1⟩;go_wp2;go_ret;exact⟨rfl,k1⟩
theorem Fq:inf_ prog 62=some (some (.agg #[.int .u8 0, .slice none 0 0, .int .u64 0, .int .i64 0, .int .i64 0, .int .i64 0]),6,64):=by kernel_rfl
theorem Uz (ao:Option Addr) (m c:Nat) (xs:List Value) (w:World) (src:Src w ao m c 6 xs) (hm:m<=100000):
 Calls prog 75 #[.slice ao m c] w (MJ 62 6 w ao m xs):=by
 obtain⟨i0,KI,KZ0,KZ1,KZ2⟩:=ik_ Fq;have KS:=Ae src;clear src
 cases ao with
 | none=>
  obtain⟨rfl,rfl⟩:=KS.out.none rfl;have hx:xs=[]:=Gc (by have:=KS.out.len;omega);subst hx;go_in;go_wp2;go_ret
  exact⟨none,0,rfl,kx_,Gs,fun _=>rfl⟩
 | some ad=>
  have KO:=Ae (WT w w.heap.size 62 6);have KM:=Ae (show 0+m<=maxLen by unfold maxLen;omega);go_in;go_wp2_with (at_builtin;refine wpList_append_own _ rfl (.const (.slice none 0 0)) (.tmp 3) 25 rfl w.heap.size 62 i0 _ 6 64 underlying25 KI.out KZ0.out KZ1.out KZ2.out rfl (by decide) _ _ _ rfl KO.out ad m c xs rfl KS.out.len (KS.out.cells ad rfl) KS.out.one KM.out (by omega) (al11_ _) ?_;intro v' w2 own2 grow2 _;obtain⟨a',c',hv⟩:=AI own2;subst hv;have KO2:=Ae own2;have K2:=Ae ((nr w).grown grow2 (fun j e hj=>absurd (KO.out.lt j e).1 (by omega)));clear own2 grow2);have own2:=KO2.out;simp only [Ag,CK] at own2;go_ret;exact⟨a',c',by simp,K2.out,own2,fun e=>by cases e⟩
theorem Gy:inf_ prog 47=some (some (.agg #[.int .i64 0, .int .i64 0, .bool false]),3,24):=by kernel_rfl
theorem zK (ao:Option Addr) (m c:Nat) (xs:List Value) (w:World) (src:Src w ao m c 3 xs) (hm:m<=100000):
 Calls prog 76 #[.slice ao m c] w (MJ 47 3 w ao m xs):=by
 obtain⟨i0,KI,KZ0,KZ1,KZ2⟩:=ik_ Gy;have KS:=Ae src;clear src
 cases ao with
 | none=>
  obtain⟨rfl,rfl⟩:=KS.out.none rfl;have hx:xs=[]:=Gc (by have:=KS.out.len;omega);subst hx;go_in;go_wp2;go_ret
  exact⟨none,0,rfl,kx_,Gs,fun _=>rfl⟩
 | some ad=>
  have KO:=Ae (WT w w.heap.size 47 3);have KM:=Ae (show 0+m<=maxLen by unfold maxLen;omega);go_in;go_wp2_with (at_builtin;refine wpList_append_own _ rfl (.const (.slice none 0 0)) (.tmp 3) 26 rfl w.heap.size 47 i0 _ 3 24 underlying26 KI.out KZ0.out KZ1.out KZ2.out rfl (by decide) _ _ _ rfl KO.out ad m c xs rfl KS.out.len (KS.out.cells ad rfl) KS.out.one KM.out (by omega) (al11_ _) ?_;intro v' w2 own2 grow2 _;obtain⟨a',c',hv⟩:=AI own2;subst hv;have KO2:=Ae own2;have K2:=Ae ((nr w).grown grow2 (fun j e hj=>absurd (KO.out.lt j e).1 (by omega)));clear own2 grow2);have own2:=KO2.out;simp only [Ag,CK] at own2;go_ret;exact⟨a',c',by simp,K2.out,own2,fun e=>by cases e⟩
theorem GW:inf_ prog 64=some (some (.agg #[.int .i64 0]),1,8):=by kernel_rfl
theorem Xg (ao:Option Addr) (m c:Nat) (xs:List Value) (w:World) (src:Src w ao m c 1 xs) (hm:m<=100000):
 Calls prog 77 #[.slice ao m c] w (MJ 64 1 w ao m xs):=by
 obtain⟨i0,KI,KZ0,KZ1,KZ2⟩:=ik_ GW;have KS:=Ae src;clear src
 cases ao with
 | none=>
  obtain⟨rfl,rfl⟩:=KS.out.none rfl;have hx:xs=[]:=Gc (by have:=KS.out.len;omega);subst hx;go_in;go_wp2;go_ret
  exact⟨none,0,rfl,kx_,Gs,fun _=>rfl⟩
 | some ad=>
  have KO:=Ae (WT w w.heap.size 64 1);have KM:=Ae (show 0+m<=maxLen by unfold maxLen;omega);go_in;go_wp2_with (at_builtin;refine wpList_append_own _ rfl (.const (.slice none 0 0)) (.tmp 3) 27 rfl w.heap.size 64 i0 _ 1 8 underlying27 KI.out KZ0.out KZ1.out KZ2.out rfl (by decide) _ _ _ rfl KO.out ad m c xs rfl KS.out.len (KS.out.cells ad rfl) KS.out.one KM.out (by omega) (al11_ _) ?_;intro v' w2 own2 grow2 _;obtain⟨a',c',hv⟩:=AI own2;subst hv;have KO2:=Ae own2;have K2:=Ae ((nr w).grown grow2 (fun j e hj=>absurd (KO.out.lt j e).1 (by omega)));clear own2 grow2);have own2:=KO2.out;simp only [Ag,CK] at own2;go_ret;exact⟨a',c',by simp,K2.out,own2,fun e=>by cases e⟩
theorem Gz:inf_ prog 40=some (some (.agg #[.int .i64 0, .int .i64 0, .int .i64 0, .int .u32 0, .slice none 0 0, .slice none 0 0]),6,80):=by kernel_rfl
theorem zL (ao:Option Addr) (m c:Nat) (xs:List Value) (w:World) (src:Src w ao m c 6 xs) (hm:m<=100000):
 Calls prog 78 #[.slice ao m c] w (MJ 40 6 w ao m xs):=by
 obtain⟨i0,KI,KZ0,KZ1,KZ2⟩:=ik_ Gz;have KS:=Ae src;clear src
 cases ao with
 | none=>
  obtain⟨rfl,rfl⟩:=KS.out.none rfl;have hx:xs=[]:=Gc (by have:=KS.out.len;omega);subst hx;go_in;go_wp2;go_ret
  exact⟨none,0,rfl,kx_,Gs,fun _=>rfl⟩
 | some ad=>
  have KO:=Ae (WT w w.heap.size 40 6);have KM:=Ae (show 0+m<=maxLen by unfold maxLen;omega);go_in;go_wp2_with (at_builtin;refine wpList_append_own _ rfl (.const (.slice none 0 0)) (.tmp 3) 28 rfl w.heap.size 40 i0 _ 6 80 underlying28 KI.out KZ0.out KZ1.out KZ2.out rfl (by decide) _ _ _ rfl KO.out ad m c xs rfl KS.out.len (KS.out.cells ad rfl) KS.out.one KM.out (by omega) (al11_ _) ?_;intro v' w2 own2 grow2 _;obtain⟨a',c',hv⟩:=AI own2;subst hv;have KO2:=Ae own2;have K2:=Ae ((nr w).grown grow2 (fun j e hj=>absurd (KO.out.lt j e).1 (by omega)));clear own2 grow2);have own2:=KO2.out;simp only [Ag,CK] at own2;go_ret;exact⟨a',c',by simp,K2.out,own2,fun e=>by cases e⟩
theorem Sb:inf_ prog 3=some (some (.int .i64 0),1,8):=by kernel_rfl
theorem OI (ao:Option Addr) (m c:Nat) (xs:List Value) (w:World) (src:Src w ao m c 1 xs) (hm:m<=100000):
 Calls prog 79 #[.slice ao m c] w (MJ 3 1 w ao m xs):=by
 obtain⟨i0,KI,KZ0,KZ1,KZ2⟩:=ik_ Sb;have KS:=Ae src;clear src
 cases ao with
 | none=>
  obtain⟨rfl,rfl⟩:=KS.out.none rfl;have hx:xs=[]:=Gc (by have:=KS.out.len;omega);subst hx;go_in;go_wp2;go_ret
  exact⟨none,0,rfl,kx_,Gs,fun _=>rfl⟩
 | some ad=>
  have KO:=Ae (WT w w.heap.size 3 1);have KM:=Ae (show 0+m<=maxLen by unfold maxLen;omega);go_in;go_wp2_with (at_builtin;refine wpList_append_own _ rfl (.const (.slice none 0 0)) (.tmp 3) 22 rfl w.heap.size 3 i0 _ 1 8 underlying22 KI.out KZ0.out KZ1.out KZ2.out rfl (by decide) _ _ _ rfl KO.out ad m c xs rfl KS.out.len (KS.out.cells ad rfl) KS.out.one KM.out (by omega) (al11_ _) ?_;intro v' w2 own2 grow2 _;obtain⟨a',c',hv⟩:=AI own2;subst hv;have KO2:=Ae own2;have K2:=Ae ((nr w).grown grow2 (fun j e hj=>absurd (KO.out.lt j e).1 (by omega)));clear own2 grow2);have own2:=KO2.out;simp only [Ag,CK] at own2;go_ret;exact⟨a',c',by simp,K2.out,own2,fun e=>by cases e⟩
theorem Jb:inf_ prog 45=some (some (.agg #[.int .u32 0, .bool false]),2,8):=by kernel_rfl
theorem zI (ao:Option Addr) (m c:Nat) (xs:List Value) (w:World) (src:Src w ao m c 2 xs) (hm:m<=100000):
 Calls prog 80 #[.slice ao m c] w (MJ 45 2 w ao m xs):=by
 obtain⟨i0,KI,KZ0,KZ1,KZ2⟩:=ik_ Jb;have KS:=Ae src;clear src
 cases ao with
 | none=>
  obtain⟨rfl,rfl⟩:=KS.out.none rfl;have hx:xs=[]:=Gc (by have:=KS.out.len;omega);subst hx;go_in;go_wp2;go_ret
  exact⟨none,0,rfl,kx_,Gs,fun _=>rfl⟩
 | some ad=>
  have KO:=Ae (WT w w.heap.size 45 2);have KM:=Ae (show 0+m<=maxLen by unfold maxLen;omega);go_in;go_wp2_with (at_builtin;refine wpList_append_own _ rfl (.const (.slice none 0 0)) (.tmp 3) 38 rfl w.heap.size 45 i0 _ 2 8 underlying38 KI.out KZ0.out KZ1.out KZ2.out rfl (by decide) _ _ _ rfl KO.out ad m c xs rfl KS.out.len (KS.out.cells ad rfl) KS.out.one KM.out (by omega) (al11_ _) ?_;intro v' w2 own2 grow2 _;obtain⟨a',c',hv⟩:=AI own2;subst hv;have KO2:=Ae own2;have K2:=Ae ((nr w).grown grow2 (fun j e hj=>absurd (KO.out.lt j e).1 (by omega)));clear own2 grow2);have own2:=KO2.out;simp only [Ag,CK] at own2;go_ret;exact⟨a',c',by simp,K2.out,own2,fun e=>by cases e⟩
end Go.Proofs.YtpekoejdnhaohaaGreatDoor
