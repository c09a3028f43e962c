/- What the table's chain, lists and wishes, its Start and its reading of a command compute. For every table and every words of a command. -/
import Derived.Test.YtpekoejdnhaohaaGreatDoorF
import Derived.Test.YtpekoejdnhaohaaGreatDoorG
namespace Go.Proofs.YtpekoejdnhaohaaGreatDoor
open Go.RowKit Tryz
set_option maxRecDepth 100000
set_option maxHeartbeats 40000000
set_option linter.all false
variable {s:AE} {r:Bool} {v:Bx} {t:Int} {M b i p tok x:Nat} {n:Nat->Nat} {bb cp:Nat->Nat->Nat} {wish:Nat->Nat->Nat->Bool} {S:Nat->Prop} {w w':World}
section
attribute [local go_sem] BI Fx
def AU (s:AE):Nat->Nat->List Nat
 | 0,_=>[]
 | f+1,c=>c::(if(s.ck c).m=0 then [] else AU s f ((s.ck c).src 0))
def Il (l:List Nat):List Value:=l.map fun(i:Nat)=> .int .i64 i
def ChainP (w:World) (s:AE) (c:Nat) (e:Ending) (w':World):Prop:=
 ∃a cap,e= .returned (.slice a (AU s s.nc c).length cap)∧AJ w w'∧w'.ownsRow w.heap.size 3 1 (.slice a (AU s s.nc c).length cap) (AU s s.nc c).length (Il (AU s s.nc c))
theorem Gh (hs:s.Ok) (ha:A6 w v s) (c0:Nat) (hc:c0<s.nc):
 Calls prog 82 #[.agg #[.slice v.cb s.nc v.cc, .slice v.db s.nd v.dc, .slice v.rb s.nr v.rc, .slice v.vb s.nv v.vc], .int .i64 c0] w (ChainP w s c0):=by
 obtain⟨i0,KI,KZ0,KZ1,KZ2⟩:=ik_ JN;have n9:=hs.c2;have HS:=Ae hs;have HA:=Ae ha;have HB:=Ae (Aj (w:=w) s v);have KB:=Ae ((nr w).alloc (.cells (BI v s) 30));clear hs ha;go_in;go_wp2;go_loopw [1,5] (fun i t wr=>∃ (P:List Nat) (f c:Nat),AU s s.nc c0=P++AU s f c∧f+P.length=s.nc∧c<f∧i= .int .i64 c∧AJ w wr∧BJ wr w.heap.size s v∧∃a cap,t= .slice a P.length cap∧wr.ownsRow (w.heap.size+1) 3 1 (.slice a P.length cap) P.length (Il P)) (fun i _ _=>(intOf i).toNat);case atStart=>exact⟨[],s.nc,c0,rfl,by simp,hc,rfl,KB.out,HB.out,none,0,rfl,Gs⟩
 case round=>
  obtain⟨P,f,c,eq,hf,hcf,rfl,kp,bx,a,cap,rfl,op⟩:=hrel;have EQ:=Ae eq;have KP:=Ae kp;have OP:=Ae op;have BX:=Ae bx;have hcn:c<s.nc:=by omega
  have hPn:P.length<s.nc:=by omega
  have b0:=bx.z 0;clear eq kp op bx;have hsz:=KP.out.size;have hcw:=BX.out.lt;obtain⟨f,rfl⟩:∃f',f=f'+1:=⟨f - 1,by omega⟩;by_cases hm0:(s.ck c).m=0
  . have es:Aa (v.fb c) (s.ck c).m (v.fc c)= .slice none 0 0:=by rw [hm0];rfl
    go_wp2_with (at_builtin;refine wpList_append_own _ rfl (.tmp 23) (.tmp 25) 22 rfl (w.heap.size+1) 3 i0 _ 1 8 underlying22 KI.out KZ0.out KZ1.out KZ2.out rfl (by decide) _ _ _ rfl (OP.out.alloc _) (wr.heap.size 0) 1 1 [.int .i64 c] rfl rfl (Ee _ _ _) (by simp [Value.oneCell']) (by unfold maxLen;omega) (by omega) (by simp;omega) ?_;intro v' w3 own3 grow3 _;obtain⟨ao',c',hv⟩:=AI own3;subst hv;have KO3:=Ae own3;have KK:=Ae (((AD.refl (fun j=>some j=(Value.slice a P.length cap).ownBlock) wr).alloc (.cells #[.int .i64 c] 3)).grown grow3 (fun j e _=>e.symm));have hrow:∀j,some j=(Value.slice a P.length cap).ownBlock->w.heap.size+1<=j:=fun j e=>(OP.out.lt j e.symm).1;have K3:AG (AJ w w3):=⟨KP.out.trans KK.out (fun j hj e=>absurd (hrow j e) (by omega))⟩;have BX3:=BX.out.keep KK.out (fun e=>absurd (hrow _ e) (by omega));have b3:w3.cell? (w.heap.size 0)=some (.slice v.cb s.nc v.cc):=BX3.cell 0;have R3:=HA.out.new K3.out;have f3:w3.cell? (v.cb (c*6+1))=some (.slice none 0 0):=(R3.ck.cell c 1 hcn (by omega)).trans (congrArg some es);have BX3:=Ae BX3;have R3:=Ae R3;clear own3 grow3);have EN:AU s s.nc c0=P++[c]:=by rw [EQ.out,AU,if_pos hm0]
    have e1:P.length+1=(AU s s.nc c0).length:=by rw [EN];simp
    go_ret;refine⟨ao',c',?_,K3.out,?_⟩
    . rw [<-e1]
      first | rfl | (go_simp;done) | go_simp
    rw [<-e1,EN];have o3:=KO3.out;unfold Il at o3 ⊢;rw [List.map_append];exact Bw o3 (Nat.le_succ _)
  . have es:Aa (v.fb c) (s.ck c).m (v.fc c)= .slice (some (v.fb c 0)) (s.ck c).m (v.fc c):=Dj (by omega);obtain⟨S,hS⟩:=ex ((s.ck c).src 0);obtain⟨M,hM⟩:=ex ((s.ck c).m);have hless:S<c:=by rw [<-hS];exact(HS.out.ck c hcn).less 0 (by omega)
    have EN:AG (AU s s.nc c0=(P++[c])++AU s f S):=⟨by rw [EQ.out,AU,if_neg hm0,hS,List.append_assoc];rfl⟩;rw [hM] at es hm0;have HM:=Ae hM;have HSS:=Ae hS;clear hM hS;go_wp2_with (at_builtin;refine wpList_append_own _ rfl (.tmp 23) (.tmp 25) 22 rfl (w.heap.size+1) 3 i0 _ 1 8 underlying22 KI.out KZ0.out KZ1.out KZ2.out rfl (by decide) _ _ _ rfl (OP.out.alloc _) (wr.heap.size 0) 1 1 [.int .i64 c] rfl rfl (Ee _ _ _) (by simp [Value.oneCell']) (by unfold maxLen;omega) (by omega) (by simp;omega) ?_;intro v' w3 own3 grow3 _;obtain⟨ao',c',hv⟩:=AI own3;subst hv;have KO3:=Ae own3;have KK:=Ae (((AD.refl (fun j=>some j=(Value.slice a P.length cap).ownBlock) wr).alloc (.cells #[.int .i64 c] 3)).grown grow3 (fun j e _=>e.symm));have hrow:∀j,some j=(Value.slice a P.length cap).ownBlock->w.heap.size+1<=j:=fun j e=>(OP.out.lt j e.symm).1;have K3:AG (AJ w w3):=⟨KP.out.trans KK.out (fun j hj e=>absurd (hrow j e) (by omega))⟩;have BX3:=BX.out.keep KK.out (fun e=>absurd (hrow _ e) (by omega));have b3:w3.cell? (w.heap.size 0)=some (.slice v.cb s.nc v.cc):=BX3.cell 0;have R3:=HA.out.new K3.out;have f3:w3.cell? (v.cb (c*6+1))=some (.slice (v.fb c) M (v.fc c)):=(R3.ck.cell c 1 hcn (by omega)).trans (congrArg some (by rw [<-es, <-HM.out];rfl));have g3:w3.cell? (v.fb c 0)=some (.int .i64 S):=(R3.src c hcn (by rw [HM.out];omega)).cell 0 0 (by rw [HM.out];omega) (by omega) |>.trans (by rw [HSS.out]);have BX3:=Ae BX3;have R3:=Ae R3;clear own3 grow3);go_roundw;case rel=>
     refine⟨P++[c],f,S,EN.out,by simp;omega,by omega,rfl,K3.out,BX3.out,ao',c',by simp,?_⟩;have o3:=KO3.out;unfold Il at o3 ⊢;rw [List.map_append,CX];exact o3
    case measure=>simp [intOf];omega
end
def Ft (t:Int):Nat:=if t=117∨t=100∨t=107 then 0 else if t=99∨t=111 then 1 else 2
theorem Ko {o:Nat} (vs:Nat->Value) (c0:w.cell? (b o)=some (vs 0)) (c1:w.cell? (b (o+1))=some (vs 1)) (c2:w.cell? (b (o+2))=some (vs 2)) (h:EI t):
 Calls prog 201 #[.pointer (some (b o)), .int .u8 t] w fun e w'=>e= .returned (vs (Ft t))∧w'=w:=by
 obtain⟨v0,e0⟩:∃v,vs 0=v:=⟨_,rfl⟩;obtain⟨v1,e1⟩:∃v,vs 1=v:=⟨_,rfl⟩;obtain⟨v2,e2⟩:∃v,vs 2=v:=⟨_,rfl⟩;rw [e0] at c0;rw [e1] at c1;rw [e2] at c2;have E0:=Ae e0;have E1:=Ae e1;have E2:=Ae e2;clear e0 e1 e2;rcases h with rfl | rfl | rfl | rfl | rfl | rfl
 all_goals go_in
 all_goals go_wp2_with fail
 all_goals go_ret
 all_goals first
  | exact⟨congrArg Ending.returned E0.out.symm,rfl⟩
  | exact⟨congrArg Ending.returned E1.out.symm,rfl⟩
  | exact⟨congrArg Ending.returned E2.out.symm,rfl⟩
theorem S8 (t:Int):Ft t<3:=by unfold Ft;split;omega;split <;> omega
def Row (w:World) (b:Nat) (t:TypeId) (n:Nat) (f:Nat->Value):Prop:=
 ∃c:Array Value,w.heap[b]?=some (.cells c t (0,0))∧∀i,i<n->c[i]?=some (f i)
namespace Row
variable {w w':World} {b n:Nat} {t:TypeId} {f g:Nat->Value}
theorem of_is (h:w.rowIs b t n f):Row w b t n f:=by obtain⟨c,h1,_,h2⟩:=h;exact⟨c,h1,h2⟩
theorem cell (h:Row w b t n f) (hi:i<n):w.cell? (b i)=some (f i):=by
 obtain⟨c,hb,hc⟩:=h;simp [World.cell?,hb,hc i hi]
theorem frozen (h:Row w b t n f) (i:Nat):w.frozen? (b i)=false:=by
 obtain⟨c,hb,_⟩:=h;simp [World.frozen?,hb]
theorem lt (h:Row w b t n f):b<w.heap.size:=by
 obtain⟨c,hb,_⟩:=h;exact(Ci.1 hb).1
theorem congr (h:Row w b t n f) (e:∀i,i<n->f i=g i):Row w b t n g:=by
 obtain⟨c,hb,hc⟩:=h;exact⟨c,hb,fun i hi=>by rw [hc i hi,e i hi]⟩
theorem keep (h:Row w b t n f) (k:AD S w w') (hn:¬S b):Row w' b t n f:=by
 have l:=h.lt;obtain⟨c,hb,hc⟩:=h;exact⟨c,(k.block b l hn).trans hb,hc⟩
theorem set (h:Row w b t n f) (i:Nat) (v:Value):Row (w.setCell (b i) v) b t n (fun j=>if j=i then v else f j):=by
 obtain⟨c,hb,hc⟩:=h;refine⟨c.setIfInBounds i v,?_,fun j hj=>?_⟩
 . simp [World.setCell,Array.getElem?_modify,hb]
 . have hl:=(Ci.1 (hc j hj)).1;rw [Array.getElem?_setIfInBounds];by_cases e:j=i
   . subst e;simp [hl]
   . rw [if_neg (fun h=>e h.symm)];show c[j]?=some (if j=i then v else f j);rw [if_neg e];exact hc j hj
end Row
structure JX (w:World) (b:Nat) (bb cp:Nat->Nat->Nat) (n:Nat->Nat) (wish:Nat->Nat->Nat->Bool):Prop where
 c:∀g j,g<2->j<3->w.cell? (b (g*3+j))=some (.slice (some (bb g j 0)) (n j) (cp g j))
 r:∀g j,g<2->j<3->Row w (bb g j) 4 (n j) (fun i=> .bool (wish g j i))
theorem DO (h:JX w b bb cp n wish) (g:Nat) (hg:g<2) (ht:EI t) (i:Nat) (hi:i<n (Ft t)) (hn:n (Ft t)<=1000) (hr:wish g (Ft t) i=r):
 Calls prog 195 #[.pointer b, .int .i64 g, .int .u8 t, .int .i64 i] w fun e w'=>e= .returned (.bool r)∧w'=w:=by
 have L:AG (Calls prog 201 #[.pointer (some (b (g*3))), .int .u8 t] w fun e w'=>e= .returned (.slice (some ((bb g (Ft t)) 0)) (n (Ft t)) (cp g (Ft t)))∧w'=w):=
  ⟨Ko (fun j=> .slice (some (bb g j 0)) (n j) (cp g j)) (h.c g 0 hg (by omega)) (h.c g 1 hg (by omega)) (h.c g 2 hg (by omega)) ht⟩
 have x0:w.cell? ((bb g (Ft t)) i)=some (.bool r):=by rw [<-hr];exact(h.r g (Ft t) hg (S8 t)).cell hi
 obtain⟨N,hN⟩:=ex (n (Ft t));obtain⟨Q,hQ⟩:=ex (bb g (Ft t));obtain⟨C,hC⟩:=ex (cp g (Ft t));rw [hN,hQ,hC] at L;rw [hQ] at x0;rw [hN] at hi hn;clear h hr hN hQ hC;go_in;go_wp2_with fail;refine mn_ L.out ?_;go_wp2;go_ret;exact⟨rfl,rfl⟩
theorem Dr (h:JX w b bb cp n wish) (ht:EI t) (i:Nat) (hi:i<n (Ft t)) (hn:n (Ft t)<=1000) (hr:(wish 0 (Ft t) i||wish 1 (Ft t) i)=r):
 Calls prog 197 #[.pointer b, .int .u8 t, .int .i64 i] w fun e w'=>e= .returned (.bool r)∧w'=w:=by
 have C:AG (∀g:Nat,g<2->∀r,wish g (Ft t) i=r->Calls prog 195 #[.pointer b, .int .i64 g, .int .u8 t, .int .i64 i] w fun e w'=>e= .returned (.bool r)∧w'=w):=⟨fun g hg r hr=>DO h g hg ht i hi hn hr⟩;obtain⟨r0,h0⟩:=ex (wish 0 (Ft t) i);obtain⟨r1,h1⟩:=ex (wish 1 (Ft t) i);rw [h0,h1] at hr;have H0:=Ae h0;have H1:=Ae h1;have HR:=Ae hr;clear h h0 h1 hr ht hi hn;go_in;go_wp2;go_loopw [8] (fun v wr=>∃k:Nat,k<=2∧v= .int .i64 k∧wr=w∧(1<=k->AG (r0=false))∧(2<=k->AG (r1=false))) (fun v _=>2 - (intOf v).toNat);case atStart=>exact⟨0,by omega,rfl,rfl,fun h=>by omega,fun h=>by omega⟩
 case round=>
  obtain⟨k,hk,rfl,rfl,n0,n1⟩:=hrel;by_cases hlt:k<2
  . obtain⟨q,hq⟩:=ex (wish k (Ft t) i);have HQ:=Ae hq;clear hq;go_wp2_with fail;refine mn_ (C.out k hlt q HQ.out) ?_;cases q
    . go_wp2;go_roundw;case rel=>
       refine⟨k+1,by omega,by go_num,by first | rfl | trivial,fun _=>?_,fun h=>?_⟩
       . by_cases e:k=0
         . subst e;exact⟨H0.out.symm.trans HQ.out⟩
         . exact n0 (by omega)
       . have e:k=1:=by omega
         subst e;exact⟨H1.out.symm.trans HQ.out⟩
      case measure=>simp [intOf];omega
    . go_wp2;go_ret;refine⟨?_,by first | rfl | trivial⟩;rw [<-HR.out];by_cases e:k=0
      . subst e;rw [H0.out.symm.trans HQ.out];rfl
      . have e:k=1:=by omega
        subst e;rw [H1.out.symm.trans HQ.out,Bool.or_true];rfl
  . have e:k=2:=by omega
    subst e;go_wp2;go_ret;exact⟨by rw [<-HR.out,(n0 (by omega)).out,(n1 (by omega)).out];rfl,by first | rfl | trivial⟩
section
attribute [local go_sem] BI Fx
theorem GX:inf_ prog 4=some (some (.bool false),1,1):=by kernel_rfl
def Ao (s:AE):Nat->Nat
 | 0=>s.nd
 | 1=>s.nc
 | _=>s.nr
abbrev TW (bb cp:Nat->Nat->Nat) (n:Nat->Nat):Value:=
 .agg #[.slice (bb 0 0) (n 0) (cp 0 0), .slice (bb 0 1) (n 1) (cp 0 1), .slice (bb 0 2) (n 2) (cp 0 2), .slice (bb 1 0) (n 0) (cp 1 0), .slice (bb 1 1) (n 1) (cp 1 1), .slice (bb 1 2) (n 2) (cp 1 2)]
def DF (w:World) (B:Nat) (bb:Nat->Nat->Nat) (n:Nat->Nat) (wish:Nat->Nat->Nat->Bool):Prop:=
 ∀g j,g<2->j<3->Row w (bb g j) 4 (n j) (fun i=> .bool (wish g j i))∧B<=bb g j
def ZI (w:World) (s:AE) (e:Ending) (w':World):Prop:=
 ∃bb,e= .returned (TW bb (fun _ j=>Ao s j) (Ao s))∧AJ w w'∧DF w' w.heap.size bb (Ao s) (fun _ _ _=>false)
def stV (s:AE) (k:Nat) (bb:Nat->Nat->Nat) (g j:Nat):Value:=if g<k then .slice (bb g j) (Ao s j) (Ao s j) else .slice none 0 0
abbrev stL (s:AE) (k:Nat) (bb:Nat->Nat->Nat):List Value:=[stV s k bb 0 0,stV s k bb 0 1,stV s k bb 0 2,stV s k bb 1 0,stV s k bb 1 1,stV s k bb 1 2]
def updW (bb:Nat->Nat->Nat) (k p1 p2 p3:Nat) (g j:Nat):Nat:=if g=k then(match j with | 0=>p1 | 1=>p2 | _=>p3) else bb g j
theorem Db {k p1 p2 p3 g j:Nat} (h:g≠k):updW bb k p1 p2 p3 g j=bb g j:=if_neg h
theorem PW (hs:s.Ok):Calls prog 31 #[.agg #[.slice v.cb s.nc v.cc, .slice v.db s.nd v.dc, .slice v.rb s.nr v.rc, .slice v.vb s.nv v.vc]] w (ZI w s):=by
 have n1:=hs.c2;have n2:=hs.d2;have n3:=hs.r2;have hmc:=fun(W:World)=>run_make_row' (P:=prog) 115 4 (.bool false) 1 underlying115 GX rfl .i64 .i64 s.nc (by omega) (by omega) W;have hmd:=fun(W:World)=>run_make_row' (P:=prog) 115 4 (.bool false) 1 underlying115 GX rfl .i64 .i64 s.nd (by omega) (by omega) W;have hmr:=fun(W:World)=>run_make_row' (P:=prog) 115 4 (.bool false) 1 underlying115 GX rfl .i64 .i64 s.nr (by omega) (by omega) W;have HB:=Aj (w:=w) s v;go_in;go_wp2_with fail;obtain⟨W0,hW0⟩:=ex (((w.alloc (.cells (BI v s) 30)).alloc (.cells #[.slice none 0 0, .slice none 0 0, .slice none 0 0, .slice none 0 0, .slice none 0 0, .slice none 0 0] 120)).alloc (.cells #[.slice none 0 0, .slice none 0 0, .slice none 0 0, .slice none 0 0, .slice none 0 0, .slice none 0 0] 120));have B0:BJ W0 w.heap.size s v:=by rw [<-hW0];exact(HB.alloc _).alloc _
 have B1:AF W0 (w.heap.size+1) 120 [.slice none 0 0, .slice none 0 0, .slice none 0 0, .slice none 0 0, .slice none 0 0, .slice none 0 0]:=by
  rw [<-hW0];have h:=(AF.new (w.alloc (.cells (BI v s) 30)) [.slice none 0 0, .slice none 0 0, .slice none 0 0, .slice none 0 0, .slice none 0 0, .slice none 0 0] 120).alloc (.cells #[.slice none 0 0, .slice none 0 0, .slice none 0 0, .slice none 0 0, .slice none 0 0, .slice none 0 0] 120);rw [Ay] at h;exact h
 have B2:AF W0 (w.heap.size+2) 120 [.slice none 0 0, .slice none 0 0, .slice none 0 0, .slice none 0 0, .slice none 0 0, .slice none 0 0]:=by
  rw [<-hW0];have h:=AF.new ((w.alloc (.cells (BI v s) 30)).alloc (.cells #[.slice none 0 0, .slice none 0 0, .slice none 0 0, .slice none 0 0, .slice none 0 0, .slice none 0 0] 120)) [.slice none 0 0, .slice none 0 0, .slice none 0 0, .slice none 0 0, .slice none 0 0, .slice none 0 0] 120;rw [Ay,Ay] at h;exact h
 have K0:AJ w W0:=by rw [<-hW0];exact(((nr w).alloc _).alloc _).alloc _
 rw [hW0];have B0:=Ae B0;have B1:=Ae B1;have B2:=Ae B2;have K0:=Ae K0;clear hW0 HB;go_loopw [5] (fun i wr=>∃k:Nat,k<=2∧i= .int .i64 k∧AJ w wr∧BJ wr w.heap.size s v∧AF wr (w.heap.size+1) 120 [.slice none 0 0, .slice none 0 0, .slice none 0 0, .slice none 0 0, .slice none 0 0, .slice none 0 0]∧∃bb,AF wr (w.heap.size+2) 120 (stL s k bb)∧∀g j,g<k->j<3->wr.rowIs (bb g j) 4 (Ao s j) (fun _=> .bool false)∧w.heap.size+3<=bb g j) (fun i _=>2 - (intOf i).toNat);case atStart=>exact⟨0,by omega,rfl,K0.out,B0.out,B1.out,fun _ _=>0,B2.out,fun g j h=>by omega⟩
 case round=>
  obtain⟨k,hk,rfl,kw,b0,b1,bb,b2,hr⟩:=hrel;have KW:=Ae kw;have HB:=Ae b0;have RB:=Ae b1;have XB:=Ae b2;have RR:=Ae hr;have s0:=cv_ (.slice (some (v.cb 0)) s.nc v.cc) (b0.cell 0);have s1:=cv_ (.slice (some (v.db 0)) s.nd v.dc) (b0.cell 1);have s2:=cv_ (.slice (some (v.rb 0)) s.nr v.rc) (b0.cell 2);have z2:=b2.lt;clear kw b0 b1 b2 hr;by_cases hlt:k<2
  . go_wp2_with fail;have SD:∀w':World,AD (fun j=>j=w.heap.size+2) wr w'->(w'.cell? (w.heap.size 0)=some (.slice v.cb s.nc v.cc)∧w'.cell? (w.heap.size 1)=some (.slice v.db s.nd v.dc)∧w'.cell? (w.heap.size 2)=some (.slice v.rb s.nr v.rc)):=fun w' kk=>by
     have bb:=HB.out.keep kk (by omega);exact⟨bb.cell 0,bb.cell 1,bb.cell 2⟩
    have SNK:AG (∀w',AJ wr w'->(w'.cell? (w.heap.size 0)=some (.slice v.cb s.nc v.cc)∧w'.cell? (w.heap.size 1)=some (.slice v.db s.nd v.dc)∧w'.cell? (w.heap.size 2)=some (.slice v.rb s.nr v.rc))):=⟨fun w' kk=>SD w' (kk.mono fun j e=>e.elim)⟩;have SDK:=Ae SD;have hHeld0:(wr.drew.cell? (w.heap.size 0)=some (.slice v.cb s.nc v.cc)∧wr.drew.cell? (w.heap.size 1)=some (.slice v.db s.nd v.dc)∧wr.drew.cell? (w.heap.size 2)=some (.slice v.rb s.nr v.rc)):=⟨s0,s1,s2⟩;refine rh_ (fun w'=>(w'.cell? (w.heap.size 0)=some (.slice v.cb s.nc v.cc)∧w'.cell? (w.heap.size 1)=some (.slice v.db s.nd v.dc)∧w'.cell? (w.heap.size 2)=some (.slice v.rb s.nr v.rc))) hHeld0 (fun hE=>?_);clear SD hHeld0 s0 s1 s2;refine tk 0 hE ?_;refine tk 1 hE ?_;refine tk 2 hE ?_;refine tk 3 hE ?_;refine tk 5 hE ?_;refine tk 6 hE ?_;refine tk 7 hE ?_;refine tk 9 hE ?_;refine tk 10 hE ?_;refine tk 11 hE ?_;refine tk 14 hE ?_
    refine wl_ (fuel:=2) [4,8,12,13] (fun i vals W=>match i with
     | 4=>∃b,vals 4= .slice (some ⟨b,0,none⟩) s.nd s.nd∧wr.heap.size<=b∧W.rowIs b 4 s.nd (fun _=> .bool false)
     | 8=>∃b,vals 8= .slice (some ⟨b,0,none⟩) s.nc s.nc∧wr.heap.size<=b∧W.rowIs b 4 s.nc (fun _=> .bool false)
     | 12=>∃b,vals 12= .slice (some ⟨b,0,none⟩) s.nr s.nr∧wr.heap.size<=b∧W.rowIs b 4 s.nr (fun _=> .bool false)
     | _=>vals 13= .agg #[vals 4,vals 8,vals 12])
     (AJ wr) (fun i W W'=>AJ W W') ?j ?step ?fin (stab:=?stab) (cong:=?cong)
    case j=>exact(AD.refl _ wr).drew
    case step=>
     intro i hi o ho vals ρ W hJ hd ev;simp only [m1,m0,or_false] at hi;rcases hi with rfl | rfl | rfl | rfl
     . cases ho;obtain⟨_,_⟩:=(⟨trivial,trivial⟩:True∧True);intro a' K Q ha hK;subst ha;have e0:=tv (ev (.tmp 11) rfl);go_simp;have KN:AJ wr (W.alloc (.cells (madeCells #[.bool false] s.nd) 4)):=hJ.alloc _;exact hK _ _ ⟨(kx_).alloc _,KN,SNK.out _ KN,W.heap.size,by rw [AQ],hJ.size,CV W (.bool false) s.nd 4⟩
     . cases ho;obtain⟨_,_⟩:=(⟨trivial,trivial⟩:True∧True);intro a' K Q ha hK;subst ha;have e0:=tv (ev (.tmp 15) rfl);go_simp;have KN:AJ wr (W.alloc (.cells (madeCells #[.bool false] s.nc) 4)):=hJ.alloc _;exact hK _ _ ⟨(kx_).alloc _,KN,SNK.out _ KN,W.heap.size,by rw [AQ],hJ.size,CV W (.bool false) s.nc 4⟩
     . cases ho;obtain⟨_,_⟩:=(⟨trivial,trivial⟩:True∧True);intro a' K Q ha hK;subst ha;have e0:=tv (ev (.tmp 19) rfl);go_simp;have KN:AJ wr (W.alloc (.cells (madeCells #[.bool false] s.nr) 4)):=hJ.alloc _;exact hK _ _ ⟨(kx_).alloc _,KN,SNK.out _ KN,W.heap.size,by rw [AQ],hJ.size,CV W (.bool false) s.nr 4⟩
     . cases ho;obtain⟨⟨b1,v1,_⟩,d1⟩:=he_ hd 4;obtain⟨⟨b2,v2,_⟩,d2⟩:=he_ hd 8;obtain⟨⟨b3,v3,_⟩,d3⟩:=he_ hd 12;intro a' K Q ha hK;subst ha;have e1:=et ((d1 12 rfl).trans v1);have e2:=et ((d2 16 rfl).trans v2);have e3:=et ((d3 20 rfl).trans v3);go_simp;exact hK _ _ ⟨kx_,hJ,SNK.out _ hJ,by refine(Ap).trans ?_;rw [turn_other _ _ (by decide:(4:Nat)≠13),turn_other _ _ (by decide:(8:Nat)≠13),turn_other _ _ (by decide:(12:Nat)≠13),v1,v2,v3]⟩
    case stab=>
     intro k' hk' i hi hne hw vals W W' hR;simp only [m1,m0,or_false] at hk';rcases hk' with rfl | rfl | rfl | rfl
     . exact fun⟨p,h1,h2,h3⟩=>⟨p,h1,h2,rowIs_keep h3 hR id⟩
     . exact fun⟨p,h1,h2,h3⟩=>⟨p,h1,h2,rowIs_keep h3 hR id⟩
     . exact fun⟨p,h1,h2,h3⟩=>⟨p,h1,h2,rowIs_keep h3 hR id⟩
     . exact fun h=>h
    case cong=>
     intro k' hk' vals vals' W he hd;simp only [m1,m0,or_false] at hk';rcases hk' with rfl | rfl | rfl | rfl
     . exact fun⟨p,h1,h2⟩=>⟨p,he.symm.trans h1,h2⟩
     . exact fun⟨p,h1,h2⟩=>⟨p,he.symm.trans h1,h2⟩
     . exact fun⟨p,h1,h2⟩=>⟨p,he.symm.trans h1,h2⟩
     . have h4:=he_ hd 4;have h8:=he_ hd 8;have h12:=he_ hd 12;exact fun h=>he.symm.trans (h.trans (by rw [h4,h8,h12]))
    case fin=>
     intro vals W hJ hV;obtain⟨p1,v1,l1,r1⟩:=Jh hV 4;obtain⟨p2,v2,l2,r2⟩:=Jh hV 8;obtain⟨p3,v3,l3,r3⟩:=Jh hV 12;have v4:vals 13= .agg #[vals 4,vals 8,vals 12]:=Jh hV 13;rw [v1,v2,v3] at v4;simp only [Am,AR,dstOf,De,Bl,Bk,CM,pu,s0,s1,if_true];rw [v1,v2,v3,v4];have JW:=Ae hJ;have R1:=Ae r1;have R2:=Ae r2;have R3:=Ae r3;have XW:=Ae (XB.out.keep hJ id);have hS:=SNK.out _ hJ;clear v1 v2 v3 v4 r1 r2 r3 hJ hV;rcases(show k=0∨k=1 by omega) with rfl | rfl
     . refine tk 15 (v:= .pointer (some ((w.heap.size+2) 0))) hS ?_;have B2W:AF W (w.heap.size+2) 120 (stL s 0 bb):=XW.out;have g0:=cv_ (.slice none 0 0) (B2W.cell 0);have g1:=cv_ (.slice none 0 0) (B2W.cell 1);have g2:=cv_ (.slice none 0 0) (B2W.cell 2);have f0:=B2W.frozen 0;have f1:=B2W.frozen 1;have f2:=B2W.frozen 2;clear B2W;refine CO (i:=16) rfl rfl (by kernel_rfl) (C:=fun v w'=>v=undef∧w'=((W.setCell ((w.heap.size+2) 0) (.slice (some (p1 0)) s.nd s.nd)).setCell ((w.heap.size+2) 1) (.slice (some (p2 0)) s.nc s.nc)).setCell ((w.heap.size+2) 2) (.slice (some (p3 0)) s.nr s.nr)) ?g16 ?n16;case g16=>
        intro a' K Q ha hK;have e0:a'.tmps[23]?.getD undef= .pointer (some ((w.heap.size+2) 0)):=by have h:=congrFun ha (.tmp 23);simpa [Act.eval] using h
        have e1:a'.tmps[21]?.getD undef= .agg #[.slice (some (p1 0)) s.nd s.nd, .slice (some (p2 0)) s.nc s.nc, .slice (some (p3 0)) s.nr s.nr]:=by have h:=congrFun ha (.tmp 21);simpa [Act.eval] using h
        clear ha;go_simp;exact hK _ _ ⟨rfl,rfl⟩
       case n16=>
       rintro v0 w6 ⟨rfl,rfl⟩;have KS:AD (fun j=>j=w.heap.size+2) W (((W.setCell ((w.heap.size+2) 0) (.slice p1 s.nd s.nd)).setCell ((w.heap.size+2) 1) (.slice p2 s.nc s.nc)).setCell ((w.heap.size+2) 2) (.slice p3 s.nr s.nr)):=((keeps_set _).t (keeps_set _)).t (keeps_set _);have KS:=Ae KS;refine⟨SDK.out _ ((JW.out.mono fun j e=>e.elim).trans KS.out (fun j _ e=>e)),?_⟩;simp only [Act.put];refine⟨by kernel_rfl,?_⟩;clear g0 g1 g2 f0 f1 f2 hS;go_wp2;go_roundw;case measure=>simp [intOf]
       case rel=>
        have ks:=KS.out;have kall:AD (fun j=>j=w.heap.size+2) wr _:=(JW.out.mono fun j e=>e.elim).trans ks (fun j _ e=>e);refine⟨0+1,by omega,by go_num,KW.out.trans kall (fun j hj e=>by omega),HB.out.keep kall (by omega),RB.out.keep kall (by omega),updW bb 0 p1 p2 p3,?_,fun g j hg hj=>?_⟩
        . have hx:=((XW.out.set 0 (.slice p1 s.nd s.nd)).set 1 (.slice p2 s.nc s.nc)).set 2 (.slice p3 s.nr s.nr);simpa [stL,stV,Ao,updW] using hx
        . by_cases eg:g=0
          . subst eg
            match j,hj with
            | 0,_=>exact⟨rowIs_keep R1.out ks (show¬p1=w.heap.size+2 by omega),by show _<=p1;omega⟩
            | 1,_=>exact⟨rowIs_keep R2.out ks (show¬p2=w.heap.size+2 by omega),by show _<=p2;omega⟩
            | 2,_=>exact⟨rowIs_keep R3.out ks (show¬p3=w.heap.size+2 by omega),by show _<=p3;omega⟩
          . obtain⟨h1,h2⟩:=RR.out g j (by omega) hj;rw [Db eg];exact⟨rowIs_keep h1 kall (by omega),h2⟩
     . refine tk 15 (v:= .pointer (some ((w.heap.size+2) 3))) hS ?_;have B2W:AF W (w.heap.size+2) 120 (stL s 1 bb):=XW.out;have g0:=cv_ (.slice none 0 0) (B2W.cell 3);have g1:=cv_ (.slice none 0 0) (B2W.cell 4);have g2:=cv_ (.slice none 0 0) (B2W.cell 5);have f0:=B2W.frozen 3;have f1:=B2W.frozen 4;have f2:=B2W.frozen 5;clear B2W;refine CO (i:=16) rfl rfl (by kernel_rfl) (C:=fun v w'=>v=undef∧w'=((W.setCell ((w.heap.size+2) 3) (.slice p1 s.nd s.nd)).setCell ((w.heap.size+2) 4) (.slice p2 s.nc s.nc)).setCell ((w.heap.size+2) 5) (.slice p3 s.nr s.nr)) ?g16 ?n16;case g16=>
        intro a' K Q ha hK;have e0:=te ha 23;have e1:a'.tmps[21]?.getD undef= .agg #[.slice (some (p1 0)) s.nd s.nd, .slice (some (p2 0)) s.nc s.nc, .slice (some (p3 0)) s.nr s.nr]:=by have h:=congrFun ha (.tmp 21);simpa [Act.eval] using h
        clear ha;go_simp;exact hK _ _ ⟨rfl,rfl⟩
       case n16=>
       rintro v0 w6 ⟨rfl,rfl⟩;have KS:AD (fun j=>j=w.heap.size+2) W (((W.setCell ((w.heap.size+2) 3) (.slice p1 s.nd s.nd)).setCell ((w.heap.size+2) 4) (.slice p2 s.nc s.nc)).setCell ((w.heap.size+2) 5) (.slice p3 s.nr s.nr)):=((keeps_set _).t (keeps_set _)).t (keeps_set _);have KS:=Ae KS;refine⟨SDK.out _ ((JW.out.mono fun j e=>e.elim).trans KS.out (fun j _ e=>e)),?_⟩;simp only [Act.put];refine⟨by kernel_rfl,?_⟩;clear g0 g1 g2 f0 f1 f2 hS;go_wp2;go_roundw;case measure=>simp [intOf]
       case rel=>
        have ks:=KS.out;have kall:AD (fun j=>j=w.heap.size+2) wr _:=(JW.out.mono fun j e=>e.elim).trans ks (fun j _ e=>e);refine⟨1+1,by omega,by go_num,KW.out.trans kall (fun j hj e=>by omega),HB.out.keep kall (by omega),RB.out.keep kall (by omega),updW bb 1 p1 p2 p3,?_,fun g j hg hj=>?_⟩
        . have hx:=((XW.out.set 3 (.slice p1 s.nd s.nd)).set 4 (.slice p2 s.nc s.nc)).set 5 (.slice p3 s.nr s.nr);simpa [stL,stV,Ao,updW] using hx
        . by_cases eg:g=1
          . subst eg
            match j,hj with
            | 0,_=>exact⟨rowIs_keep R1.out ks (show¬p1=w.heap.size+2 by omega),by show _<=p1;omega⟩
            | 1,_=>exact⟨rowIs_keep R2.out ks (show¬p2=w.heap.size+2 by omega),by show _<=p2;omega⟩
            | 2,_=>exact⟨rowIs_keep R3.out ks (show¬p3=w.heap.size+2 by omega),by show _<=p3;omega⟩
          . obtain⟨h1,h2⟩:=RR.out g j (by omega) hj;rw [Db eg];exact⟨rowIs_keep h1 kall (by omega),h2⟩
  . have ek:k=2:=by omega
    subst ek;have g0:=XB.out.cell 0;have g1:=XB.out.cell 1;have g2:=XB.out.cell 2;have g3:=XB.out.cell 3;have g4:=XB.out.cell 4;have g5:=XB.out.cell 5;have r0:=RB.out.cell 0;have r1:=RB.out.cell 1;have r2:=RB.out.cell 2;have r3:=RB.out.cell 3;have r4:=RB.out.cell 4;have r5:=RB.out.cell 5;have f0:=RB.out.frozen 0;have f1:=RB.out.frozen 1;have f2:=RB.out.frozen 2;have f3:=RB.out.frozen 3;have f4:=RB.out.frozen 4;have f5:=RB.out.frozen 5;simp only [stL,stV,Bk,Bl,if_true,DE,show(0:Nat)<2 by omega,show(1:Nat)<2 by omega,Ao] at g0 g1 g2 g3 g4 g5 r0 r1 r2 r3 r4 r5;go_wp2_with fail;obtain⟨W9,hW9⟩:=ex (((((((wr).setCell ((w.heap.size+1) 0) (.slice (bb 0 0) s.nd s.nd)).setCell ((w.heap.size+1) 1) (.slice (bb 0 1) s.nc s.nc)).setCell ((w.heap.size+1) 2) (.slice (bb 0 2) s.nr s.nr)).setCell ((w.heap.size+1) 3) (.slice (bb 1 0) s.nd s.nd)).setCell ((w.heap.size+1) 4) (.slice (bb 1 1) s.nc s.nc)).setCell ((w.heap.size+1) 5) (.slice (bb 1 2) s.nr s.nr));have krs:AD (fun j=>j=w.heap.size+1) wr W9:=by
     rw [<-hW9];exact(((((keeps_set _).t (keeps_set _)).t (keeps_set _)).t (keeps_set _)).t (keeps_set _)).t (keeps_set _)
    have bw:AF W9 (w.heap.size+1) 120 [.slice (bb 0 0) s.nd s.nd, .slice (bb 0 1) s.nc s.nc, .slice (bb 0 2) s.nr s.nr, .slice (bb 1 0) s.nd s.nd, .slice (bb 1 1) s.nc s.nc, .slice (bb 1 2) s.nr s.nr]:=by
     rw [<-hW9];exact((((((RB.out).set 0 (.slice (bb 0 0) s.nd s.nd)).set 1 (.slice (bb 0 1) s.nc s.nc)).set 2 (.slice (bb 0 2) s.nr s.nr)).set 3 (.slice (bb 1 0) s.nd s.nd)).set 4 (.slice (bb 1 1) s.nc s.nc)).set 5 (.slice (bb 1 2) s.nr s.nr)
    rw [hW9];have KR:=Ae krs;have y0:=bw.z 0;have y1:=bw.z 1;have y2:=bw.z 2;have y3:=bw.z 3;have y4:=bw.z 4;have y5:=bw.z 5;clear hW9 krs bw g0 g1 g2 g3 g4 g5 r0 r1 r2 r3 r4 r5 f0 f1 f2 f3 f4 f5;refine bodyPost_ret (v:=TW bb (fun _ j=>Ao s j) (Ao s)) ?_ rfl ?_
    . simp [results,results31,go_sem,y0,y1,y2,y3,y4,y5,Ao]
    have krs:=KR.out;exact⟨bb,rfl,KW.out.trans krs (fun j hj e=>by omega),fun g j hg hj=>⟨Row.of_is (rowIs_keep (RR.out g j hg hj).1 krs (by have:=(RR.out g j hg hj).2;omega)),by have:=(RR.out g j hg hj).2;omega⟩⟩
abbrev UT (bb cp:Nat->Nat->Nat) (s:AE):List Value:=[.slice (some (bb 0 0 0)) s.nd (cp 0 0), .slice (some (bb 0 1 0)) s.nc (cp 0 1), .slice (some (bb 0 2 0)) s.nr (cp 0 2), .slice (some (bb 1 0 0)) s.nd (cp 1 0), .slice (some (bb 1 1 0)) s.nc (cp 1 1), .slice (some (bb 1 2 0)) s.nr (cp 1 2)]
abbrev Kh (bb cp:Nat->Nat->Nat) (s:AE):Array Value:= #[.slice (some (bb 0 0 0)) s.nd (cp 0 0), .slice (some (bb 0 1 0)) s.nc (cp 0 1), .slice (some (bb 0 2 0)) s.nr (cp 0 2), .slice (some (bb 1 0 0)) s.nd (cp 1 0), .slice (some (bb 1 1 0)) s.nc (cp 1 1), .slice (some (bb 1 2 0)) s.nr (cp 1 2)]
end
section
attribute [local go_sem] BI Fx
def DG (s:AE) (p x i:Nat) (t:Int):Prop:=
 (p=17∧i<s.nd∧x=0∧t=100)∨(p=17∧i<s.nd∧x=1∧t=117)∨(p=17∧i<s.nd∧x=2∧t=107∧(s.dm i).ret=true)∨
 (p=20∧i<s.nc∧((s.ck i).kind=112∨(s.ck i).kind=103)∧x=0∧t=111)∨(p=20∧i<s.nc∧((s.ck i).kind=112∨(s.ck i).kind=103)∧x=1∧t=99)∨(p=22∧i<s.nr∧x=0∧t=114)
def msgOf (p:Nat):Nat:=if p=20 then 7 else 4
def Jc (p:Nat):Nat:=if p=17 then 5 else if p=20 then 8 else 9
structure An (w:World) (b p tok i x:Nat):Prop where
 lt:b<w.heap.size
 c0:w.cell? (b 0)=some (.int .u32 ((msgOf p+1024*p+262144*tok:Nat):Int))
 c1:w.cell? (b 1)=some (.int .u32 i)
 c2:w.cell? (b 2)=some (.int .u32 x)
theorem An.keep (h:An w b p tok i x) (k:AD S w w') (n:¬S b):An w' b p tok i x:=
 ⟨Bo h.lt k.size,(k.cell h.lt n).trans h.c0,(k.cell h.lt n).trans h.c1,(k.cell h.lt n).trans h.c2⟩
theorem DG.proto (h:DG s p x i t):p=17∨p=20∨p=22:=by
 rcases h with h | h | h | h | h | h
 . exact .inl h.1
 . exact .inl h.1
 . exact .inl h.1
 . exact .inr (.inl h.1)
 . exact .inr (.inl h.1)
 . exact .inr (.inr h.1)
theorem DG.msgs {p:Nat} (h:DG s p x i t):Jc p<10∧msgs (Jc p)=((p:Int),(msgOf p:Int)):=by
 rcases h.proto with rfl | rfl | rfl
 . exact⟨by decide,rfl⟩
 . exact⟨by decide,rfl⟩
 . exact⟨by decide,rfl⟩
theorem V7 (h:CU w M i) (k:AD S w w') (n:¬S M):CU w' M i:=by
 obtain⟨m,D,⟨es,c,h1,h2⟩,r⟩:=h;exact⟨m,D,⟨es,c,(k.block M (Ci.1 h1).1 n).trans h1,h2⟩,r⟩
theorem Sg {o:Oper} {ρ:Operand->Value} {W:World} {C:Value->World->Prop} {m x:Operand} (hop:o.op= .lookup 345 m x true) (hm:ρ m= .map (some M)) (hi:i<10) (hx:ρ x=Pp (msgs i).1 (msgs i).2)
 (hz:(zeroValue 343).run prog W= .ok (Jd (0,0,0,0,0)) W) (hF:CU W M i) (hC:C (.tuple #[Jd (Iq i), .bool true]) W):Fi prog o ρ W C:=by
 obtain⟨n,D,o1,h1,h2⟩:=hF;obtain⟨u,ps,hrun,hv⟩:=o1.look_ok Gx underlying345 hz (NQ (0,0,0,0,0)) (Qt i hi);rw [h2] at hv;rw [h1] at hrun;obtain rfl:=Sh hv;intro a K Q ha hK;subst ha;unfold Oper.wp;simp [execOp,hop,hm,hx,hrun,Result.andThen];exact hK _ _ hC
abbrev fmL (F:Int × Int × Int × Int × Int):List Value:=[.int .i64 F.1, .int .i64 F.2.1, .int .u8 F.2.2.1, .int .u8 F.2.2.2.1, .int .u8 F.2.2.2.2]
theorem xO {xs:List Value} (h:xs.length=5):∃a b c d e,xs=[a,b,c,d,e]:=by
 match xs,h with
 | [a,b,c,d,e],_=>exact⟨a,b,c,d,e,rfl⟩
theorem Sl (o:Oper) (l:List Oper):dstOf (o::l).toArray 0=o.dst:=rfl
theorem Z4 (w:World):(zeroValue 343).run prog w= .ok (.agg #[.int .i64 0, .int .i64 0, .int .u8 0, .int .u8 0, .int .u8 0]) w:=by kernel_rfl
theorem Re (hs:s.Ok) (ha:A6 w v s) (st:DG s p x i t) {cap:Nat} (htok:tok<=1023) (hw:An w b p tok i x):
 Calls prog 194 #[.agg (BI v s), .slice b 3 cap] w fun e w'=>e= .returned (.tuple #[.int .i32 0, .agg #[.int .u8 t, .int .i64 i]])∧AJ w w':=by
 have HS:=Ae hs;have HA:=Ae ha;have ST:=Ae st;have HW:=Ae hw;have hp3:=st.proto;have hm4:msgOf p<=7:=by unfold msgOf;split <;> omega
 have hp22:p<=22:=by omega
 have w0:=hw.c0;have w1:=hw.c1;have w2:=hw.c2;have hbl:=hw.lt;clear hs ha st hw hp3;go_in;go_wp2_with fail;refine(W.unpack_is (msgOf p+1024*p+262144*tok) (msgOf p) 0 p tok _ rfl (by omega) (by omega) (by omega) (by omega) (by omega)).mono ?_;rintro z w3 ⟨rfl,m3⟩;have KA:AJ w w3:=(((nr w).alloc (.cells (BI v s) 30)).alloc (.cells #[.int .u8 0, .int .i64 0] 126)).then_ m3.new;have BS:BJ w3 w.heap.size s v:=((Aj (w:=w) s v).alloc (.cells #[.int .u8 0, .int .i64 0] 126)).keep m3.new id;have BA:AF w3 (w.heap.size+1) 126 [.int .u8 0, .int .i64 0]:=by
  have h:=(AF.new (w.alloc (.cells (BI v s) 30)) [.int .u8 0, .int .i64 0] 126).keep m3.new id;rw [Ay] at h;exact h
 have BSK:=Ae BS;have BAK:=Ae BA;have KAK:=Ae KA;have z3:=BA.lt;clear m3 KA BS BA w0 w1 w2;simp only [Ts];go_wp2_with fail;obtain⟨X,hX⟩:=ex w3.heap.size;obtain⟨W6,hW6⟩:=ex (w3.alloc (.cells #[.int .i64 (msgOf p:Int), .int .i64 ((0:Nat):Int), .int .i64 p, .int .i64 tok] 291));have BX:AF W6 X 291 [.int .i64 (msgOf p:Int), .int .i64 ((0:Nat):Int), .int .i64 p, .int .i64 tok]:=by rw [<-hW6, <-hX];exact AF.new _ _ _
 have KX:AJ w3 W6:=by rw [<-hW6];exact(kx_).alloc _
 have hXlt:w.heap.size+1<X:=by omega
 rw [hX];have hW6':w3.alloc (.cells #[.int .i64 (msgOf p:Int), .int .i64 0, .int .i64 p, .int .i64 tok] 291)=W6:=hW6;rw [hW6'];have BXK:=Ae BX;have KXK:=Ae (KAK.out.then_ KX);have x0:=cv_ (.int .i64 (msgOf p:Int)) (BX.cell 0);have x2:=cv_ (.int .i64 (p:Int)) (BX.cell 2);have SNK:AG (∀w',AJ W6 w'->(w'.cell? (X 0)=some (.int .i64 (msgOf p:Int))∧w'.cell? (X 2)=some (.int .i64 p))):=⟨fun w' kk=>⟨(BXK.out.keep kk id).cell 0,(BXK.out.keep kk id).cell 2⟩⟩;have hHeld0:(W6.drew.cell? (X 0)=some (.int .i64 (msgOf p:Int))∧W6.drew.cell? (X 2)=some (.int .i64 p)):=⟨x0,x2⟩;have BSK:=Ae (BSK.out.keep KX id);have BAK:=Ae (BAK.out.keep KX id);have hXl:=BX.lt;have HMI:=Ae ST.out.msgs;clear hW6 hW6' KX BX hX z3;refine rh_ (fun w'=>(w'.cell? (X 0)=some (.int .i64 (msgOf p:Int))∧w'.cell? (X 2)=some (.int .i64 p))) hHeld0 (fun hE=>?_);clear hHeld0 x0 x2;refine tk 1 hE ?_;refine tk 2 hE ?_;refine tk 3 hE ?_;refine tk 4 hE ?_;refine tk 5 hE ?_
 refine wl_ (fuel:=1) [0,6,7,8,9,10,11] (fun i vals W=>match i with
  | 0=>∃M,vals 0= .map (some M)∧CU W M (Jc p)
  | 6=>vals 6= .tuple #[Jd (Iq (Jc p)), .bool true]
  | 7=>vals 7= .tuple #[Jd (Iq (Jc p)), .bool true]
  | 8=>vals 8=Jd (Iq (Jc p))
  | 9=>vals 9= .bool true
  | 10=>∃f x0 x1 x2 x3 x4,vals 10= .pointer (some ⟨f,0,none⟩)∧W6.heap.size<=f∧AF W f 343 [x0,x1,x2,x3,x4]
  | _=>∃f,vals 10= .pointer (some ⟨f,0,none⟩)∧W6.heap.size<=f∧AF W f 343 (fmL (Iq (Jc p))))
  (AJ W6) (fun i W W'=>match i with | 11=>BU 343 W6.heap.size W W' | _=>AJ W W') ?j ?step ?fin (stab:=?stab) (cong:=?cong)
 case j=>exact(AD.refl _ W6).drew
 case step=>
  intro i' hi o ho vals ρ W hJ hd ev;simp only [m1,m0,or_false] at hi;rcases hi with rfl | rfl | rfl | rfl | rfl | rfl | rfl
  . cases ho;intro a' K Q ha hK;subst ha;go_simp;refine(PY W).mono ?_;rintro e w4 ⟨M,rfl,k4,hM,hF⟩;have KN:=hJ.then_ k4;exact hK _ _ ⟨k4,KN,SNK.out _ KN,M,Ap,hF _ HMI.out.1⟩
  . cases ho;obtain⟨⟨M,v0,hF⟩,d0⟩:=he_ hd 0;refine Sg rfl ((d0 33 rfl).trans v0) HMI.out.1 ?_ (Z4 W) hF ⟨kx_,hJ,SNK.out _ hJ,Ap⟩;rw [ev (.tmp 38) (by kernel_rfl),HMI.out.2];rfl
  . cases ho;obtain⟨v1,d1⟩:=he_ hd 6;intro a' K Q ha hK;subst ha;have e0:=et ((d1 39 rfl).trans v1);go_simp;exact hK _ _ ⟨kx_,hJ,SNK.out _ hJ,Ap⟩
  . cases ho;obtain⟨v1,d1⟩:=he_ hd 7;intro a' K Q ha hK;subst ha;have e0:=et ((d1 32 rfl).trans v1);go_simp;exact hK _ _ ⟨kx_,hJ,SNK.out _ hJ,Ap⟩
  . cases ho;obtain⟨v1,d1⟩:=he_ hd 7;intro a' K Q ha hK;subst ha;have e0:=et ((d1 32 rfl).trans v1);go_simp;exact hK _ _ ⟨kx_,hJ,SNK.out _ hJ,Ap⟩
  . cases ho;intro a' K Q ha hK;subst ha;go_simp;have KN:AJ W6 (W.alloc (.cells #[.int .i64 0, .int .i64 0, .int .u8 0, .int .u8 0, .int .u8 0] 343)):=hJ.alloc _;exact hK _ _ ⟨(kx_).alloc _,KN,SNK.out _ KN,W.heap.size,_,_,_,_,_,Ap,hJ.size,AF.new W [.int .i64 0, .int .i64 0, .int .u8 0, .int .u8 0, .int .u8 0] 343⟩
  . cases ho;obtain⟨⟨f,x0,x1,x2,x3,x4,v10,hf,bf⟩,d10⟩:=he_ hd 10;obtain⟨v8,d8⟩:=he_ hd 8;obtain⟨F,hFr⟩:=ex (Iq (Jc p));rw [hFr] at v8;intro a' K Q ha hK;subst ha;have e0:=et ((d10 8 rfl).trans v10);have e1:=et ((d8 40 rfl).trans v8);have g0:=cv_ x0 (bf.cell 0);have g1:=cv_ x1 (bf.cell 1);have g2:=cv_ x2 (bf.cell 2);have g3:=cv_ x3 (bf.cell 3);have g4:=cv_ x4 (bf.cell 4);have f0:=bf.frozen 0;have f1:=bf.frozen 1;have f2:=bf.frozen 2;have f3:=bf.frozen 3;have f4:=bf.frozen 4;have HJ:=Ae hJ;have BF:=Ae bf;have V10:=Ae v10;have HFR:=Ae hFr;clear bf hJ v10 v8 hFr;go_simp;have T1:=BU.set (B:=W6.heap.size) BF.out hf 0 (.int .i64 F.1);have T2:=T1.trans (BU.set (BF.out.set 0 _) hf 1 (.int .i64 F.2.1));have T3:=T2.trans (BU.set ((BF.out.set 0 _).set 1 _) hf 2 (.int .u8 F.2.2.1));have T4:=T3.trans (BU.set (((BF.out.set 0 _).set 1 _).set 2 _) hf 3 (.int .u8 F.2.2.2.1));have T5:=T4.trans (BU.set ((((BF.out.set 0 _).set 1 _).set 2 _).set 3 _) hf 4 (.int .u8 F.2.2.2.2));have KN:=HJ.out.trans T5.k (fun i hi c=>by omega);exact hK undef _ ⟨T5,KN,SNK.out _ KN,f,(turn_other vals _ (by decide:(10:Nat)≠11)).trans V10.out,hf,by rw [HFR.out];exact((((BF.out.set 0 _).set 1 _).set 2 _).set 3 _).set 4 _⟩
 case stab=>
  intro k' hk' i' hi hne hw vals W W' hR;simp only [m1,m0,or_false] at hi;have hT:BU 343 W6.heap.size W W':=by
   rcases hi with rfl | rfl | rfl | rfl | rfl | rfl | rfl
   all_goals first | exact BU.of_new hR | exact hR
  simp only [m1,m0,or_false] at hk';rcases hk' with rfl | rfl | rfl | rfl | rfl | rfl | rfl
  . exact fun⟨M,h1,h2⟩=>⟨M,h1,V7 h2 hT.k (fun c=>by
     obtain⟨_,xs,hx⟩:=c;obtain⟨n,D,⟨es,cl,h3,_⟩,_⟩:=h2;unfold AF at hx;rw [hx] at h3;cases h3)⟩
  . exact fun h=>h
  . exact fun h=>h
  . exact fun h=>h
  . exact fun h=>h
  . exact fun⟨f,x0,x1,x2,x3,x4,h1,h2,h3⟩=>by
     obtain⟨ys,hl,hy⟩:=hT.t f _ h2 h3;obtain⟨y0,y1,y2,y3,y4,rfl⟩:=xO (xs:=ys) (by simpa using hl);exact⟨f,y0,y1,y2,y3,y4,h1,h2,hy⟩
  . have hN:AJ W W':=by
     rcases hi with rfl | rfl | rfl | rfl | rfl | rfl | rfl
     all_goals first | exact hR | exact absurd rfl hne
    exact fun⟨f,h1,h2,h3⟩=>⟨f,h1,h2,h3.keep hN id⟩
 case cong=>
  intro k' hk' vals vals' W he hd;simp only [m1,m0,or_false] at hk';rcases hk' with rfl | rfl | rfl | rfl | rfl | rfl | rfl
  . exact fun⟨M,h1,h2⟩=>⟨M,he.symm.trans h1,h2⟩
  . exact fun h=>he.symm.trans h
  . exact fun h=>he.symm.trans h
  . exact fun h=>he.symm.trans h
  . exact fun h=>he.symm.trans h
  . exact fun⟨f,x0,x1,x2,x3,x4,h1,h2⟩=>⟨f,x0,x1,x2,x3,x4,he.symm.trans h1,h2⟩
  . have h10:=he_ hd 10;exact fun⟨f,h1,h2⟩=>⟨f,h10.symm.trans h1,h2⟩
 case fin=>
  intro vals W hJ hV;obtain⟨M,v0,hF⟩:=Jh hV 0;have v6:=Jh hV 6;have v7:=Jh hV 7;have v8:=Jh hV 8;have v9:=Jh hV 9;obtain⟨f,v10,hf,bf⟩:=Jh hV 11;simp only [Am,AR,Sl];simp only [Am,AR,dstOf,De,Bl,Bk,CM,pu,s0,s1,if_true];rw [v0,v6,v7,v8,v9,v10];have JW:=Ae hJ;have BF:=Ae bf;have hS:=SNK.out _ hJ;clear v0 v6 v7 v8 v9 v10 bf hJ hV hF;refine tk 12 (v:= .bool true) hS ?_;refine⟨by kernel_rfl,?_⟩;clear hE hS;have KW:=Ae (KXK.out.then_ JW.out);have BSW:=Ae (BSK.out.keep JW.out id);have BXW:=Ae (BXK.out.keep JW.out id);have BAW:=Ae (BAK.out.keep JW.out id);have HWW:=Ae (HW.out.keep KW.out id);have RW:=Ae (HA.out.new KW.out);have s0:=BSW.out.z 0;have s1:=BSW.out.z 1;have s2:=BSW.out.z 2;have s3:=BSW.out.z 3;have x2:=cv_ (.int .i64 (p:Int)) (BXW.out.cell 2);have w1:=HWW.out.c1;have g0:=cv_ (.int .i64 (Iq (Jc p)).1) (BF.out.cell 0);have n1:=HS.out.c2;have n2:=HS.out.d2;have n3:=HS.out.r2;have zf:=BF.out.lt;have zW:=KW.out.size;have zJ:=JW.out.size;have ST':=ST.out;clear SNK BSK BAK BXK KXK HMI HW;rcases ST' with⟨rfl,hi,rfl,rfl⟩ | ⟨rfl,hi,rfl,rfl⟩ | ⟨rfl,hi,rfl,rfl,hr⟩ | ⟨rfl,hi,hk,rfl,rfl⟩ | ⟨rfl,hi,hk,rfl,rfl⟩ | ⟨rfl,hi,rfl,rfl⟩
  . have x2:=cv_ (.int .i64 17) x2;have g0:=cv_ (.int .i64 2) g0;go_wp2_with fail;refine(DP s v (p:=17) (by omega)).mono ?_;rintro e wn ⟨he,kn⟩;rw [show s.many 17=s.nd from rfl] at he;subst he;have KN:=Ae kn;have zn:=kn.size;have h0:=cv_ (.int .i64 2) ((BF.out.keep kn id).cell 0);have h1:=cv_ (.int .i64 3) ((BF.out.keep kn id).cell 1);have h2:=cv_ (.int .u8 100) ((BF.out.keep kn id).cell 2);have h3:=cv_ (.int .u8 117) ((BF.out.keep kn id).cell 3);have h4:=cv_ (.int .u8 107) ((BF.out.keep kn id).cell 4);have w2:=cv_ (.int .u32 0) ((HWW.out.keep kn id).c2);have x2':=cv_ (.int .i64 17) ((BXW.out.keep kn id).cell 2);have BAn:=Ae (BAW.out.keep kn id);have a0:=BAn.out.z 0;have a1:=BAn.out.z 1;have lw1:=BAn.out.lt;have lw0:w.heap.size<wn.heap.size:=by omega
    have fa0:=BAn.out.frozen 0;have fa1:=BAn.out.frozen 1;have lb':=(HWW.out.keep kn id).lt;have lX':=(BXW.out.keep kn id).lt;clear s0 s1 s2 s3 x2 w1 g0 kn;go_wp2_with fail;go_region;go_wp2_with fail;obtain⟨W9,hW9⟩:=ex ((((wn.setCell ((w.heap.size+1) 0) (.int .u8 100)).setCell ((w.heap.size+1) 1) (.int .i64 i)).alloc (.cells #[.int .u8 100, .int .i64 i] 126)).drew);have bw:AF W9 (w.heap.size+1) 126 [.int .u8 100, .int .i64 i]:=by
     rw [<-hW9];exact(((BAn.out.set 0 (.int .u8 100)).set 1 (.int .i64 i)).alloc _).drew
    have k9:AJ w W9:=by
     rw [<-hW9];exact(((KW.out.then_ KN.out).trans ((keeps_set _).t (keeps_set _)) (fun j hj (e:j=w.heap.size+1)=>by omega)).alloc _).drew
    rw [hW9];have y0:=bw.z 0;have y1:=bw.z 1;refine bodyPost_ret (v:= .tuple #[.int .i32 0, .agg #[.int .u8 100, .int .i64 i]]) ?_ rfl ⟨rfl,k9⟩;simp [results,results194,go_sem,y0,y1]
  . have x2:=cv_ (.int .i64 17) x2;have g0:=cv_ (.int .i64 2) g0;go_wp2_with fail;refine(DP s v (p:=17) (by omega)).mono ?_;rintro e wn ⟨he,kn⟩;rw [show s.many 17=s.nd from rfl] at he;subst he;have KN:=Ae kn;have zn:=kn.size;have h0:=cv_ (.int .i64 2) ((BF.out.keep kn id).cell 0);have h1:=cv_ (.int .i64 3) ((BF.out.keep kn id).cell 1);have h2:=cv_ (.int .u8 100) ((BF.out.keep kn id).cell 2);have h3:=cv_ (.int .u8 117) ((BF.out.keep kn id).cell 3);have h4:=cv_ (.int .u8 107) ((BF.out.keep kn id).cell 4);have w2:=cv_ (.int .u32 1) ((HWW.out.keep kn id).c2);have x2':=cv_ (.int .i64 17) ((BXW.out.keep kn id).cell 2);have BAn:=Ae (BAW.out.keep kn id);have a0:=BAn.out.z 0;have a1:=BAn.out.z 1;have lw1:=BAn.out.lt;have lw0:w.heap.size<wn.heap.size:=by omega
    have fa0:=BAn.out.frozen 0;have fa1:=BAn.out.frozen 1;have lb':=(HWW.out.keep kn id).lt;have lX':=(BXW.out.keep kn id).lt;clear s0 s1 s2 s3 x2 w1 g0 kn;go_wp2_with fail;go_region;go_wp2_with fail;obtain⟨W9,hW9⟩:=ex ((((wn.setCell ((w.heap.size+1) 0) (.int .u8 117)).setCell ((w.heap.size+1) 1) (.int .i64 i)).alloc (.cells #[.int .u8 117, .int .i64 i] 126)).drew);have bw:AF W9 (w.heap.size+1) 126 [.int .u8 117, .int .i64 i]:=by
     rw [<-hW9];exact(((BAn.out.set 0 (.int .u8 117)).set 1 (.int .i64 i)).alloc _).drew
    have k9:AJ w W9:=by
     rw [<-hW9];exact(((KW.out.then_ KN.out).trans ((keeps_set _).t (keeps_set _)) (fun j hj (e:j=w.heap.size+1)=>by omega)).alloc _).drew
    rw [hW9];have y0:=bw.z 0;have y1:=bw.z 1;refine bodyPost_ret (v:= .tuple #[.int .i32 0, .agg #[.int .u8 117, .int .i64 i]]) ?_ rfl ⟨rfl,k9⟩;simp [results,results194,go_sem,y0,y1]
  . have x2:=cv_ (.int .i64 17) x2;have g0:=cv_ (.int .i64 2) g0;go_wp2_with fail;refine(DP s v (p:=17) (by omega)).mono ?_;rintro e wn ⟨he,kn⟩;rw [show s.many 17=s.nd from rfl] at he;subst he;have KN:=Ae kn;have zn:=kn.size;have h0:=cv_ (.int .i64 2) ((BF.out.keep kn id).cell 0);have h1:=cv_ (.int .i64 3) ((BF.out.keep kn id).cell 1);have h2:=cv_ (.int .u8 100) ((BF.out.keep kn id).cell 2);have h3:=cv_ (.int .u8 117) ((BF.out.keep kn id).cell 3);have h4:=cv_ (.int .u8 107) ((BF.out.keep kn id).cell 4);have w2:=cv_ (.int .u32 2) ((HWW.out.keep kn id).c2);have x2':=cv_ (.int .i64 17) ((BXW.out.keep kn id).cell 2);have BAn:=Ae (BAW.out.keep kn id);have a0:=BAn.out.z 0;have a1:=BAn.out.z 1;have lw1:=BAn.out.lt;have lw0:w.heap.size<wn.heap.size:=by omega
    have fa0:=BAn.out.frozen 0;have fa1:=BAn.out.frozen 1;have lb':=(HWW.out.keep kn id).lt;have lX':=(BXW.out.keep kn id).lt;have s1':=(BSW.out.keep kn id).z 1;have d2:wn.cell? (v.db (i*3+2))=some (.bool true):=by rw [<-hr];exact(RW.out.new kn).dm.cell i 2 hi (by omega)
    have ld:=(RW.out.new kn).dm.lt;clear s0 s1 s2 s3 x2 w1 g0 kn;go_wp2_with fail;go_region;go_wp2_with fail;obtain⟨W9,hW9⟩:=ex ((((wn.setCell ((w.heap.size+1) 0) (.int .u8 107)).setCell ((w.heap.size+1) 1) (.int .i64 i)).alloc (.cells #[.int .u8 107, .int .i64 i] 126)).drew);have bw:AF W9 (w.heap.size+1) 126 [.int .u8 107, .int .i64 i]:=by
     rw [<-hW9];exact(((BAn.out.set 0 (.int .u8 107)).set 1 (.int .i64 i)).alloc _).drew
    have k9:AJ w W9:=by
     rw [<-hW9];exact(((KW.out.then_ KN.out).trans ((keeps_set _).t (keeps_set _)) (fun j hj (e:j=w.heap.size+1)=>by omega)).alloc _).drew
    rw [hW9];have y0:=bw.z 0;have y1:=bw.z 1;refine bodyPost_ret (v:= .tuple #[.int .i32 0, .agg #[.int .u8 107, .int .i64 i]]) ?_ rfl ⟨rfl,k9⟩;simp [results,results194,go_sem,y0,y1]
  . have x2:=cv_ (.int .i64 20) x2;have g0:=cv_ (.int .i64 2) g0;go_wp2_with fail;refine(DP s v (p:=20) (by omega)).mono ?_;rintro e wn ⟨he,kn⟩;rw [show s.many 20=s.nc from rfl] at he;subst he;have KN:=Ae kn;have zn:=kn.size;have h0:=cv_ (.int .i64 2) ((BF.out.keep kn id).cell 0);have h1:=cv_ (.int .i64 2) ((BF.out.keep kn id).cell 1);have h2:=cv_ (.int .u8 111) ((BF.out.keep kn id).cell 2);have h3:=cv_ (.int .u8 99) ((BF.out.keep kn id).cell 3);have h4:=cv_ (.int .u8 0) ((BF.out.keep kn id).cell 4);have w2:=cv_ (.int .u32 0) ((HWW.out.keep kn id).c2);have x2':=cv_ (.int .i64 20) ((BXW.out.keep kn id).cell 2);have BAn:=Ae (BAW.out.keep kn id);have a0:=BAn.out.z 0;have a1:=BAn.out.z 1;have lw1:=BAn.out.lt;have lw0:w.heap.size<wn.heap.size:=by omega
    have fa0:=BAn.out.frozen 0;have fa1:=BAn.out.frozen 1;have lb':=(HWW.out.keep kn id).lt;have lX':=(BXW.out.keep kn id).lt;have s0':=(BSW.out.keep kn id).z 0;obtain⟨ao,co,er⟩:=AO (v.fb i) (s.ck i).m (v.fc i);have q0:wn.cell? (v.cb (i*6))=some (.int .u8 (s.ck i).kind):=(RW.out.new kn).ck.cell i 0 hi (by omega);have q1:wn.cell? (v.cb (i*6+1))=some (.slice ao (s.ck i).m co):=((RW.out.new kn).ck.cell i 1 hi (by omega)).trans (congrArg some er);have q2:wn.cell? (v.cb (i*6+2))=some (.int .u64 (s.ck i).rate):=(RW.out.new kn).ck.cell i 2 hi (by omega);have q3:wn.cell? (v.cb (i*6+3))=some (.int .i64 (s.ck i).mul):=(RW.out.new kn).ck.cell i 3 hi (by omega);have q4:wn.cell? (v.cb (i*6+4))=some (.int .i64 (s.ck i).div):=(RW.out.new kn).ck.cell i 4 hi (by omega);have q5:wn.cell? (v.cb (i*6+5))=some (.int .i64 (s.ck i).lock):=(RW.out.new kn).ck.cell i 5 hi (by omega);have lc:=(RW.out.new kn).ck.lt;have HK:=Ae hk;clear er hk;obtain⟨kd,hkd⟩:=ex ((s.ck i).kind);rw [hkd] at q0 HK;clear s0 s1 s2 s3 x2 w1 g0 kn;go_wp2_with fail;refine(Gg _ _ _ _ _ _ _ _ (HK.out.elim (fun h=> .inl h) (fun h=> .inr (.inl h)))).mono ?_;rintro e wm ⟨he,km⟩;rw [show(kd==112||kd==103)=true by rcases HK.out with h | h <;> subst h <;> rfl] at he;subst he;have KM:=Ae km;have BAm:=Ae ((BAn.out.alloc (.cells #[.int .u8 111, .int .i64 i] 126)).keep km id);have b0:=BAm.out.z 0;have b1:=BAm.out.z 1;have fb0:=BAm.out.frozen 0;have fb1:=BAm.out.frozen 1;have BC:=(AF.new wn [.int .u8 111, .int .i64 i] 126).keep km id;have cc0:=BC.z 0;have cc1:=BC.z 1;clear a0 a1 fa0 fa1 km BC q0 q1 q2 q3 q4 q5;go_wp2_with fail;go_region;go_wp2_with fail;obtain⟨W9,hW9⟩:=ex ((((wm.setCell ((w.heap.size+1) 0) (.int .u8 111)).setCell ((w.heap.size+1) 1) (.int .i64 i))).drew);have bw:AF W9 (w.heap.size+1) 126 [.int .u8 111, .int .i64 i]:=by
     rw [<-hW9];exact((BAm.out.set 0 (.int .u8 111)).set 1 (.int .i64 i)).drew
    have k9:AJ w W9:=by
     rw [<-hW9];exact((((KW.out.then_ KN.out).alloc _).then_ KM.out).trans ((keeps_set _).t (keeps_set _)) (fun j hj (e:j=w.heap.size+1)=>by omega)).drew
    rw [hW9];have y0:=bw.z 0;have y1:=bw.z 1;refine bodyPost_ret (v:= .tuple #[.int .i32 0, .agg #[.int .u8 111, .int .i64 i]]) ?_ rfl ⟨rfl,k9⟩;simp [results,results194,go_sem,y0,y1]
  . have x2:=cv_ (.int .i64 20) x2;have g0:=cv_ (.int .i64 2) g0;go_wp2_with fail;refine(DP s v (p:=20) (by omega)).mono ?_;rintro e wn ⟨he,kn⟩;rw [show s.many 20=s.nc from rfl] at he;subst he;have KN:=Ae kn;have zn:=kn.size;have h0:=cv_ (.int .i64 2) ((BF.out.keep kn id).cell 0);have h1:=cv_ (.int .i64 2) ((BF.out.keep kn id).cell 1);have h2:=cv_ (.int .u8 111) ((BF.out.keep kn id).cell 2);have h3:=cv_ (.int .u8 99) ((BF.out.keep kn id).cell 3);have h4:=cv_ (.int .u8 0) ((BF.out.keep kn id).cell 4);have w2:=cv_ (.int .u32 1) ((HWW.out.keep kn id).c2);have x2':=cv_ (.int .i64 20) ((BXW.out.keep kn id).cell 2);have BAn:=Ae (BAW.out.keep kn id);have a0:=BAn.out.z 0;have a1:=BAn.out.z 1;have lw1:=BAn.out.lt;have lw0:w.heap.size<wn.heap.size:=by omega
    have fa0:=BAn.out.frozen 0;have fa1:=BAn.out.frozen 1;have lb':=(HWW.out.keep kn id).lt;have lX':=(BXW.out.keep kn id).lt;have s0':=(BSW.out.keep kn id).z 0;obtain⟨ao,co,er⟩:=AO (v.fb i) (s.ck i).m (v.fc i);have q0:wn.cell? (v.cb (i*6))=some (.int .u8 (s.ck i).kind):=(RW.out.new kn).ck.cell i 0 hi (by omega);have q1:wn.cell? (v.cb (i*6+1))=some (.slice ao (s.ck i).m co):=((RW.out.new kn).ck.cell i 1 hi (by omega)).trans (congrArg some er);have q2:wn.cell? (v.cb (i*6+2))=some (.int .u64 (s.ck i).rate):=(RW.out.new kn).ck.cell i 2 hi (by omega);have q3:wn.cell? (v.cb (i*6+3))=some (.int .i64 (s.ck i).mul):=(RW.out.new kn).ck.cell i 3 hi (by omega);have q4:wn.cell? (v.cb (i*6+4))=some (.int .i64 (s.ck i).div):=(RW.out.new kn).ck.cell i 4 hi (by omega);have q5:wn.cell? (v.cb (i*6+5))=some (.int .i64 (s.ck i).lock):=(RW.out.new kn).ck.cell i 5 hi (by omega);have lc:=(RW.out.new kn).ck.lt;have HK:=Ae hk;clear er hk;obtain⟨kd,hkd⟩:=ex ((s.ck i).kind);rw [hkd] at q0 HK;clear s0 s1 s2 s3 x2 w1 g0 kn;go_wp2_with fail;refine(Gg _ _ _ _ _ _ _ _ (HK.out.elim (fun h=> .inl h) (fun h=> .inr (.inl h)))).mono ?_;rintro e wm ⟨he,km⟩;rw [show(kd==112||kd==103)=true by rcases HK.out with h | h <;> subst h <;> rfl] at he;subst he;have KM:=Ae km;have BAm:=Ae ((BAn.out.alloc (.cells #[.int .u8 99, .int .i64 i] 126)).keep km id);have b0:=BAm.out.z 0;have b1:=BAm.out.z 1;have fb0:=BAm.out.frozen 0;have fb1:=BAm.out.frozen 1;have BC:=(AF.new wn [.int .u8 99, .int .i64 i] 126).keep km id;have cc0:=BC.z 0;have cc1:=BC.z 1;clear a0 a1 fa0 fa1 km BC q0 q1 q2 q3 q4 q5;go_wp2_with fail;go_region;go_wp2_with fail;obtain⟨W9,hW9⟩:=ex ((((wm.setCell ((w.heap.size+1) 0) (.int .u8 99)).setCell ((w.heap.size+1) 1) (.int .i64 i))).drew);have bw:AF W9 (w.heap.size+1) 126 [.int .u8 99, .int .i64 i]:=by
     rw [<-hW9];exact((BAm.out.set 0 (.int .u8 99)).set 1 (.int .i64 i)).drew
    have k9:AJ w W9:=by
     rw [<-hW9];exact((((KW.out.then_ KN.out).alloc _).then_ KM.out).trans ((keeps_set _).t (keeps_set _)) (fun j hj (e:j=w.heap.size+1)=>by omega)).drew
    rw [hW9];have y0:=bw.z 0;have y1:=bw.z 1;refine bodyPost_ret (v:= .tuple #[.int .i32 0, .agg #[.int .u8 99, .int .i64 i]]) ?_ rfl ⟨rfl,k9⟩;simp [results,results194,go_sem,y0,y1]
  . have x2:=cv_ (.int .i64 22) x2;have g0:=cv_ (.int .i64 2) g0;go_wp2_with fail;refine(DP s v (p:=22) (by omega)).mono ?_;rintro e wn ⟨he,kn⟩;rw [show s.many 22=s.nr from rfl] at he;subst he;have KN:=Ae kn;have zn:=kn.size;have h0:=cv_ (.int .i64 2) ((BF.out.keep kn id).cell 0);have h1:=cv_ (.int .i64 2) ((BF.out.keep kn id).cell 1);have h2:=cv_ (.int .u8 114) ((BF.out.keep kn id).cell 2);have h3:=cv_ (.int .u8 97) ((BF.out.keep kn id).cell 3);have h4:=cv_ (.int .u8 0) ((BF.out.keep kn id).cell 4);have w2:=cv_ (.int .u32 0) ((HWW.out.keep kn id).c2);have x2':=cv_ (.int .i64 22) ((BXW.out.keep kn id).cell 2);have BAn:=Ae (BAW.out.keep kn id);have a0:=BAn.out.z 0;have a1:=BAn.out.z 1;have lw1:=BAn.out.lt;have lw0:w.heap.size<wn.heap.size:=by omega
    have fa0:=BAn.out.frozen 0;have fa1:=BAn.out.frozen 1;have lb':=(HWW.out.keep kn id).lt;have lX':=(BXW.out.keep kn id).lt;clear s0 s1 s2 s3 x2 w1 g0 kn;go_wp2_with fail;go_region;go_wp2_with fail;obtain⟨W9,hW9⟩:=ex ((((wn.setCell ((w.heap.size+1) 0) (.int .u8 114)).setCell ((w.heap.size+1) 1) (.int .i64 i)).alloc (.cells #[.int .u8 114, .int .i64 i] 126)).drew);have bw:AF W9 (w.heap.size+1) 126 [.int .u8 114, .int .i64 i]:=by
     rw [<-hW9];exact(((BAn.out.set 0 (.int .u8 114)).set 1 (.int .i64 i)).alloc _).drew
    have k9:AJ w W9:=by
     rw [<-hW9];exact(((KW.out.then_ KN.out).trans ((keeps_set _).t (keeps_set _)) (fun j hj (e:j=w.heap.size+1)=>by omega)).alloc _).drew
    rw [hW9];have y0:=bw.z 0;have y1:=bw.z 1;refine bodyPost_ret (v:= .tuple #[.int .i32 0, .agg #[.int .u8 114, .int .i64 i]]) ?_ rfl ⟨rfl,k9⟩;simp [results,results194,go_sem,y0,y1]
end
end Go.Proofs.YtpekoejdnhaohaaGreatDoor
