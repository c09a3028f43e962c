/- What pick, the parts of plan, the graph's Above and others, the shelf's functions of strings and the audit's small parts compute. For every such input. -/
import Derived.Shelf.Small.Strs
import Derived.Shelf.Strings.Cut
import Derived.Shelf.Strings.SplitShaped
import Derived.Shelf.Strings.FieldsFuncAny
import Derived.Test.YtpekoejdnhaohaaGreatDoorH
import Derived.Test.YtpekoejdnhaohaaGreatDoorI
namespace Go.Proofs.YtpekoejdnhaohaaGreatDoor
open Go.RowKit Tryz
set_option maxRecDepth 100000
set_option maxHeartbeats 40000000
set_option linter.all false
variable {mm v:Int} {ds:List Deferred} {rs:List Nat} {B b bx c cap g gb i k n vf:Nat} {fr p tw:Nat->Bool} {cp ord:Nat->Nat} {e:Nat->Nat->Nat} {ao:Nat->Option Addr} {f:Nat->Value} {P:Program} {W W' X Y w:World}
theorem i64_of {n:Int} (h:(Lit.int .i64 n).wf=true): -9223372036854775808<=n∧n<=9223372036854775807:=by
 simp [Lit.wf,IntKind.min,IntKind.max,IntKind.signed,IntKind.bits] at h;omega
theorem A8 {x:Int} (h: -9223372036854775808<=x∧x<=9223372036854775807):IntKind.i64.wrap x=x:=by simp [IntKind.wrap,IntKind.bits,IntKind.signed];omega
theorem Kl (w:World) (c:Int) (n:Nat) (hc: -9223372036854775808<=c∧c<=9223372036854775807) (hn:0<n∧n<=1000000):
 Calls prog 7 #[.int .i64 c, .int .i64 n] w fun e w'=>(∃k:Nat,k<n∧e= .returned (.int .i64 k))∧w'=w:=by
 have n0:¬(n:Int)=0:=by omega
 go_in;by_cases h:c<0
 . go_wp2;go_ret;have e: -(c+1).tmod n=(-(c+1)) % n:=by rw [<-Int.neg_tmod,Hj (by omega)]
   have p0:=Int.emod_nonneg (-(c+1)) n0;have p1:=Int.emod_lt_of_pos (-(c+1)) (show(0:Int)<n by omega);refine⟨⟨((-(c+1)) % n).toNat,by omega,?_⟩,rfl⟩;show Ending.returned (.int .i64 (-(c+1).tmod n))=_;rw [e,Int.toNat_of_nonneg p0]
 . go_wp2;go_ret;have p0:=Int.emod_nonneg c n0;have p1:=Int.emod_lt_of_pos c (show(0:Int)<n by omega);refine⟨⟨(c % n).toNat,by omega,?_⟩,rfl⟩;show Ending.returned (.int .i64 (c % n))=_;rw [Int.toNat_of_nonneg p0]
section
open Go.Shelf
attribute [local go_sem] Oper.semAt_some
theorem L3 {f:Nat->Bool} (h:Row w b 4 n (fun i=> .bool (f i))) (i:Nat) (hi:i<n) (hn:n<=1000):
 Calls prog 81 #[.slice b n cap, .int .i64 i] w fun e w'=>e= .returned (.bool (f i))∧w'=w:=by
 have c:=h.cell hi;generalize f i=q at*;clear h;go_in;go_wp2;go_ret;exact⟨rfl,rfl⟩
def flt (ord:Nat->Nat) (p:Nat->Bool):Nat->List Nat
 | 0=>[]
 | k+1=>flt ord p k++if p (ord k) then [ord k] else []
theorem Tz (h:p (ord k)=true):flt ord p (k+1)=flt ord p k++[ord k]:=by rw [flt,if_pos h]
theorem YS (h:p (ord k)=false):flt ord p (k+1)=flt ord p k:=by rw [flt,if_neg (by simp [h]),List.append_nil]
theorem Si (h:k<=n):flt ord p k<+:flt ord p n:=by
 induction n with
 | zero=>rw [show k=0 by omega];exact List.prefix_refl _
 | succ n ih=>
  by_cases e:k=n+1
  . rw [e];exact List.prefix_refl _
  . exact(ih (by omega)).trans (List.prefix_append _ _)
theorem flt_at (hk:k<n) (h:p (ord k)=true):(flt ord p n)[(flt ord p k).length]?=some (ord k):=by
 obtain⟨r,hr⟩:=Si (ord:=ord) (p:=p) (show k+1<=n by omega);rw [<-hr,Tz h];simp
structure IK where
 p0:Nat
 p1:Nat
 p2:Nat
 ob:Nat
 oc:Nat
 tb:Nat
 tc:Nat
 fb:Nat
 fc:Nat
abbrev IK.lb (m:IK):Array Value:= #[.pointer m.p0, .pointer m.p1, .pointer m.p2]
structure G5 (W:World) (m:IK) (n:Nat) (ord:Nat->Nat) (tw fr:Nat->Bool):Prop where
 b0:AF W m.p0 22 [.slice m.ob n m.oc]
 b1:AF W m.p1 115 [.slice m.tb n m.tc]
 b2:AF W m.p2 115 [.slice m.fb n m.fc]
 r0:Row W m.ob 3 n (fun i=> .int .i64 (ord i:Int))
 r1:Row W m.tb 4 n (fun i=> .bool (tw i))
 r2:Row W m.fb 4 n (fun i=> .bool (fr i))
theorem G5.new {m:IK} (h:G5 W m n ord tw fr) (k:AJ W W'):G5 W' m n ord tw fr:=
 ⟨h.b0.keep k id,h.b1.keep k id,h.b2.keep k id,h.r0.keep k id,h.r1.keep k id,h.r2.keep k id⟩
abbrev HU (l:List Nat):List (Array Value):=l.map fun(i:Nat)=> #[Value.int .i64 i]
theorem Ru {m:IK} (hn:n<=1000) (hord:∀i,i<n->ord i<n):
 G0 prog 354 m.lb (HU (flt ord (fun i=>tw i&&!fr i) n)) (fun W=>G5 W m n ord tw fr):=by
 intro l J W hJ hM hY h0;obtain⟨L,hL⟩:=ex (flt ord (fun i=>tw i&&!fr i) n);have FH:AG (∀k,k<n->tw (ord k)=true->fr (ord k)=false->L[(flt ord (fun i=>tw i&&!fr i) k).length]?=some (ord k)∧(flt ord (fun i=>tw i&&!fr i) (k+1)).length=(flt ord (fun i=>tw i&&!fr i) k).length+1):=⟨fun k hk h1 h2=>by
  have hp:(fun i=>tw i&&!fr i) (ord k)=true:=by simp [h1,h2]
  exact⟨by rw [<-hL];exact flt_at hk hp,by rw [Tz hp];simp⟩⟩
 have FM:AG (∀k,(tw (ord k)&&!fr (ord k))=false->(flt ord (fun i=>tw i&&!fr i) (k+1)).length=(flt ord (fun i=>tw i&&!fr i) k).length):=⟨fun k h=>by rw [YS h]⟩;have FE:AG ((flt ord (fun i=>tw i&&!fr i) n).length=(HU L).length):=⟨by rw [hL];simp⟩;rw [hL] at hY ⊢;have HL:=Ae hL;clear hL;generalize hc:(fun k=>(flt ord (fun i=>tw i&&!fr i) k).length)=cnt at*;have FH':AG (∀k,k<n->tw (ord k)=true->fr (ord k)=false->L[cnt k]?=some (ord k)∧cnt (k+1)=cnt k+1):=⟨fun k hk h1 h2=>by rw [<-hc];exact FH.out k hk h1 h2⟩;have FM':AG (∀k,(tw (ord k)&&!fr (ord k))=false->cnt (k+1)=cnt k):=⟨fun k h=>by rw [<-hc];exact FM.out k h⟩;have C0:AG (cnt 0=0∧cnt n=(HU L).length):=⟨by rw [<-hc];exact⟨rfl,FE.out⟩⟩;clear hc FH FM FE HL;have YY:=Ae hY;have MM:=Ae hM;have OO:=Ae hord;have cc:=(hM 0 W h0).b0.cell 0;have J0:AG (J (cnt 0) W):=⟨by rw [C0.out.1];exact h0⟩;clear hY hM hord h0 hJ;refine callsIn_of_wp func354 rfl trivial ?_ rfl;simp only [ntmps354,List.size_toArray,Dy,Ek,Nat.reduceAdd,Nat.reduceSub,Array.replicate_succ,Array.replicate_zero,List.push_toArray,List.append_toArray,CK,EH];gi_wp2;gi_loopw [9] (fun i wr=>∃k:Nat,k<=n∧i= .int .i64 k∧J (cnt k) wr) (fun i _=>n - (intOf i).toNat);case atStart=>exact⟨0,by omega,rfl,J0.out⟩
 case round=>
  obtain⟨k,hk,rfl,hj⟩:=hrel;have JK:=Ae hj;have ma:=MM.out _ _ hj;clear hj;by_cases hlt:k<n
  . have c1:=ma.b1.cell 0;have c2:=ma.b2.cell 0;have ck:=ma.r0.cell hlt;have ho:=OO.out k hlt;have H1:=FH'.out k hlt;have H2:=FM'.out k;have R1:=Ae ma.r1;have R2:=Ae ma.r2;obtain⟨o,hoo⟩:=ex (ord k);rw [hoo] at ck ho H1 H2;clear ma hoo;obtain⟨a,ha⟩:=ex (tw o);obtain⟨b,hb⟩:=ex (fr o);have TA:=Ae ha;have FB:=Ae hb;rw [ha,hb] at H1 H2;clear ha hb;have D1:AG (CallsIn Fence.wide 0 prog 81 #[.slice m.tb n m.tc, .int .i64 o] wr fun e w'=>e= .returned (.bool a)∧w'=wr):=⟨callsIn_wide.2 (by rw [<-TA.out];exact L3 R1.out o ho hn)⟩;have D2:AG (CallsIn Fence.wide 0 prog 81 #[.slice m.fb n m.fc, .int .i64 o] wr fun e w'=>e= .returned (.bool b)∧w'=wr):=⟨callsIn_wide.2 (by rw [<-FB.out];exact L3 R2.out o ho hn)⟩;clear R1 R2;cases a
    . have H2:=Ae (H2 rfl);clear H1 FH' FM';gi_wp2_with fail;refine⟨trivial,rfl,D1.out.mono ?_⟩;rintro e w' ⟨rfl,rfl⟩;gi_wp2_with fail;refine⟨trivial,?_⟩;gi_wp2_with fail;refine⟨fun _ _=>trivial,?_⟩;gi_wp2;go_roundw;case rel=>exact⟨k+1,by omega,by go_num,by rw [H2.out];exact JK.out⟩
      case measure=>simp [intOf];omega
    . cases b
      . obtain⟨h1,h2⟩:=H1 rfl rfl;have h2:=Ae h2;have hl:cnt k<(HU L).length:=by have:=(G8.1 h1).1;simpa using this
        have he:(HU L)[cnt k]= #[.int .i64 o]:=by have:=(G8.1 h1).2;simp [this]
        obtain⟨fn,tmps,assign,body,hy,hR⟩:=YY.out (cnt k) hl wr JK.out;rw [he] at hy;have HR:=Ae hR;clear H1 H2 FH' FM' h1 hl he hR;gi_wp2_with fail;refine⟨trivial,rfl,D1.out.mono ?_⟩;rintro e w' ⟨rfl,rfl⟩;gi_wp2_with fail;refine⟨trivial,rfl,D2.out.mono ?_⟩;rintro e w' ⟨rfl,rfl⟩;gi_wp2_with fail;refine⟨rfl,HR.out.mono ?_⟩;rintro e w' ⟨rfl,hj,_⟩;have hj:=Ae hj;gi_wp2;go_roundw;case rel=>exact⟨k+1,by omega,by go_num,by rw [h2.out];exact hj.out⟩
        case measure=>simp [intOf];omega
      . have H2:=Ae (H2 rfl);clear H1 FH' FM';gi_wp2_with fail;refine⟨trivial,rfl,D1.out.mono ?_⟩;rintro e w' ⟨rfl,rfl⟩;gi_wp2_with fail;refine⟨trivial,rfl,D2.out.mono ?_⟩;rintro e w' ⟨rfl,rfl⟩;gi_wp2_with fail;refine⟨fun _ _=>trivial,?_⟩;gi_wp2;go_roundw;case rel=>exact⟨k+1,by omega,by go_num,by rw [H2.out];exact JK.out⟩
        case measure=>simp [intOf];omega
  . have e:k=n:=by omega
    subst e;gi_wp2;go_end0;exact⟨⟨_,rfl⟩,by rw [<-C0.out.2];exact JK.out⟩
end
section
open Go.Shelf
attribute [local go_sem] Oper.semAt_some
theorem AF.nc {t:TypeId} {xs:List Value} (h:AF X b t xs) (k:NC B X Y):AF Y b t xs:=h.keep k fun c=>by
 obtain⟨_,o,ho,hc⟩:=c;unfold AF at h;rw [h] at ho;cases ho;cases hc
theorem Row.nc {t:TypeId} (h:Row X b t n f) (k:NC B X Y):Row Y b t n f:=h.keep k fun c=>by
 obtain⟨_,o,ho,hc⟩:=c;obtain⟨_,h,_⟩:=h;rw [h] at ho;cases ho;cases hc
structure UH where
 q0:Nat
 q1:Nat
 q2:Nat
 q3:Nat
 m:IK
 vb:Nat
abbrev UH.lb (b:UH):Array Value:= #[.pointer b.q0, .pointer b.q1, .pointer b.q2, .pointer b.q3]
structure WX (W:World) (b:UH) (p mm:Int) (vf:Nat):Prop where
 b0:AF W b.q0 426 [.func (.func 354) #[] b.m.lb]
 b1:AF W b.q1 3 [.int .i64 p]
 b2:AF W b.q2 3 [.int .i64 mm]
 b3:AF W b.q3 385 [.func (.func vf) #[] #[.pointer b.vb]]
theorem WX.new {b:UH} {p:Int} (h:WX W b p mm vf) (k:AJ W W'):WX W' b p mm vf:=⟨h.b0.keep k id,h.b1.keep k id,h.b2.keep k id,h.b3.keep k id⟩
abbrev stepV (p mm:Int) (val:Nat->Int) (o:Nat):Value:= .agg #[.int .i64 p, .int .i64 mm, .int .u32 o, .int .u32 (val o)]
abbrev Nt (p mm:Int) (val:Nat->Int) (L:List Nat):List (Array Value):=L.map fun(o:Nat)=> #[stepV p mm val o]
theorem rows_wide {row:String} {args:Array Value} {R:Value->World->Prop} (h:Rows P row args w R):RowsIn Fence.wide n P row args w R:=
 fun c cs _=>let ⟨v,w',r,s⟩:=h c cs;⟨v,w',r,stepsIn_wide.2 s⟩
theorem AK {l:Nat} {o:Oper} {ρ:Operand->Value} {C:Value->World->Prop} (hd:∀c,o.op≠ .defer c) (g:Fi P o ρ w C):G7 (Fence.wide.inRound l) P o ρ w C:=by
 intro a K Q ha hK;have h:=g a K Q ha hK;refine⟨fun _ _=>trivial,?_⟩;rw [Fence.inRound_round,Oper.semAt_some _ _ _ hd];unfold Oper.wp at h;generalize (execOp a.eval o).run P w=r at h ⊢
 cases r with
 | ok x w'=>
  cases x <;> simp only [Oper.upon,Oper.uponIn] at h ⊢ <;> first | exact h | exact⟨La,CallsIn.inRound l (callsIn_wide.2 h)⟩ | exact⟨La,rows_wide h⟩ | exact h.elim
 | halt x w'=>cases x <;> simp only [Oper.upon,Oper.uponIn] at h ⊢ <;> exact h
theorem Pi {b:UH} {p:Int} {val:Nat->Int} {VM:World->Prop} (hn:n<=1000) (hord:∀i,i<n->ord i<n)
 (hvn:∀X Y,VM X->AJ X Y->VM Y) (hval:∀W,VM W->∀i,i<n->Calls prog vf #[.int .i64 i, .pointer b.vb] W fun e w'=>e= .returned (.int .u32 (val i))∧w'=W)
 (hcall:∀args w,(callFunc vf args).run prog w= .ok (.enter vf args) w):
 G0 prog 353 b.lb (Nt p mm val (flt ord (fun i=>tw i&&!fr i) n)) (fun W=>WX W b p mm vf∧G5 W b.m n ord tw fr∧VM W):=by
 intro l J W hJ hM hY h0;obtain⟨L,hL⟩:=ex (flt ord (fun i=>tw i&&!fr i) n);have LT:AG (∀i o,L[i]?=some o->o<n):=⟨by
  rw [<-hL];have:∀k,k<=n->∀o ∈ flt ord (fun i=>tw i&&!fr i) k,o<n:=by
   intro k
   induction k with
   | zero=>intro _ o h;cases h
   | succ k ih=>
    intro hk o h;rw [flt] at h;rcases List.mem_append.1 h with h | h
    . exact ih (by omega) o h
    . split at h
      . rw [Dz.1 h];exact hord k (by omega)
      . cases h
  exact fun i o h=>this n (al11_ _) o (List.mem_of_getElem? h)⟩
 have MR:AG (G0 prog 354 b.m.lb (HU L) (fun W=>G5 W b.m n ord tw fr)):=⟨by rw [<-hL];exact Ru hn hord⟩;rw [hL] at hY ⊢;have YY:=Ae hY;have MM:=Ae hM;have JJ:=Ae hJ;have J0:=Ae h0;have VV:=Ae hval;have VN:=Ae hvn;have q0:(W.alloc (.cells #[.func (.yield l) #[] #[]] 430)).cell? (b.q0 0)=some (.func (.func 354) #[] b.m.lb):=(hM 0 _ (hJ 0 _ _ h0 (FT ((kx_).alloc _)))).1.b0.cell 0;clear hY hM hJ h0 hL hval hord hvn;refine callsIn_of_wp_marks func353 rfl trivial ?_ rfl;simp only [ntmps353,List.size_toArray,Dy,Ek,Nat.reduceAdd,Nat.reduceSub,Array.replicate_succ,Array.replicate_zero,List.push_toArray,List.append_toArray,CK,EH];gi_wp2_with fail;have bY:=AF.new W [.func (.yield l) #[] #[]] 430;have kW:=(nr W).alloc (.cells #[.func (.yield l) #[] #[]] 430);have zW:(W.alloc (.cells #[.func (.yield l) #[] #[]] 430)).heap.size=W.heap.size+1:=by simp
 have jW:=JJ.out 0 _ _ J0.out (FT kW);obtain⟨W1,hW1⟩:=ex (W.alloc (.cells #[.func (.yield l) #[] #[]] 430));rw [hW1] at bY kW zW jW ⊢;clear hW1;refine Ct (gf:=354) (lb:=b.m.lb) (xs:=HU L) rfl (enters_of func354 (by kernel_rfl) rfl) MR.out (fun i h=>by simp) (fun i X=>J i X∧AF X W.heap.size 430 [.func (.yield l) #[] #[]])
  (fun i X Y h k=>⟨JJ.out i X Y h.1 (k.mono fun j c=>⟨by have:=c.1;omega,c.2⟩),h.2.nc k⟩) (fun i X h=>(MM.out i X h.1).2.1) ⟨jW,bY⟩ ?round ?done
 case round=>
  rintro r i hi X ⟨hj,hb⟩;have hlen:i<L.length:=by simpa using hi
  obtain⟨o,ho⟩:∃o,L[i]?=some o:=⟨L[i],by simp [hlen]⟩;have ho2:=LT.out i o ho;have he:(HU L)[i]= #[.int .i64 o]:=by have:=(G8.1 ho).2;simp [this]
  have hi2:i<(Nt p mm val L).length:=by simpa using hlen
  have he2:(Nt p mm val L)[i]= #[stepV p mm val o]:=by have:=(G8.1 ho).2;simp [this]
  rw [he];have HJ:=Ae hj;have HB:=Ae hb;have HE:=Ae he2;clear hj hb he ho he2;gi_wp2_with fail;refine⟨kx_,fun X2 n2=>?_⟩;have hj:=JJ.out i X X2 HJ.out (n2.mono fun j c=>⟨by have:=c.1;omega,c.2⟩);have hb:=HB.out.nc n2;obtain⟨sa,ma,vm⟩:=MM.out i X2 hj;have y0:=cv_ (.func (.yield l) #[] #[]) (hb.cell 0);have y1:=cv_ (.int .i64 p) (sa.b1.cell 0);have y2:=cv_ (.int .i64 mm) (sa.b2.cell 0);have y3:=cv_ (.func (.func vf) #[] #[.pointer (some (b.vb 0))]) (sa.b3.cell 0);have vmd:=Ae (VN.out X2 X2.drew vm (AD.drew (AD.refl _ X2)));have jd:=JJ.out i X2 X2.drew hj (FT (AD.drew (AD.refl _ X2)));have bd:AF X2.drew W.heap.size 430 [.func (.yield l) #[] #[]]:=hb;have kd:AJ X2 X2.drew:=AD.drew (AD.refl _ X2);obtain⟨Y,hYY⟩:∃Y,X2.drew=Y:=⟨_,rfl⟩;have z0:Y.cell? (W.heap.size 0)=some (.func (.yield l) #[] #[]):=by rw [<-hYY];exact y0
  have z1:Y.cell? (b.q1 0)=some (.int .i64 p):=by rw [<-hYY];exact y1
  have z2:Y.cell? (b.q2 0)=some (.int .i64 mm):=by rw [<-hYY];exact y2
  have z3:Y.cell? (b.q3 0)=some (.func (.func vf) #[] #[.pointer (some (b.vb 0))]):=by rw [<-hYY];exact y3
  rw [hYY] at vmd jd bd kd;have YR:=Ae (YY.out i hi2 Y jd);rw [HE.out] at YR;have BD:=Ae bd;have KD:=Ae kd;have CF:=Ae hcall;clear y0 y1 y2 y3 sa ma vm hj hb n2 jd bd kd;gi_wp2_with fail;refine wpIn_region_any (by kernel_rfl) ?_;change wpAnyIn _ _ _ _ _ _ (([0,1,2,3,4,5,6,7,8]:List Nat).length+2) _ _ X2.drew;rw [hYY];clear hYY;refine PE [0,1,2,3,4,5,6,7,8] (fun i vals _=>vals i=([.func (.yield l) #[] #[], .int .i64 p, .int .i64 mm, .int .i64 o, .int .u32 o, .func (.func vf) #[] #[.pointer b.vb], .int .i64 o, .int .u32 (val o), .agg #[.int .i64 p, .int .i64 mm, .int .u32 o, .int .u32 (val o)]]:List Value).getD i undef) (fun w=>w=Y) (fun _ _ _=>True) (by kernel_rfl) (by kernel_rfl) (by kernel_rfl) (by kernel_rfl) (by kernel_rfl) rfl ?lstep (fun _ _ _ _ _ _ _ _ _ _ h=>h) (fun i _ vals vals' _ e _ h=>by rw [<-e];exact h) ?lfin;case lstep=>
   intro i hi oo ho vals ρ w' hw hd hf;subst hw;simp only [m1,m0,or_false] at hi;rcases hi with rfl | rfl | rfl | rfl | rfl | rfl | rfl | rfl | rfl
   . cases ho;have h0:=hf (.tmp 5) (by kernel_rfl);refine AK (fun c e=>by cases e) ?_;intro a' K Q ha hK;have e5:=tf (.pointer W.heap.size) ha 5 h0;clear ha;go_simp;exact hK _ _ ⟨trivial,rfl,trivial,Ap⟩
   . cases ho;have h1:=hf (.tmp 2) (by kernel_rfl);refine AK (fun c e=>by cases e) ?_;intro a' K Q ha hK;have e2:=tf (.pointer b.q1) ha 2 h1;clear ha;go_simp;exact hK _ _ ⟨trivial,rfl,trivial,Ap⟩
   . cases ho;have h2:=hf (.tmp 3) (by kernel_rfl);refine AK (fun c e=>by cases e) ?_;intro a' K Q ha hK;have e3:=tf (.pointer b.q2) ha 3 h2;clear ha;go_simp;exact hK _ _ ⟨trivial,rfl,trivial,Ap⟩
   . cases ho;have h3:=hf (.tmp 6) (by kernel_rfl);refine AK (fun c e=>by cases e) ?_;intro a' K Q ha hK;have e6:=tf (.int .i64 o) ha 6 h3;clear ha;go_simp;exact hK _ _ ⟨trivial,rfl,trivial,Ap⟩
   . cases ho;refine AK (fun c e=>by cases e) ?_;intro a' K Q ha hK;have e12:=td (.int .i64 (o:Int)) ha 12 (he_ hd 3);clear ha;go_simp;have hwr:IntKind.u32.wrap (o:Int)=(o:Int):=by
      have:o<1000:=by omega
      simp [IntKind.wrap,IntKind.bits,IntKind.signed];omega
     rw [hwr];exact hK _ _ ⟨trivial,rfl,trivial,Ap⟩
   . cases ho;have h5:=hf (.tmp 4) (by kernel_rfl);refine AK (fun c e=>by cases e) ?_;intro a' K Q ha hK;have e4:=tf (.pointer b.q3) ha 4 h5;clear ha;go_simp;exact hK _ _ ⟨trivial,rfl,trivial,Ap⟩
   . cases ho;have h6:=hf (.tmp 6) (by kernel_rfl);refine AK (fun c e=>by cases e) ?_;intro a' K Q ha hK;have e6:=tf (.int .i64 o) ha 6 h6;clear ha;go_simp;exact hK _ _ ⟨trivial,rfl,trivial,Ap⟩
   . cases ho;refine AK (fun c e=>by cases e) ?_;intro a' K Q ha hK;have e14:=td (.func (.func vf) #[] #[.pointer (some (b.vb 0))]) ha 14 (he_ hd 5);have e15:=td (.int .i64 (o:Int)) ha 15 (he_ hd 6);clear ha;go_simp;refine mn_ (VV.out _ vmd.out o ho2) ?_;exact hK _ _ ⟨trivial,rfl,trivial,Ap⟩
   . cases ho;refine AK (fun c e=>by cases e) ?_;intro a' K Q ha hK;have e10:=td (.int .i64 p) ha 10 (he_ hd 1);have e11:=td (.int .i64 mm) ha 11 (he_ hd 2);have e13:=td (.int .u32 (o:Int)) ha 13 (he_ hd 4);have e16:=td (.int .u32 (val o)) ha 16 (he_ hd 7);clear ha;go_simp;exact hK _ _ ⟨trivial,rfl,trivial,Ap⟩
  case lfin=>
   rintro vals w' rfl hv;have v0:=Jh hv 0;have v1:=Jh hv 1;have v2:=Jh hv 2;have v3:=Jh hv 3;have v4:=Jh hv 4;have v5:=Jh hv 5;have v6:=Jh hv 6;have v7:=Jh hv 7;have v8:=Jh hv 8;clear hv;simp only [Am,AR,dstOf,De,Bl,Bk,CM,pu,s0,s1,if_true,v0,v1,v2,v3,v4,v5,v6,v7,v8];clear v0 v1 v2 v3 v4 v5 v6 v7 v8;refine Bb (i:=9) (d:=18) rfl rfl (by kernel_rfl) (by kernel_rfl) (C:=fun u Z=>u= .bool true∧J (i+1) Z∧DW W.heap.size w' Z∧AF Z W.heap.size 430 [.func (.yield l) #[] #[]]) ?lg ?ln;case lg=>
    intro a' K Q ha hK;refine⟨fun _ _=>trivial,?_⟩;obtain⟨fn,tmps,assign,body,hy,hR⟩:=YR.out;have HR:=Ae hR;have e9:=te ha 9;have e17:=te ha 17;clear ha hR;rw [Fence.inRound_round,Oper.semAt_some _ _ _ (fun c e=>by cases e)];go_simp;refine⟨rfl,RoundIn.mono (F:=Fence.wide.inRound r) HR.out ?_⟩;rintro e Z ⟨rfl,hj,hk⟩;exact hK _ _ ⟨rfl,hj,hk,hk.same _ _ (al11_ _) BD.out (.inr ⟨_,_,_, .inl rfl,rfl⟩)⟩
   case ln=>
    rintro u Z ⟨rfl,hj,hk,hb⟩;have HJ2:=Ae hj;have HB2:=Ae hb;have HK2:=Ae hk;clear hj hb hk;simp only [pu,s0,s1];refine Bb (i:=10) (d:=19) rfl rfl (by kernel_rfl) (by kernel_rfl) (C:=fun u Y=>u= .bool false∧Y=Z) ?mg ?mn;case mg=>
     refine AK (fun c e=>by cases e) ?_;intro a' K Q ha hK;have e18:=te ha 18;clear ha;go_simp;exact hK _ _ ⟨rfl,rfl⟩
    case mn=>
     rintro u Y ⟨rfl,rfl⟩;simp only [pu,s0,s1];refine⟨by kernel_rfl,?_⟩;gi_wp2_with fail;exact⟨((DW.new KD.out).trans (HK2.out.mono (by omega))),HJ2.out,HB2.out⟩
 case done=>
  rintro D Z hD ⟨hj,hb⟩ hK;gi_wp2_with fail;refine Cc (B:=W.heap.size) [D] _ _ ⟨rfl,fun r hr=>by rw [Dz.1 hr];exact⟨by omega,hK⟩,by simp⟩ fun Y hY=>?_;have hj2:=JJ.out _ _ _ hj hY;exact⟨_,results_none rfl _ _ _,⟨_,rfl⟩,by simpa using hj2⟩
end
section
open Go.Shelf
attribute [local go_sem] Oper.semAt_some
def Gb {α:Type} (f:Nat->List α):Nat->List α
 | 0=>[]
 | k+1=>Gb f k++f k
theorem yU {α:Type} {f:Nat->List α} {x:α} (hk:k<n) (h:(f k)[i]?=some x):(Gb f n)[(Gb f k).length+i]?=some x:=by
 induction n with
 | zero=>omega
 | succ n ih=>
  rw [Gb];by_cases e:k=n
  . subst e;rw [ME (by omega),Nat.add_sub_cancel_left];exact h
  . have h2:=ih (by omega);rw [List.getElem?_append_left (G8.1 h2).1];exact h2
theorem Pq {C:Nat} (h:G6 B X ds rs) (hr:∀r ∈ rs,r<C) (k:NC C X Y):G6 B Y ds rs:=
 ⟨h.eq,fun r m=>⟨(h.at_ r m).1,(k.block r (Ci.1 (h.at_ r m).2).1 fun c=>by have:=c.1;have:=hr r m;omega).trans (h.at_ r m).2⟩,h.one⟩
theorem Xr (h:G6 B X ds rs) (k:DW B X Y):G6 B Y ds rs:=
 ⟨h.eq,fun r m=>⟨(h.at_ r m).1,k.same r _ (h.at_ r m).1 (h.at_ r m).2 (.inl rfl)⟩,h.one⟩
structure TV where
 a:Nat
 g:Nat
abbrev TV.lb (b:TV):Array Value:= #[.pointer b.a]
structure Nj (W:World) (b:TV) (lbs:Nat->Array Value):Prop where
 b0:AF W b.a 429 [.slice b.g 6 6]
 b1:Row W b.g 420 6 (fun k=> .func (.func 353) #[] (lbs k))
theorem Ut {b:TV} {lbs:Nat->Array Value} {xss:Nat->List Value} {Mem:World->Prop} (hs:∀k,k<6->G0 prog 353 (lbs k) ((xss k).map fun v=> #[v]) Mem)
 (hv:∀k,k<6->∀v ∈ xss k,∃p mm i x,v= .agg #[.int .i64 p, .int .i64 mm, .int .u32 i, .int .u32 x]):
 G0 prog 352 b.lb ((Gb xss 6).map fun v=> #[v]) (fun W=>Nj W b lbs∧Mem W):=by
 intro l J W hJ hM hY h0;obtain⟨off,hoff⟩:∃off:Nat->Nat,off=fun k=>(Gb xss k).length:=⟨_,rfl⟩;have AT:AG (∀k i v,k<6->(xss k)[i]?=some v->(Gb xss 6)[off k+i]?=some v):=⟨fun k i v hk h=>by rw [hoff];exact yU hk h⟩;have OFF:AG (off 0=0∧(∀k,off (k+1)=off k+(xss k).length)∧off 6=((Gb xss 6).map fun v=> #[v]).length):=⟨by rw [hoff];exact⟨rfl,fun k=>by simp [Gb],by simp⟩⟩;obtain⟨L,hL⟩:=ex (Gb xss 6);rw [hL] at AT OFF hY ⊢;clear hL hoff;have YY:=Ae hY;have MM:=Ae hM;have JJ:=Ae hJ;have SS:=Ae hs;have VV:=Ae hv;have J0:AG (J (off 0) W):=⟨by rw [OFF.out.1];exact h0⟩;have q0:(W.alloc (.cells #[.func (.yield l) #[] #[]] 430)).cell? (b.a 0)=some (.slice (some (b.g 0)) 6 6):=(hM _ _ (hJ _ _ _ h0 (FT ((kx_).alloc _)))).1.b0.cell 0;clear hY hM hJ h0 hs hv;refine callsIn_of_wp_marks func352 rfl trivial ?_ rfl;simp only [ntmps352,List.size_toArray,Dy,Ek,Nat.reduceAdd,Nat.reduceSub,Array.replicate_succ,Array.replicate_zero,List.push_toArray,List.append_toArray,CK,EH];gi_wp2_with fail;have bY:=AF.new W [.func (.yield l) #[] #[]] 430;have kW:=(nr W).alloc (.cells #[.func (.yield l) #[] #[]] 430);have jW:=JJ.out _ _ _ J0.out (FT kW);obtain⟨W1,hW1⟩:=ex (W.alloc (.cells #[.func (.yield l) #[] #[]] 430));rw [hW1] at bY kW jW ⊢;clear hW1;refine wpIn_loop (fun a' X=>∃ (k:Nat) (rs:List Nat) (ds:List Deferred) (u4 u5 u9 u10 u11 u12 u13 u14 u15 u16 u17 u18:Value),k<=6∧J (off k) X∧AF X W.heap.size 430 [.func (.yield l) #[] #[]]∧G6 (W.heap.size+1) X ds rs∧
  a'={ tmps:= #[.func (.yield l) #[] #[], .pointer b.a, .pointer W.heap.size,undef,u4,u5, .slice b.g 6 6, .int .i64 6, .int .i64 k,u9,u10,u11,u12,u13,u14,u15,u16,u17,u18],defers:=ds }) (fun a' _=>6 - (intOf (a'.tmps.getD 8 undef)).toNat) ?start ?round
 case start=>
  exact⟨0,[],[],_,_,_,_,_,_,_,_,_,_,_,_,by omega,jW,bY,⟨rfl,fun r h=>(by cases h),List.nodup_nil⟩,rfl⟩
 case round=>
  rintro a' X ⟨k,rs,ds,u4,u5,u9,u10,u11,u12,u13,u14,u15,u16,u17,u18,hk,hj,hb,hm,rfl⟩;have HJ:=Ae hj;have HB:=Ae hb;have HM:=Ae hm;have RL:AG (∀r ∈ rs,r<X.heap.size):=⟨fun r m=>(Ci.1 (hm.at_ r m).2).1⟩;have HXB:=Ae hb.lt;obtain⟨at_,mem⟩:=MM.out _ _ hj;clear hj hb hm;dsimp only;by_cases hlt:k<6
  . have ck:=at_.b1.cell hlt;clear at_ mem;obtain⟨lb,hlb⟩:=ex (lbs k);have SK:=Ae (SS.out k hlt);rw [hlb] at ck SK;clear hlb;gi_wp2_with fail;refine Ct (gf:=353) (lb:=lb) (xs:=(xss k).map fun v=> #[v]) rfl (enters_of func353 (by kernel_rfl) rfl) SK.out (fun i h=>by simp) (fun i Y=>J (off k+i) Y∧AF Y W.heap.size 430 [.func (.yield l) #[] #[]]∧G6 (W.heap.size+1) Y ds rs)
     (fun i Y Z h n=>⟨JJ.out _ Y Z h.1 (n.mono fun j c=>⟨by have:=c.1;have:=HB.out.lt;omega,c.2⟩),h.2.1.nc n,Pq h.2.2 RL.out n⟩) (fun i Y h=>(MM.out _ Y h.1).2) ⟨HJ.out,HB.out,HM.out⟩ ?rnd ?done
    case rnd=>
     rintro r i hi Y ⟨hj,hb,hm⟩;have hlen:i<(xss k).length:=by simpa using hi
     obtain⟨v,hv⟩:∃v,(xss k)[i]?=some v:=⟨(xss k)[i],by simp [hlen]⟩;have hv2:=AT.out k i v hlt hv;have he:((xss k).map fun v=> #[v])[i]= #[v]:=by have:=(G8.1 hv).2;simp [this]
     have hi2:off k+i<(L.map fun v=> #[v]).length:=by have:=(G8.1 hv2).1;simpa using this
     have he2:(L.map fun v=> #[v])[off k+i]= #[v]:=by have:=(G8.1 hv2).2;simp [this]
     obtain⟨p,mm,ii,x,rfl⟩:=VV.out k hlt v (List.mem_of_getElem? hv);rw [he];have HJ:=Ae hj;have HB:=Ae hb;have HM:=Ae hm;have HE:=Ae he2;clear hj hb hm he he2 hv hv2;gi_wp2_with fail;have bV:=AF.new Y [.int .i64 p, .int .i64 mm, .int .u32 ii, .int .u32 x] 278;have kV:=(nr Y).alloc (.cells #[.int .i64 p, .int .i64 mm, .int .u32 ii, .int .u32 x] 278);obtain⟨Y1,hY1⟩:=ex (Y.alloc (.cells #[.int .i64 p, .int .i64 mm, .int .u32 ii, .int .u32 x] 278));rw [hY1] at bV kV ⊢;refine⟨kV,fun X2 n2=>?_⟩;have lX:=HB.out.lt;have bV2:=bV.nc n2;have n3:=(FT kV (B:=X.heap.size)).trans n2 fun j hj c=>by
      obtain⟨c1,o,c2,c3⟩:=c;exact⟨c1,o,(kV.block j hj id).symm.trans c2,c3⟩
     clear hY1;have jX:=JJ.out _ Y X2 HJ.out (n3.mono fun j c=>⟨by have:=c.1;have:=HXB.out;omega,c.2⟩);have bX:=HB.out.nc n3;have mX:=Ae (Pq HM.out (C:=X.heap.size) (fun r m=>RL.out r m) n3);have y2:=bX.z 0;have v0:=bV2.z 0;have v1:=bV2.z 1;have v2:=bV2.z 2;have v3:=bV2.z 3;obtain⟨fn,tmps,assign,body,hy,hR⟩:=YY.out (off k+i) hi2 X2 jX;rw [HE.out] at hy;have HR:=Ae hR;have BX:=Ae bX;clear bV kV bV2 n2 n3 jX bX hR;gi_wp2_with fail;refine⟨rfl,RoundIn.mono (F:=Fence.wide.inRound r) HR.out ?_⟩;rintro e Z ⟨rfl,hj,hk⟩;have hb:=hk.same _ _ (al11_ _) BX.out (.inr ⟨_,_,_, .inl rfl,rfl⟩);have hm:=Xr mX.out (hk.mono (by omega));have HJ2:=Ae hj;have HB2:=Ae hb;have HM2:=Ae hm;have HK2:=Ae hk;clear hj hb hm hk;gi_wp2_with fail;exact⟨HK2.out.mono (by have:=HXB.out;omega),HJ2.out,HB2.out,HM2.out⟩
    case done=>
     rintro D Z hD ⟨hj,hb,hm⟩ hK;have HJ:=Ae hj;have HB:=Ae hb;have HM:=Ae hm;have HK:=Ae hK;clear hj hb hm hK;gi_wp2_with fail;refine⟨⟨k+1,D::rs,_,_,_,_,_,_,_,_,_,_,_,_,_,by omega,?_,HB.out,?_,rfl⟩,?_⟩
     . rw [OFF.out.2.1 k];simpa using HJ.out
     . refine⟨by rw [HM.out.eq];rfl,fun r hr=>?_,List.nodup_cons.2 ⟨fun m=>?_,HM.out.one⟩⟩
       . rcases List.mem_cons.1 hr with e | hr
         . subst e;exact⟨by have:=HXB.out;omega,HK.out⟩
         . exact HM.out.at_ r hr
       . have:=RL.out D m;omega
     . simp [intOf];omega
  . have e:k=6:=by omega
    subst e;clear at_ mem;gi_wp2_with fail;refine Cc (B:=W.heap.size) rs _ _ ⟨HM.out.eq,fun r hr=>⟨by have:=(HM.out.at_ r hr).1;omega,(HM.out.at_ r hr).2⟩,HM.out.one⟩ fun Y hY=>?_;have hj2:=JJ.out _ _ _ HJ.out hY;rw [OFF.out.2.2] at hj2;exact⟨_,results_none rfl _ _ _,⟨_,rfl⟩,hj2⟩
end
def MoreP (w:World) (n:Nat) (ord:Nat->Nat) (tw fr:Nat->Bool) (e:Ending) (w':World):Prop:=∃m:IK,e= .returned (.func (.func 354) #[] m.lb)∧AJ w w'∧G5 w' m n ord tw fr
theorem FD {ob oc fb fc tb tc:Nat} {ord:Nat->Nat} (ho:Row w ob 3 n (fun i=> .int .i64 (ord i:Int))) (hf:Row w fb 4 n (fun i=> .bool (fr i))) (ht:Row w tb 4 n (fun i=> .bool (tw i))):
 Calls prog 349 #[.slice ob n oc, .slice fb n fc, .slice tb n tc] w (MoreP w n ord tw fr):=by
 have HO:=Ae ho;have HF:=Ae hf;have HT:=Ae ht;clear ho hf ht;have hmf:=mf (P:=prog);go_in;go_wp2;go_ret;have b0:=((AF.new w [.slice ob n oc] 22).alloc (.cells #[.slice fb n fc] 115)).alloc (.cells #[.slice tb n tc] 115);have b1:=(AF.new (w.alloc (.cells #[.slice ob n oc] 22)) [.slice fb n fc] 115).alloc (.cells #[.slice tb n tc] 115);simp only [Ay] at b1;have b2:=AF.new ((w.alloc (.cells #[.slice ob n oc] 22)).alloc (.cells #[.slice fb n fc] 115)) [.slice tb n tc] 115;simp only [Ay] at b2;have k:AJ w (((w.alloc (.cells #[.slice ob n oc] 22)).alloc (.cells #[.slice fb n fc] 115)).alloc (.cells #[.slice tb n tc] 115)):=(((kx_).alloc _).alloc _).alloc _;exact⟨⟨w.heap.size,w.heap.size+1+1,w.heap.size+1,ob,oc,tb,tc,fb,fc⟩,rfl,k,b0,b2,b1,HO.out.keep k id,HT.out.keep k id,HF.out.keep k id⟩
def AlwaysP (w:World) (v:Int) (e:Ending) (w':World):Prop:=∃p,e= .returned (.func (.func 355) #[] #[.pointer (some ⟨p,0,none⟩)])∧AJ w w'∧AF w' p 37 [.int .u32 v]
theorem Ei:Calls prog 350 #[.int .u32 v] w (AlwaysP w v):=by
 have hmf:=mf (P:=prog);go_in;go_wp2;go_ret;exact⟨w.heap.size,rfl,(kx_).alloc _,AF.new _ _ _⟩
def StepsP (w:World) (m:IK) (vb:Nat) (p mm:Int) (vf:Nat) (e:Ending) (w':World):Prop:=∃b:UH,b.m=m∧b.vb=vb∧e= .returned (.func (.func 353) #[] b.lb)∧AJ w w'∧WX w' b p mm vf
theorem EW {m:IK} {vb:Nat} {p:Int}:Calls prog 348 #[.func (.func 354) #[] m.lb, .int .i64 p, .int .i64 mm, .func (.func vf) #[] #[.pointer vb]] w (StepsP w m vb p mm vf):=by
 have hmf:=mf (P:=prog);go_in;go_wp2;go_ret;have b0:=(((AF.new w [.func (.func 354) #[] m.lb] 426).alloc (.cells #[.int .i64 p] 3)).alloc (.cells #[.int .i64 mm] 3)).alloc (.cells #[.func (.func vf) #[] #[.pointer vb]] 385);have b1:=((AF.new (w.alloc (.cells #[.func (.func 354) #[] m.lb] 426)) [.int .i64 p] 3).alloc (.cells #[.int .i64 mm] 3)).alloc (.cells #[.func (.func vf) #[] #[.pointer vb]] 385);simp only [Ay] at b1;have b2:=(AF.new ((w.alloc (.cells #[.func (.func 354) #[] m.lb] 426)).alloc (.cells #[.int .i64 p] 3)) [.int .i64 mm] 3).alloc (.cells #[.func (.func vf) #[] #[.pointer vb]] 385);simp only [Ay] at b2;have b3:=AF.new (((w.alloc (.cells #[.func (.func 354) #[] m.lb] 426)).alloc (.cells #[.int .i64 p] 3)).alloc (.cells #[.int .i64 mm] 3)) [.func (.func vf) #[] #[.pointer vb]] 385;simp only [Ay] at b3;have k:AJ w ((((w.alloc (.cells #[.func (.func 354) #[] m.lb] 426)).alloc (.cells #[.int .i64 p] 3)).alloc (.cells #[.int .i64 mm] 3)).alloc (.cells #[.func (.func vf) #[] #[.pointer vb]] 385)):=((((kx_).alloc _).alloc _).alloc _).alloc _;exact⟨⟨w.heap.size,w.heap.size+1,w.heap.size+1+1,w.heap.size+1+1+1,m,vb⟩,rfl,rfl,rfl,k,b0,b1,b2,b3⟩
theorem TG {p:Nat} (h:AF w p 37 [.int .u32 v]) (i:Int):Calls prog 355 #[.int .i64 i, .pointer p] w fun e w'=>e= .returned (.int .u32 v)∧w'=w:=by
 have c:=h.z 0;clear h;go_in;go_wp2;go_ret;exact⟨rfl,rfl⟩
def Py (s:AE) (i:Nat):Int:=if(s.dm i).ret then 2 else 0
theorem YD {p:Nat} {s:AE} {v:Bx} (hb:BJ w p s v) (ha:A6 w v s) (i:Nat) (hi:i<s.nd) (hn:s.nd<=4):Calls prog 351 #[.int .i64 (i:Int), .pointer (some (p 0))] w fun e w'=>e= .returned (.int .u32 (Py s i))∧w'=w:=by
 have c:=cv_ (.slice (some (v.db 0)) s.nd v.dc) (hb.cell 1);have c2:w.cell? (v.db (i*3+2))=some (.bool (s.dm i).ret):=ha.dm.cell i 2 hi (by omega);obtain⟨r,hr⟩:∃r,(s.dm i).ret=r:=⟨_,rfl⟩;rw [hr] at c2;have e:AG (Py s i=if r then 2 else 0):=⟨by unfold Py;rw [hr]⟩;clear hb ha hr;cases r
 all_goals go_in
 all_goals go_wp2_with fail
 all_goals go_ret
 all_goals exact⟨by rw [e.out];rfl,rfl⟩
theorem M6 {m:Nat->Nat} (h:Bt w gb n ao cp m e) (v:Nat) (hv:v<n):
 Calls prog 344 #[.slice gb n cap, .int .i64 v] w (ZK w n):=by
 have hf:=h.few;have H:=Ae h;clear h;go_in;go_wp2_with fail;refine(Fe H.out).mono ?_;rintro z w1 ⟨a,c,rfl,k1,o1⟩;have K1:=Ae k1;have O1:=Ae o1;clear k1 o1;go_wp2;go_ret2;exact⟨a,c,rfl,K1.out,O1.out⟩
def Cr (f:Nat->Bool) (v n:Nat):List Nat:=(List.range n).filter fun u=>decide (u≠v)&&f u
theorem Gr (f:Nat->Bool) (v k:Nat):Cr f v (k+1)=Cr f v k++(if decide (k≠v)&&f k then [k] else []):=by
 unfold Cr;rw [List.range_succ,List.filter_append];by_cases c:(decide (k≠v)&&f k)=true
 . simp only [List.filter_cons,c,if_true,List.filter_nil]
 . simp only [List.filter_cons,c,if_false,List.filter_nil,Bool.false_eq_true]
theorem L7 (f:Nat->Bool) (v k:Nat):(Cr f v k).length<=k:=Nat.le_trans (List.length_filter_le _ _) (by simp)
def yZ (w:World) (l:List Nat) (e:Ending) (w':World):Prop:=∃a c,e= .returned (.slice a l.length c)∧AJ w w'∧w'.ownsRow w.heap.size 3 1 (.slice a l.length c) l.length (Il l)
theorem OV {mb mm:Nat} {a:Option Addr} {f:Nat->Bool} (ho:w.ownsRow B 3 1 (.slice a n c) n (Li (List.range n))) (hm:Bs w mb mm f) (hn:n<=12) (v:Nat):
 Calls prog 345 #[.slice a n c, .map (some mb), .int .i64 v] w (yZ w (Cr f v n)):=by
 obtain⟨i0,KI,KZ0,KZ1,KZ2⟩:=ik_ JN;have HO:=Ae ho;have HM:=Ae hm;clear ho hm;go_in;go_wp2;go_loopw [7,12] (fun t i wr=>∃k:Nat,k<=n∧i= .int .i64 k∧AJ w wr∧∃a2 c2,t= .slice a2 (Cr f v k).length c2∧wr.ownsRow w.heap.size 3 1 (.slice a2 (Cr f v k).length c2) (Cr f v k).length (Il (Cr f v k))) (fun t i _=>n - (intOf i).toNat);case atStart=>exact⟨0,by omega,rfl,kx_,none,0,rfl,Gs⟩
 case round=>
  obtain⟨k,hk,rfl,kw,a2,c2,rfl,op⟩:=hrel;have KW:=Ae kw;have OP:=Ae op;have hlen:=L7 f v k;clear kw op;by_cases hlt:k<n
  . obtain⟨g,c',hv,hc,hgb,hgl⟩:=L6 (l:=List.range n) (by simpa using HO.out) k (by simpa using hlt);injection hv with e1 e2 e3;subst e1;have q0:wr.cell? (g k)=some (.int .i64 k):=by
     have h1:=(KW.out.cell (p:=(g k)) hgl id).trans hc;simpa using h1
    obtain⟨r,hr⟩:=ex (f k);have HRr:=Ae hr;clear hc e2 e3 hr;by_cases hkv:k=v
    . subst hkv;have OS:Cr f k (k+1)=Cr f k k:=by rw [Gr];simp
      have OSK:=Ae OS;clear OS;go_wp2;go_roundw;case rel=>exact⟨k+1,by omega,by go_num,KW.out,a2,c2,by rw [OSK.out],by rw [OSK.out];exact OP.out⟩
      case measure=>simp [intOf];omega
    . have hkv':¬(k:Int)=(v:Int):=by omega
      go_wp2_with fail;refine(Fy (HM.out.keep KW.out id) k (by omega) HRr.out).mono ?_;rintro z w1 ⟨rfl,k1⟩;have K1:=Ae k1;have O1:=Ae (BN OP.out k1 (fun _ _=>id));clear k1;cases r
      . have OS:AG (Cr f v (k+1)=Cr f v k):=⟨by rw [Gr,HRr.out];simp⟩;go_wp2;go_roundw;case rel=>exact⟨k+1,by omega,by go_num,KW.out.then_ K1.out,a2,c2,by rw [OS.out],by rw [OS.out];exact O1.out⟩
        case measure=>simp [intOf];omega
      . have OS:AG (Cr f v (k+1)=Cr f v k++[k]):=⟨by rw [Gr,HRr.out];simp [hkv]⟩;obtain⟨P,hP⟩:=ex (Cr f v k);rw [hP] at OS hlen;rw [hP] at O1;rw [hP];have zw:=KW.out.size;have z1:=K1.out.size;clear OP hP;go_wp2_with (at_builtin;refine wpList_append_own _ rfl (.tmp 24) (.tmp 26) 22 rfl w.heap.size 3 i0 _ 1 8 underlying22 KI.out KZ0.out KZ1.out KZ2.out rfl (by decide) _ _ _ rfl (O1.out.alloc _) (w1.heap.size 0) 1 1 [.int .i64 k] rfl rfl (Ee _ _ _) (by simp [Value.oneCell']) (by unfold maxLen;omega) (by omega) (by simp;omega) ?_;intro v' w3 own3 grow3 _;obtain⟨ao',c',hv⟩:=AI own3;subst hv;have KO3:=Ae own3;have K3:=Ae (((KW.out.then_ K1.out).alloc (.cells #[.int .i64 k] 3)).grown grow3 (fun j e hj=>absurd (O1.out.lt j e).1 (by omega)));clear own3 grow3);go_roundw;case rel=>
         refine⟨k+1,by omega,by go_num,K3.out,ao',c',by rw [OS.out];simp,?_⟩;have h:=KO3.out;rw [OS.out];simpa [Il] using h
        case measure=>simp [intOf];omega
  . have ek:k=n:=by omega
    subst ek;go_wp2;go_ret;exact⟨a2,c2,rfl,KW.out,OP.out⟩
def addN (e:Nat->Nat->Nat) (k:Nat):Nat->(Nat->Bool)->Nat->Bool
 | 0,f=>f
 | j+1,f=>fun u=>decide (u=e k j)||addN e k j f u
def Gu (m:Nat->Nat) (e:Nat->Nat->Nat):Nat->(Nat->Bool)->Nat->Bool
 | 0,f=>f
 | k+1,f=>Gu m e k (if f k then addN e k (m k) f else f)
def Ox (m:Nat->Nat) (e:Nat->Nat->Nat) (n v:Nat):Nat->Bool:=Gu m e n fun u=>decide (u=v)
def AboveP (w:World) (l:List Nat) (e:Ending) (w':World):Prop:=∃a c,e= .returned (.tuple #[.slice a l.length c, .int .i64 0])∧AJ w w'∧w'.ownsRow w.heap.size 3 1 (.slice a l.length c) l.length (Il l)
theorem QG {m:Nat->Nat} (h:Bt w gb n ao cp m e) (v:Nat) (hv:v<n):
 Calls prog 342 #[.slice gb n cap, .int .i64 v] w (AboveP w (Cr (Ox m e n v) v n)):=by
 have hf:=h.few;have H:=Ae h;have hmk:∀W:World,(Instr.makeMap 339 none).run prog W= .ok (.map (some W.heap.size)) (W.alloc (.map #[] 0)):=fun W=>by simp [Instr.makeMap]
 clear h;go_in;go_wp2_with fail;refine(M6 H.out v hv).mono ?_;rintro z w1 ⟨a,c,rfl,k1,o1⟩;have K1:=Ae k1;have O1:=Ae o1;clear k1 o1;go_wp2_with fail;clear hmk;obtain⟨mb,hmb⟩:=ex w1.heap.size;have M0:Bs (w1.alloc (.map #[] 0)) mb 0 (fun _=>false):=⟨.map [],by rw [<-hmb];exact World.ownsMap_made w1 prog 3 unitElem,fun i=>rfl⟩;have z1:=K1.out.size;rw [hmb];refine(Hs M0 v (by omega) (by omega)).mono ?_;rintro z W2 ⟨rfl,k2,m2⟩;have K2:AG (AD (fun j=>j=mb) w1 W2):=⟨(((AD.refl (fun j=>j=mb) w1).alloc _)).trans k2 fun j _ e=>e⟩;have M2:=Ae m2;clear k2 m2 M0;go_wp2;go_loopw [9] (fun i wr=>∃ (k:Nat) (z:Int),k<=n∧i= .int .i64 z∧z+1=(k:Int)∧AD (fun j=>j=mb) w1 wr∧∃f mm,Bs wr mb mm f∧mm<=1+6*(n - k)∧Gu m e k f=Ox m e n v) (fun i _=>(intOf i+1).toNat);case atStart=>
  refine⟨n,(n:Int) - 1,by omega,by first | rfl | go_num,by omega,K2.out,_,1,M2.out,by omega,?_⟩;unfold Ox;congr 1;funext u;simp
 case round=>
  obtain⟨k,z,hk,rfl,hz,kw,f,mm,hm,hmm,hF⟩:=hrel;have KW:=Ae kw;have HM:=Ae hm;have HF:=Ae hF;clear kw hm hF;by_cases hk0:k=0
  . subst hk0;obtain rfl:z= -1:=by omega
    have ho:wr.ownsRow w.heap.size 3 1 (.slice a n c) n (Li (List.range n)):=AW O1.out KW.out (fun b hb e=>by have h1:=(O1.out.lt b hb).2;have e:b=mb:=e;omega);have HO:=Ae ho;clear ho;go_wp2_with fail;refine(OV HO.out HM.out (by omega) v).mono ?_;rintro z' w4 ⟨a4,c4,rfl,k4,o4⟩;have K4:=Ae k4;have O4:=Ae o4;clear k4 o4;go_wp2;go_ret2;have hFe:=HF.out;have kall:=KW.out.trans (K4.out.mono fun j e=>e.elim) fun j _ e=>e;rw [<-hFe];exact⟨a4,c4,rfl,K1.out.trans kall (fun j hj (e:j=mb)=>by omega),Bw O4.out (by have:=KW.out.size;omega)⟩
  . obtain⟨j,rfl⟩:∃j,k=j+1:=⟨k - 1,by omega⟩;obtain rfl:z=(j:Int):=by omega
    have hj:j<n:=by omega
    obtain⟨g,c',hv',hc,hgb,hgl⟩:=L6 (l:=List.range n) (by simpa using O1.out) j (by simpa using hj);injection hv' with e1 e2 e3;subst e1;have q0:wr.cell? (g j)=some (.int .i64 j):=by
     have h1:=(KW.out.cell (p:=(g j)) hgl (by show¬g=mb;omega)).trans hc;simpa using h1
    have G1:=H.out.new K1.out;have hgl1:=G1.r.lt;have r0:=(KW.out.cell (p:=(gb j)) hgl1 (by show¬gb=mb;omega)).trans (G1.row j hj);have hdeg:=G1.deg j hj;have hless:=G1.less j hj;have GK:=Ae G1;obtain⟨r,hr⟩:=ex (f j);have HRr:=Ae hr;clear hc e2 e3 hr G1;go_wp2_with fail;refine(Fy HM.out j (by omega) HRr.out).mono ?_;rintro z' w3 ⟨rfl,k3⟩;have K3:AG (AD (fun j=>j=mb) w1 w3):=⟨KW.out.trans (k3.mono fun j e=>e.elim) fun j _ e=>e⟩;have M3:=Ae (HM.out.keep k3 id);have q3:=(k3.cell (p:=(g j)) (al22_ wr _ q0) id).trans q0;have r3:=(k3.cell (p:=(gb j)) (al22_ wr _ r0) id).trans r0;clear k3 q0 r0;cases r
    . go_wp2;go_roundw;case rel=>
       refine⟨j,(j:Int) - 1,by omega,by first | rfl | go_num,by omega,K3.out,f,mm,M3.out,by omega,?_⟩;have h1:=HF.out;unfold Gu at h1;rw [HRr.out] at h1;simpa using h1
      case measure=>simp [intOf]
    . go_wp2_with fail;obtain⟨w3',rfl⟩:∃w3',w3'=w3:=⟨_,rfl⟩;clear q3 r3;go_loopw [47] (fun i wr=>∃q:Nat,q<=m j∧i= .int .i64 q∧AD (fun j=>j=mb) w1 wr∧Bs wr mb (mm+q) (addN e j q f)) (fun i _=>m j - (intOf i).toNat);case atStart=>exact⟨0,by omega,rfl,K3.out,M3.out⟩
      case round=>
       obtain⟨q,hq,rfl,kw2,m2⟩:=hrel;have KW2:=Ae kw2;have MQ:=Ae m2;clear kw2 m2;by_cases hlt:q<m j
       . obtain⟨b,hb,hcb⟩:=GK.out.num j hj q hlt;have hbl:=al22_ w1 _ hcb;have b0:wr.cell? (b q)=some (.int .i64 (e j q:Int)):=(KW2.out.cell (p:=(b q)) hbl (by show¬b=mb;have hbl:b<w1.heap.size:=hbl;omega)).trans hcb;have hel:=hless q hlt;rw [hb];clear hcb;go_wp2_with fail;refine(Hs MQ.out (e j q) (by omega) (by omega)).mono ?_;rintro z' w5 ⟨rfl,k5,m5⟩;have K5:=Ae k5;have M5:=Ae m5;clear k5 m5;go_wp2;go_roundw;case rel=>exact⟨q+1,by omega,by go_num,KW2.out.trans K5.out (fun j _ e=>e),M5.out⟩
         case measure=>simp [intOf];omega
       . have eq:q=m j:=by omega
         have EQ:=Ae eq;clear eq;go_wp2;go_roundw;case rel=>
          refine⟨j,(j:Int) - 1,by omega,by first | rfl | go_num,by omega,KW2.out,_,mm+q,MQ.out,by omega,?_⟩;have h1:=HF.out;unfold Gu at h1;rw [HRr.out] at h1;rw [EQ.out];simpa using h1
         case measure=>simp [intOf]
section
open Go.Shelf Go.Lib
def Pw:Go.Shelf.Ren:=⟨fun | 137=>100 | 217=>166 | 266=>233 | n=>n,fun | 9=>9 | 5=>5 | 3=>3 | n=>n,fun | n=>n⟩
theorem zU:Go.Proofs.Lays.n137 prog Pw:={
 mixed:=by kernel_rfl
 f137:=func100.trans (congrArg some (by kernel_rfl))
 f217:=func166.trans (congrArg some (by kernel_rfl))
 f266:=func233.trans (congrArg some (by kernel_rfl))
 t3:=underlying3
 a3:=Tryz.isAgg3
 z3:=Tryz.sizeOf3
 v3:=Tryz.zeroValue3
 t5:=underlying5
 a5:=Tryz.isAgg5
 z5:=Tryz.sizeOf5
 v5:=Tryz.zeroValue5
 t9:=underlying9
 a9:=Tryz.isAgg9
 z9:=Tryz.sizeOf9
 v9:=Tryz.zeroValue9 }
theorem strings_IndexByte (s:ByteArray) (c:Int) (w:World):
 Calls prog 100 #[.string s, .int .u8 c] w fun e w'=>e= .returned (.int .i64 (Lib.indexByte s.data.toList c.toNat.toUInt8))∧w'=w:=Any.strings_IndexByte zU s c w
def Pv:Go.Shelf.Ren:=⟨fun | 145=>235 | 220=>272 | 219=>232 | 217=>166 | 225=>269 | 224=>270 | 267=>271 | 266=>233 | 314=>297 | n=>n,fun | 9=>9 | 4=>4 | 59=>317 | 3=>3 | 5=>5 | 46=>294 | 146=>380 | 51=>37 | n=>n,fun | 1=>0 | n=>n⟩
theorem zT:Go.Proofs.Lays.n145 prog Pv:={
 mixed:=by kernel_rfl
 f145:=func235.trans (congrArg some (by kernel_rfl))
 f217:=func166.trans (congrArg some (by kernel_rfl))
 f219:=func232.trans (congrArg some (by kernel_rfl))
 f220:=func272.trans (congrArg some (by kernel_rfl))
 f224:=func270.trans (congrArg some (by kernel_rfl))
 f225:=func269.trans (congrArg some (by kernel_rfl))
 f266:=func233.trans (congrArg some (by kernel_rfl))
 f267:=func271.trans (congrArg some (by kernel_rfl))
 f314:=func297.trans (congrArg some (by kernel_rfl))
 t3:=underlying3
 a3:=Tryz.isAgg3
 z3:=Tryz.sizeOf3
 v3:=Tryz.zeroValue3
 t4:=underlying4
 a4:=Tryz.isAgg4
 z4:=Tryz.sizeOf4
 v4:=Tryz.zeroValue4
 t5:=underlying5
 a5:=Tryz.isAgg5
 z5:=Tryz.sizeOf5
 v5:=Tryz.zeroValue5
 t9:=underlying9
 a9:=Tryz.isAgg9
 z9:=Tryz.sizeOf9
 v9:=Tryz.zeroValue9
 t46:=underlying294
 a46:=Tryz.isAgg294
 z46:=Tryz.sizeOf294
 v46:=Tryz.zeroValue294
 t51:=underlying37
 a51:=Tryz.isAgg37
 z51:=Tryz.sizeOf37
 v51:=Tryz.zeroValue37
 t59:=underlying317
 a59:=Tryz.isAgg317
 z59:=Tryz.sizeOf317
 v59:=Tryz.zeroValue317
 t146:=underlying380
 a146:=Tryz.isAgg380
 z146:=Tryz.sizeOf380
 v146:=Tryz.zeroValue380
 g1:=by kernel_rfl }
theorem strings_Cut (s sep:ByteArray) (m:Int) (w:World) (hs:s.size<4294967281) (hm:w.cell? ⟨0,0,none⟩=some (.int .i64 m)):
 Calls prog 235 #[.string s, .string sep] w fun e w'=>e= .returned (.tuple #[.string ⟨(Lib.cut s.data.toList sep.data.toList).1.toArray⟩, .string ⟨(Lib.cut s.data.toList sep.data.toList).2.1.toArray⟩, .bool (Lib.cut s.data.toList sep.data.toList).2.2])∧∃n,w'=w.drewN n:=Any.strings_Cut zT s sep m w hs hm
def Pu:Go.Shelf.Ren:=⟨fun | 146=>44 | 221=>97 | 268=>163 | 138=>164 | 143=>165 | 195=>229 | 197=>230 | 218=>231 | 219=>232 | 260=>268 | 217=>166 | 225=>269 | 224=>270 | 267=>271 | 266=>233 | 314=>297 | n=>n,fun | 9=>9 | 31=>59 | 3=>3 | 4=>4 | 0=>0 | 105=>314 | 21=>21 | 5=>5 | 46=>294 | 119=>376 | 139=>379 | 138=>378 | 146=>380 | 51=>37 | n=>n,fun | 1=>0 | 3=>2 | 4=>3 | n=>n⟩
theorem zS:Go.Proofs.Lays.n146 prog Pu:={
 mixed:=by kernel_rfl
 f138:=func164.trans (congrArg some (by kernel_rfl))
 f143:=func165.trans (congrArg some (by kernel_rfl))
 f146:=func44.trans (congrArg some (by kernel_rfl))
 f195:=func229.trans (congrArg some (by kernel_rfl))
 f197:=func230.trans (congrArg some (by kernel_rfl))
 f217:=func166.trans (congrArg some (by kernel_rfl))
 f218:=func231.trans (congrArg some (by kernel_rfl))
 f219:=func232.trans (congrArg some (by kernel_rfl))
 f221:=func97.trans (congrArg some (by kernel_rfl))
 f224:=func270.trans (congrArg some (by kernel_rfl))
 f225:=func269.trans (congrArg some (by kernel_rfl))
 f260:=func268.trans (congrArg some (by kernel_rfl))
 f266:=func233.trans (congrArg some (by kernel_rfl))
 f267:=func271.trans (congrArg some (by kernel_rfl))
 f268:=func163.trans (congrArg some (by kernel_rfl))
 f314:=func297.trans (congrArg some (by kernel_rfl))
 t0:=underlying0
 a0:=Tryz.isAgg0
 z0:=Tryz.sizeOf0
 v0:=Tryz.zeroValue0
 t3:=underlying3
 a3:=Tryz.isAgg3
 z3:=Tryz.sizeOf3
 v3:=Tryz.zeroValue3
 t4:=underlying4
 a4:=Tryz.isAgg4
 z4:=Tryz.sizeOf4
 v4:=Tryz.zeroValue4
 t5:=underlying5
 a5:=Tryz.isAgg5
 z5:=Tryz.sizeOf5
 v5:=Tryz.zeroValue5
 t9:=underlying9
 a9:=Tryz.isAgg9
 z9:=Tryz.sizeOf9
 v9:=Tryz.zeroValue9
 t21:=underlying21
 a21:=Tryz.isAgg21
 z21:=Tryz.sizeOf21
 v21:=Tryz.zeroValue21
 t31:=underlying59
 a31:=Tryz.isAgg59
 z31:=Tryz.sizeOf59
 v31:=Tryz.zeroValue59
 t46:=underlying294
 a46:=Tryz.isAgg294
 z46:=Tryz.sizeOf294
 v46:=Tryz.zeroValue294
 t51:=underlying37
 a51:=Tryz.isAgg37
 z51:=Tryz.sizeOf37
 v51:=Tryz.zeroValue37
 t105:=underlying314
 a105:=Tryz.isAgg314
 z105:=Tryz.sizeOf314
 v105:=Tryz.zeroValue314
 t119:=underlying376
 a119:=Tryz.isAgg376
 z119:=Tryz.sizeOf376
 t138:=underlying378
 a138:=Tryz.isAgg378
 z138:=Tryz.sizeOf378
 v138:=Tryz.zeroValue378
 t139:=underlying379
 a139:=Tryz.isAgg379
 z139:=Tryz.sizeOf379
 v139:=Tryz.zeroValue379
 t146:=underlying380
 a146:=Tryz.isAgg380
 z146:=Tryz.sizeOf380
 v146:=Tryz.zeroValue380
 g1:=by kernel_rfl
 g3:=by kernel_rfl
 g4:=by kernel_rfl }
theorem strings_Split (s sep:ByteArray) (m:Int) (w:World) (hs:s.size<4294967281) (hm:w.cell? ⟨0,0,none⟩=some (.int .i64 m)) (h1:1<=sep.size):
 Calls prog 44 #[.string s, .string sep] w fun e w'=>
  e= .returned (.slice w.heap.size (Lib.countB s sep+1) (Lib.countB s sep+1))∧w'=w.alloc (.cells ((Lib.splitB sep 0 (Lib.countB s sep) s).map Value.string).toArray 9):=Any.strings_Split zS (by kernel_rfl) s sep m w hs hm h1
def Pt:Go.Shelf.Ren:=⟨fun | 229=>98 | n=>n,fun | 9=>9 | 40=>211 | 31=>59 | 152=>245 | 3=>3 | 0=>0 | 4=>4 | 21=>21 | 154=>247 | n=>n,fun | n=>n⟩
theorem zR:Go.Proofs.Lays.n229 prog Pt:={
 mixed:=by kernel_rfl
 f229:=func98.trans (congrArg some (by kernel_rfl))
 t0:=underlying0
 a0:=Tryz.isAgg0
 z0:=Tryz.sizeOf0
 v0:=Tryz.zeroValue0
 t3:=underlying3
 a3:=Tryz.isAgg3
 z3:=Tryz.sizeOf3
 v3:=Tryz.zeroValue3
 t4:=underlying4
 a4:=Tryz.isAgg4
 z4:=Tryz.sizeOf4
 v4:=Tryz.zeroValue4
 t9:=underlying9
 a9:=Tryz.isAgg9
 z9:=Tryz.sizeOf9
 v9:=Tryz.zeroValue9
 t21:=underlying21
 a21:=Tryz.isAgg21
 z21:=Tryz.sizeOf21
 v21:=Tryz.zeroValue21
 t31:=underlying59
 a31:=Tryz.isAgg59
 z31:=Tryz.sizeOf59
 v31:=Tryz.zeroValue59
 t40:=underlying211
 a40:=Tryz.isAgg211
 z40:=Tryz.sizeOf211
 v40:=Tryz.zeroValue211
 t152:=underlying245
 a152:=Tryz.isAgg245
 z152:=Tryz.sizeOf245
 v152:=Tryz.zeroValue245
 t154:=underlying247
 a154:=Tryz.isAgg247
 z154:=Tryz.sizeOf247
 v154:=Tryz.zeroValue247 }
theorem strings_FieldsFunc (g:Nat) (lb:Array Value) (eg:∀args w,(callFunc g args).run prog w= .ok (.enter g args) w) (p:Nat->Bool) (s:ByteArray) (w:World) (hs:s.size<=4294967296) (hp:PredAt prog g lb encR p w):
 Calls prog 98 #[.string s, .func (.func g) #[] lb] w fun e w'=>∃A,e= .returned (.slice (some ⟨A,0,none⟩) (Lib.goFieldsP p s).length (Lib.goFieldsP p s).length)∧w.heap.size<=A∧
  w'.ownsRow w.heap.size 9 1 (.slice A (Lib.goFieldsP p s).length (Lib.goFieldsP p s).length) (Lib.goFieldsP p s).length ((Lib.goFieldsP p s).map Value.string)∧Below w.heap.size w w':=Any.strings_FieldsFunc zR g lb eg p s w hs hp (by kernel_rfl) (by kernel_rfl)
end
theorem Rz (w:World) (a:Option Addr) (n c:Nat):Calls prog 169 #[.int .i64 0, .slice a n c] w fun e w'=>e= .returned (.slice a n c)∧w'=w:=by
 go_in;go_wp2;go_ret;exact⟨rfl,rfl⟩
theorem Lt (w:World) (y n:ByteArray):Calls prog 176 #[.bool true, .string y, .string n] w fun e w'=>e= .returned (.slice w.heap.size 1 1)∧w'=w.alloc (.cells #[.string y] 9):=by
 go_in;go_wp2;go_ret;exact⟨rfl,rfl⟩
theorem info60:inf_ prog 60=some (some (.int .u64 0),1,8):=by kernel_rfl
theorem Fc (w:World) (A off c B bc:Nat) (s:ByteArray) (x y:Int) (hxy:x<=y) (h0:w.cell? (A off)=some (.string s)) (h1:w.cell? (B 0)=some (.int .u64 y)) (hA:A<w.heap.size) (hB:B<w.heap.size)
 (num:∀W,Calls prog 237 #[.string s] W fun e w'=>e= .returned (.tuple #[.int .u64 x, .bool true])∧w'=W):
 Calls prog 170 #[.slice (some (A off)) 1 c, .slice B 1 bc] w fun e w'=>e= .returned (.tuple #[.slice w.heap.size 1 1, .bool true])∧AJ w w'∧AF w' w.heap.size 60 [.int .u64 x]:=by
 have hmk:∀W:World,(Instr.makeSlice 251 (.int .i64 1) (.int .i64 1)).run prog W= .ok (.slice W.heap.size 1 1) (W.alloc (.cells #[.int .u64 0] 60)):=fun W=>by
  have h:=run_make_row' (P:=prog) 251 60 (.int .u64 0) 8 underlying251 info60 rfl .i64 .i64 1 (by omega) (by omega) W;rw [show madeCells #[Value.int .u64 0] 1= #[.int .u64 0] by kernel_rfl] at h;simpa using h
 have NUM:=Ae num;clear num;go_in;go_wp2_with fail;have k0:=(nr w).alloc (.cells #[.int .u64 0] 60);have b0:=AF.new w [.int .u64 0] 60;obtain⟨W1,hW1⟩:=ex (w.alloc (.cells #[.int .u64 0] 60));obtain⟨g,hg⟩:=ex w.heap.size;have hW1':w.alloc (.cells [.int .u64 0].toArray 60)=W1:=hW1;rw [hW1',hg] at b0;rw [hW1] at k0;rw [hW1,hg];clear hW1 hW1' hmk;have K0:=Ae k0;have B0:=Ae b0;have a0:=(k0.cell (p:=(A off)) hA id).trans h0;have a1:=(k0.cell (p:=(B 0)) hB id).trans h1;have f0:=b0.frozen 0;have c0:=b0.z 0;have hng:¬y<x:=by omega
 clear k0 b0 h0 h1;go_loopw [21] (fun i wr=>∃k:Nat,k<=1∧i= .int .i64 k∧((k=0∧wr=W1)∨(k=1∧wr=W1.setCell (g 0) (.int .u64 x)))) (fun i _=>1 - (intOf i).toNat);case atStart=>exact⟨0,by omega,rfl, .inl ⟨rfl,rfl⟩⟩
 case round=>
  obtain⟨k,hk,rfl,⟨rfl,rfl⟩ | ⟨rfl,rfl⟩⟩:=hrel
  . go_wp2_with fail;refine mn_ (NUM.out _) ?_;go_wp2;go_roundw;case rel=>exact⟨1,by omega,rfl, .inr ⟨by trivial,by trivial⟩⟩
    case measure=>simp [intOf]
  . go_wp2_with fail;exact bodyPost_ret (v:= .tuple #[.slice g 1 1, .bool true]) (by simp [results,results170,go_sem]) rfl ⟨rfl,K0.out.trans (keeps_set _) fun j hj e=>absurd (show j=g from e) (by omega),B0.out.set 0 _⟩
theorem Me (w:World) (R:Value):Calls prog 47 #[R, .string ⟨#[98,117,105,108,100]⟩] w fun e w'=>e= .returned (.func (.func 101) #[R] #[])∧w'=w:=by
 have hmf:=mf (P:=prog);go_in;go_wp2;go_ret
 first | exact⟨rfl,rfl⟩ | exact⟨trivial,rfl⟩
theorem Oi (w:World) (R:Value):Calls prog 47 #[R, .string ⟨#[99,97,108,108]⟩] w fun e w'=>e= .returned (.func (.func 102) #[R] #[])∧w'=w:=by
 have hmf:=mf (P:=prog);go_in;go_wp2;go_ret
 first | exact⟨rfl,rfl⟩ | exact⟨trivial,rfl⟩
theorem Oh (w:World) (R:Value):Calls prog 47 #[R, .string ⟨#[114,101,115,116]⟩] w fun e w'=>e= .returned (.func (.func 108) #[R] #[])∧w'=w:=by
 have hmf:=mf (P:=prog);go_in;go_wp2;go_ret
 first | exact⟨rfl,rfl⟩ | exact⟨trivial,rfl⟩
theorem Mf (w:World) (R:Value):Calls prog 47 #[R, .string ⟨#[97,108,105,118,101]⟩] w fun e w'=>e= .returned (.func (.func 110) #[R] #[])∧w'=w:=by
 have hmf:=mf (P:=prog);go_in;go_wp2;go_ret
 first | exact⟨rfl,rfl⟩ | exact⟨trivial,rfl⟩
theorem Md (w:World) (R:Value):Calls prog 47 #[R, .string ⟨#[99,104,101,99,107]⟩] w fun e w'=>e= .returned (.func (.func 113) #[R] #[])∧w'=w:=by
 have hmf:=mf (P:=prog);go_in;go_wp2;go_ret
 first | exact⟨rfl,rfl⟩ | exact⟨trivial,rfl⟩
theorem TD (w:World) (R:Nat) (a:Option Addr) (c:Nat):Calls prog 101 #[.pointer R, .slice a 0 c] w fun e w'=>e= .returned (.func (.func 167) #[] #[.pointer w.heap.size])∧w'=w.alloc (.cells #[.pointer R] 148):=by
 have hmf:=mf (P:=prog);go_in;go_wp2;go_ret;exact⟨rfl,rfl⟩
theorem Sy (w:World) (R:Nat) (a:Option Addr) (c:Nat):Calls prog 113 #[.pointer R, .slice a 0 c] w fun e w'=>e= .returned (.func (.func 184) #[] #[.pointer w.heap.size])∧w'=w.alloc (.cells #[.pointer R] 148):=by
 have hmf:=mf (P:=prog);go_in;go_wp2;go_ret;exact⟨rfl,rfl⟩
structure ZV (w w':World) (R RB NB gb:Nat) (x:Int):Prop where
 k:AJ w w'
 r:AF w' RB 148 [.pointer R]
 n:AF w' NB 251 [.slice gb 1 1]
 g:AF w' gb 60 [.int .u64 x]
 l:w.heap.size<=RB∧w.heap.size<=NB∧w.heap.size<=gb
theorem Ur (w:World) (R A off c:Nat) (s:ByteArray) (x:Int) (hx:x<=99999) (h0:w.cell? (A off)=some (.string s)) (hA:A<w.heap.size)
 (num:∀W,Calls prog 237 #[.string s] W fun e w'=>e= .returned (.tuple #[.int .u64 x, .bool true])∧w'=W):
 Calls prog 108 #[.pointer R, .slice (some (A off)) 1 c] w fun e w'=>∃RB NB g,e= .returned (.func (.func 175) #[] #[.pointer (some ⟨NB,0,none⟩), .pointer (some ⟨RB,0,none⟩)])∧ZV w w' R RB NB g x:=by
 have hmf:=mf (P:=prog);have NUM:=Ae num;clear num;go_in;go_wp2_with fail;have k2:AJ w ((w.alloc (.cells #[.pointer R] 148)).alloc (.cells #[.int .u64 99999] 60)):=((kx_).alloc _).alloc _;have r2:=(AF.new w [.pointer R] 148).alloc (.cells #[.int .u64 99999] 60);have m2:=AF.new (w.alloc (.cells #[.pointer R] 148)) [.int .u64 99999] 60;obtain⟨RB,hRB⟩:=ex w.heap.size;obtain⟨W2,hW2⟩:=ex ((w.alloc (.cells #[.pointer R] 148)).alloc (.cells #[.int .u64 99999] 60));rw [Ay] at m2;have h1:(w.alloc (.cells [.pointer R].toArray 148)).alloc (.cells #[.int .u64 99999] 60)=W2:=hW2;have h2:(w.alloc (.cells #[.pointer R] 148)).alloc (.cells [.int .u64 99999].toArray 60)=W2:=hW2;rw [h1,hRB] at r2;rw [h2,hRB] at m2;rw [hW2] at k2;rw [hW2,hRB];have K2:=Ae k2;have R2:=Ae r2;have M2:=Ae m2;clear hW2 h1 h2 k2 r2 m2;refine(Fc W2 A off c (RB+1) 1 s x 99999 hx ((K2.out.cell (p:=(A off)) hA id).trans h0) (M2.out.cell 0) (Bo hA K2.out.size) M2.out.lt NUM.out).mono ?_;rintro e w3 ⟨rfl,k3,b3⟩;have K3:=Ae k3;have R3:=Ae (R2.out.keep k3 id);have B3:=Ae b3;have g2:=K2.out.size;have g3:=R2.out.lt;clear k3 b3;obtain⟨gb,hgb⟩:=ex W2.heap.size;rw [hgb] at B3 ⊢;go_wp2_with fail;have z3:=K3.out.size;go_ret;exact⟨RB,w3.heap.size,gb,rfl,(K2.out.then_ K3.out).then_ ((kx_).alloc _),R3.out.alloc _,AF.new w3 [.slice gb 1 1] 251,B3.out.alloc _,by omega,by omega,by omega⟩
theorem TH (w:World) (R A off c:Nat) (s:ByteArray) (x:Int) (hx:x<=99999) (h0:w.cell? (A off)=some (.string s)) (hA:A<w.heap.size)
 (num:∀W,Calls prog 237 #[.string s] W fun e w'=>e= .returned (.tuple #[.int .u64 x, .bool true])∧w'=W):
 Calls prog 110 #[.pointer R, .slice (some (A off)) 1 c] w fun e w'=>∃RB NB g,e= .returned (.func (.func 178) #[] #[.pointer (some ⟨RB,0,none⟩), .pointer (some ⟨NB,0,none⟩)])∧ZV w w' R RB NB g x:=by
 have hmf:=mf (P:=prog);have NUM:=Ae num;clear num;go_in;go_wp2_with fail;have k2:AJ w ((w.alloc (.cells #[.pointer R] 148)).alloc (.cells #[.int .u64 99999] 60)):=((kx_).alloc _).alloc _;have r2:=(AF.new w [.pointer R] 148).alloc (.cells #[.int .u64 99999] 60);have m2:=AF.new (w.alloc (.cells #[.pointer R] 148)) [.int .u64 99999] 60;obtain⟨RB,hRB⟩:=ex w.heap.size;obtain⟨W2,hW2⟩:=ex ((w.alloc (.cells #[.pointer R] 148)).alloc (.cells #[.int .u64 99999] 60));rw [Ay] at m2;have h1:(w.alloc (.cells [.pointer R].toArray 148)).alloc (.cells #[.int .u64 99999] 60)=W2:=hW2;have h2:(w.alloc (.cells #[.pointer R] 148)).alloc (.cells [.int .u64 99999].toArray 60)=W2:=hW2;rw [h1,hRB] at r2;rw [h2,hRB] at m2;rw [hW2] at k2;rw [hW2,hRB];have K2:=Ae k2;have R2:=Ae r2;have M2:=Ae m2;clear hW2 h1 h2 k2 r2 m2;refine(Fc W2 A off c (RB+1) 1 s x 99999 hx ((K2.out.cell (p:=(A off)) hA id).trans h0) (M2.out.cell 0) (Bo hA K2.out.size) M2.out.lt NUM.out).mono ?_;rintro e w3 ⟨rfl,k3,b3⟩;have K3:=Ae k3;have R3:=Ae (R2.out.keep k3 id);have B3:=Ae b3;have g2:=K2.out.size;have g3:=R2.out.lt;clear k3 b3;obtain⟨gb,hgb⟩:=ex W2.heap.size;rw [hgb] at B3 ⊢;go_wp2_with fail;have z3:=K3.out.size;go_ret;exact⟨RB,w3.heap.size,gb,rfl,(K2.out.then_ K3.out).then_ ((kx_).alloc _),R3.out.alloc _,AF.new w3 [.slice gb 1 1] 251,B3.out.alloc _,by omega,by omega,by omega⟩
section
open Go.Shelf
attribute [local go_sem] Oper.semAt_some
def Et (g n:Nat):List (Array Value):=(List.range n).map fun(i:Nat)=> #[Value.int .i64 i, .pointer (some (g (i*14)))]
theorem Ea (g n:Nat):(Et g n).length=n:=by simp [Et]
theorem Cp (h:i<(Et g n).length):(Et g n)[i]= #[.int .i64 i, .pointer (some (g (i*14)))]:=by simp [Et]
theorem Lu (hn:n<=1000):G0 prog 286 #[.pointer bx] (Et g n) (fun W=>AF W bx 48 [.slice g n c]):=by
 intro l J W hJ hM hY h0;have YY:=Ae hY;have MM:=Ae hM;have cc:=(hM 0 W h0).z 0;have J0:=Ae h0;clear hY hM h0 hJ;refine callsIn_of_wp func286 rfl trivial ?_ rfl;simp only [ntmps286,List.size_toArray,Dy,Ek,Nat.reduceAdd,Nat.reduceSub,Array.replicate_succ,Array.replicate_zero,List.push_toArray,List.append_toArray,CK,EH];gi_wp2;gi_loopw [6] (fun i wr=>∃k:Nat,k<=n∧i= .int .i64 k∧J k wr) (fun i _=>n - (intOf i).toNat);case atStart=>exact⟨0,by omega,rfl,J0.out⟩
 case round=>
  obtain⟨k,hk,rfl,hj⟩:=hrel;have JK:=Ae hj;have c1:=(MM.out _ _ hj).z 0;clear hj;by_cases hlt:k<n
  . have hl:k<(Et g n).length:=by rw [Ea];exact hlt
    obtain⟨fn,tmps,assign,body,hy,hR⟩:=YY.out k hl wr JK.out;rw [Cp hl] at hy;have HR:=Ae hR;have hkn:(k:Int)<n:=by omega
    clear hR hl;gi_wp2_with fail;refine⟨rfl,HR.out.mono ?_⟩;rintro e w' ⟨rfl,hj,_⟩;have hj:=Ae hj;gi_wp2;go_roundw;case rel=>exact⟨k+1,by omega,by go_num,hj.out⟩
    case measure=>simp [intOf];omega
  . have e:k=n:=by omega
    subst e;gi_wp2;go_end0;exact⟨⟨_,rfl⟩,by rw [Ea];exact JK.out⟩
end
section
open Go.Shelf
attribute [local go_sem] Oper.semAt_some
theorem JR (w:World) (a:Option Addr) (n c:Nat):Calls prog 244 #[.slice a n c] w fun e w'=>e= .returned (.func (.func 286) #[] #[.pointer w.heap.size])∧w'=w.alloc (.cells #[.slice a n c] 48):=by
 have hmf:=mf (P:=prog);go_in;go_wp2;go_ret;exact⟨rfl,rfl⟩
theorem TB (w:World) (a:Option Addr) (n c:Nat):Calls prog 242 #[.slice a n c] w fun e w'=>e= .returned (.func (.func 280) #[] #[.pointer w.heap.size])∧w'=w.alloc (.cells #[.slice a n c] 48):=by
 have hmf:=mf (P:=prog);go_in;go_wp2;go_ret;exact⟨rfl,rfl⟩
theorem WI {m:Nat} (hn:n<=1000) (hk:∀i,i<n->(f (i*14)= .int .u8 98∨f (i*14)= .int .u8 101)∧f (i*14+1)= .int .i64 0∧i*14+1<m):
 G0 prog 280 #[.pointer bx] (Et g n) (fun W=>AF W bx 48 [.slice g n c]∧Row W g 55 m f):=by
 intro l J W hJ hM hY h0;have YY:=Ae hY;have MM:=Ae hM;have JJ:=Ae hJ;have J0:=Ae h0;have HK:=Ae hk;have q0:(W.alloc (.cells #[.func (.yield l) #[] #[]] 359)).cell? (bx 0)=some (.slice (some (g 0)) n c):=(hM 0 _ (hJ 0 _ _ h0 (FT ((kx_).alloc _)))).1.cell 0;clear hY hM hJ h0 hk;refine callsIn_of_wp_marks func280 rfl trivial ?_ rfl;simp only [ntmps280,List.size_toArray,Dy,Ek,Nat.reduceAdd,Nat.reduceSub,Array.replicate_succ,Array.replicate_zero,List.push_toArray,List.append_toArray,CK,EH];gi_wp2_with fail;have bY:=AF.new W [.func (.yield l) #[] #[]] 359;have kW:=(nr W).alloc (.cells #[.func (.yield l) #[] #[]] 359);obtain⟨W1,hW1⟩:=ex (W.alloc (.cells #[.func (.yield l) #[] #[]] 359));rw [hW1] at bY kW ⊢;clear hW1 q0;refine⟨trivial,rfl,(callsIn_wide.2 (JR W1 _ _ _)).mono ?_⟩;rintro e w2 ⟨rfl,rfl⟩;have k2:=(nr W1).alloc (.cells #[.slice g n c] 48);have b2:=AF.new W1 [.slice g n c] 48;obtain⟨W2,hW2⟩:=ex (W1.alloc (.cells #[.slice g n c] 48));obtain⟨EB,hEB⟩:=ex W1.heap.size;have b2:AF W2 EB 48 [.slice g n c]:=by rw [<-hW2, <-hEB];exact b2
 rw [hW2] at k2 ⊢;rw [hEB];have bY2:=Ae (bY.keep k2 id);have jW:=Ae (JJ.out 0 _ _ J0.out (FT (kW.then_ k2)));have B2:=Ae b2;have zW:=kW.size;have zY:=bY.lt;have zW2:=k2.size;have hEB':W.heap.size<EB:=by omega
 clear hW2 k2 b2 bY kW hEB;gi_wp2_with fail;refine Ct (gf:=286) (lb:= #[.pointer EB]) (xs:=Et g n) rfl (enters_of func286 (by kernel_rfl) rfl) (Lu (n:=n) (c:=c) hn) (fun i h=>by rw [Cp h];rfl) (fun i X=>J i X∧AF X W.heap.size 359 [.func (.yield l) #[] #[]]∧AF X EB 48 [.slice g n c])
  (fun i X Y h k=>⟨JJ.out i X Y h.1 (k.mono fun j c=>⟨by have:=c.1;omega,c.2⟩),h.2.1.nc k,h.2.2.nc k⟩) (fun i X h=>h.2.2) ⟨jW.out,bY2.out,B2.out⟩ ?round ?done
 case round=>
  rintro r i hi X ⟨hj,hb,he⟩;have hlen:i<n:=by rwa [Ea] at hi
  rw [Cp hi];have HJ:=Ae hj;have HB:=Ae hb;have HE:=Ae he;obtain⟨hk1,hk2,hk3⟩:=HK.out i hlen;clear hj hb he;gi_wp2_with fail;refine⟨kx_,fun X2 n2=>?_⟩;have hj:=JJ.out i X X2 HJ.out (n2.mono fun j c=>⟨by have:=c.1;omega,c.2⟩);have hb:=HB.out.nc n2;have hm:=(MM.out i X2 hj).2;have c0:=hm.cell (i:=i*14) (by omega);have c1:X2.cell? (g (i*14+1))=some (.int .i64 0):=(hm.cell (i:=i*14+1) hk3).trans (by rw [hk2]);have y0:=hb.z 0;obtain⟨fn,tmps,assign,body,hy,hR⟩:=YY.out i hi X2 hj;rw [Cp hi] at hy;have HR:=Ae hR;have HB2:=Ae hb;have HE2:=Ae (HE.out.nc n2);clear hR hm hb n2 hj;rcases hk1 with e | e
  . rw [e] at c0;gi_wp2_with fail;refine⟨rfl,RoundIn.mono (F:=Fence.wide.inRound r) HR.out ?_⟩;rintro e Z ⟨rfl,hj,hk⟩;have R3:=Ae (show DW W2.heap.size X2 Z∧J (i+1) Z∧AF Z W.heap.size 359 [.func (.yield l) #[] #[]]∧AF Z EB 48 [.slice g n c] from⟨hk.mono (by omega),hj,hk.same _ _ (al11_ _) HB2.out (.inr ⟨_,_,_, .inr (.inl rfl),rfl⟩),hk.same _ _ (by omega) HE2.out (.inr ⟨_,_,_, .inr (.inr rfl),rfl⟩)⟩);clear hj hk;gi_wp2_with fail;exact⟨R3.out.1,R3.out.2⟩
  . rw [e] at c0;gi_wp2_with fail;refine⟨rfl,RoundIn.mono (F:=Fence.wide.inRound r) HR.out ?_⟩;rintro e Z ⟨rfl,hj,hk⟩;have R3:=Ae (show DW W2.heap.size X2 Z∧J (i+1) Z∧AF Z W.heap.size 359 [.func (.yield l) #[] #[]]∧AF Z EB 48 [.slice g n c] from⟨hk.mono (by omega),hj,hk.same _ _ (al11_ _) HB2.out (.inr ⟨_,_,_, .inr (.inl rfl),rfl⟩),hk.same _ _ (by omega) HE2.out (.inr ⟨_,_,_, .inr (.inr rfl),rfl⟩)⟩);clear hj hk;gi_wp2_with fail;exact⟨R3.out.1,R3.out.2⟩
 case done=>
  rintro D Z hD ⟨hj,hb,he⟩ hK;gi_wp2_with fail;refine Cc (B:=W.heap.size) [D] _ _ ⟨rfl,fun r hr=>by rw [Dz.1 hr];exact⟨by omega,hK⟩,by simp⟩ fun Y hY=>?_;have hj2:=JJ.out _ _ _ hj hY;exact⟨_,results_none rfl _ _ _,⟨_,rfl⟩,hj2⟩
end
section
open Go.Shelf
attribute [local go_sem] Oper.semAt_some
def TT (n m:Nat) (f:Nat->Value):Prop:=∀i,i<n->(f (i*14)= .int .u8 98∨f (i*14)= .int .u8 101)∧f (i*14+1)= .int .i64 0∧i*14+1<m
theorem UE (w:World) (g o:Nat) (k:Int) (h:w.cell? (g o)=some (.int .u8 k)) (hk:k=98∨k=101):Calls prog 245 #[.pointer (some (g o))] w fun e w'=>e= .returned (.bool false)∧w'=w:=by
 have hn:(k==100)=false:=by rcases hk with rfl | rfl <;> rfl
 clear hk;go_in;go_wp2;go_ret;exact⟨rfl,rfl⟩
theorem TF {m:Nat} (hn:n<=1000) (row:Row w g 55 m f) (hk:TT n m f):
 Calls prog 186 #[.slice g n c] w fun e w'=>e= .returned (.int .i64 (-1))∧AJ w w':=by
 have ROW:=Ae row;have HK:=Ae hk;clear row hk;refine callsIn_wide (n:=0) |>.1 (callsIn_of_wp_marks func186 rfl trivial ?_ rfl)
 simp only [ntmps186,List.size_toArray,Dy,Ek,Nat.reduceAdd,Nat.reduceSub,Array.replicate_succ,Array.replicate_zero,List.push_toArray,List.append_toArray,CK,EH];gi_wp2_with fail;have k1:=(nr w).alloc (.cells #[.int .i64 0] 3);have b1:=AF.new w [.int .i64 0] 3;obtain⟨W1,hW1⟩:=ex (w.alloc (.cells #[.int .i64 0] 3));obtain⟨CB,hCB⟩:=ex w.heap.size;have b1:AF W1 CB 3 [.int .i64 0]:=by rw [<-hW1, <-hCB];exact b1
 rw [hW1] at k1 ⊢;rw [hCB];clear hW1;refine⟨trivial,rfl,(callsIn_wide.2 (JR W1 _ _ _)).mono ?_⟩;rintro e w2 ⟨rfl,rfl⟩;have k2:=(nr W1).alloc (.cells #[.slice g n c] 48);have b2:=AF.new W1 [.slice g n c] 48;obtain⟨W2,hW2⟩:=ex (W1.alloc (.cells #[.slice g n c] 48));obtain⟨EB,hEB⟩:=ex W1.heap.size;have B2:=Ae (show AF W2 EB 48 [.slice g n c] by rw [<-hW2, <-hEB];exact b2);rw [hW2] at k2 ⊢;rw [hEB];have C2:=Ae (b1.keep k2 id);have K2:=Ae (k1.then_ k2);have R2:=Ae (ROW.out.keep K2.out id);clear hW2 k2 b2 b1 k1 hEB;gi_wp2_with fail;refine Ct (gf:=286) (lb:= #[.pointer EB]) (xs:=Et g n) rfl (enters_of func286 (by kernel_rfl) rfl) (Lu (n:=n) (c:=c) hn) (fun i h=>by rw [Cp h];rfl) (fun i X=>AJ W2 X)
  (fun i X Y h k=>h.trans k fun j hj d=>by have:=d.1;omega) (fun i X h=>B2.out.keep h id) (kx_) ?round ?done
 case round=>
  rintro r i hi X hX;have hlen:i<n:=by rwa [Ea] at hi
  rw [Cp hi];have HX:=Ae hX;clear hX;gi_wp2_with fail;refine⟨kx_,fun X2 n2=>?_⟩;have hX2:AJ W2 X2:=HX.out.trans n2 fun j hj d=>by have:=d.1;omega
  obtain⟨hk1,hk2,hk3⟩:=HK.out i hlen;have c0:=(R2.out.keep hX2 id).cell (i:=i*14) (by omega);have dd:AG (CallsIn Fence.wide 0 prog 245 #[.pointer (some (g (i*14)))] X2 fun e w'=>e= .returned (.bool false)∧w'=X2):=⟨callsIn_wide.2 (by
   rcases hk1 with e | e
   . rw [e] at c0;exact UE X2 g _ 98 c0 (.inl rfl)
   . rw [e] at c0;exact UE X2 g _ 101 c0 (.inr rfl))⟩
  have HX2:=Ae hX2;clear hX2 c0 hk1 hk2 hk3 n2;gi_wp2_with fail;refine⟨trivial,rfl,(CallsIn.inRound r dd.out).mono ?_⟩;rintro e Z ⟨rfl,rfl⟩;gi_wp2_with fail;exact⟨.new (kx_),HX2.out⟩
 case done=>
  rintro D Z hD hZ hK;have cZ:=C2.out.keep hZ id;have c0:=cZ.z 0;have f0:=cZ.frozen 0;have HZ:=Ae hZ;have CZ:=Ae cZ;have HD:=Ae hD;have HKK:=Ae hK;clear hZ cZ hK;gi_wp2_with fail;have kS:AD (· =CB) Z (Z.setCell (CB 0) (.int .i64 (-1))):=keeps_set _;have zC:=C2.out.lt;have hK':=(kS.block D (Ci.1 HKK.out).1 (show¬D=CB by have:=HD.out;omega)).trans HKK.out;have bS:=CZ.out.set 0 (.int .i64 (-1));generalize Z.setCell (CB 0) (.int .i64 (-1))=ZS at kS hK' bS ⊢;refine Cc (B:=W2.heap.size) [D] _ _ ⟨rfl,fun r hr=>by rw [Dz.1 hr];exact⟨HD.out,hK'⟩,by simp⟩ fun Y hY=>?_;have cY:=(bS.nc hY).z 0;refine⟨.int .i64 (-1),by simp [results,results186,go_sem,cY],rfl,((K2.out.then_ HZ.out).trans kS fun j hj e=>absurd (show j=CB from e) (by omega)).trans hY fun j hj d=>?_⟩;have:=d.1;have:=K2.out.size;omega
theorem Ml {m:Nat} (hn:n<=1000) (row:Row w g 55 m f) (hk:TT n m f):
 Calls prog 187 #[.slice g n c] w fun e w'=>e= .returned (.int .i64 (-1))∧AJ w w':=by
 have ROW:=Ae row;have HK:=Ae hk;clear row hk;refine callsIn_wide (n:=0) |>.1 (callsIn_of_wp_marks func187 rfl trivial ?_ rfl)
 simp only [ntmps187,List.size_toArray,Dy,Ek,Nat.reduceAdd,Nat.reduceSub,Array.replicate_succ,Array.replicate_zero,List.push_toArray,List.append_toArray,CK,EH];gi_wp2_with fail;have k1:AJ w (((w.alloc (.cells #[.int .i64 0] 3)).alloc (.cells #[.bool false] 4)).alloc (.cells #[.int .u32 0] 37)):=(((kx_).alloc _).alloc _).alloc _;have b1:=((AF.new w [.int .i64 0] 3).alloc (.cells #[.bool false] 4)).alloc (.cells #[.int .u32 0] 37);obtain⟨W1,hW1⟩:=ex (((w.alloc (.cells #[.int .i64 0] 3)).alloc (.cells #[.bool false] 4)).alloc (.cells #[.int .u32 0] 37));obtain⟨CB,hCB⟩:=ex w.heap.size;have b1:AF W1 CB 3 [.int .i64 0]:=by rw [<-hW1, <-hCB];exact b1
 rw [hW1] at k1 ⊢;rw [hCB];clear hW1;refine⟨trivial,rfl,(callsIn_wide.2 (JR W1 _ _ _)).mono ?_⟩;rintro e w2 ⟨rfl,rfl⟩;have k2:=(nr W1).alloc (.cells #[.slice g n c] 48);have b2:=AF.new W1 [.slice g n c] 48;obtain⟨W2,hW2⟩:=ex (W1.alloc (.cells #[.slice g n c] 48));obtain⟨EB,hEB⟩:=ex W1.heap.size;have B2:=Ae (show AF W2 EB 48 [.slice g n c] by rw [<-hW2, <-hEB];exact b2);rw [hW2] at k2 ⊢;rw [hEB];have C2:=Ae (b1.keep k2 id);have K2:=Ae (k1.then_ k2);have R2:=Ae (ROW.out.keep K2.out id);clear hW2 k2 b2 b1 k1 hEB;gi_wp2_with fail;refine Ct (gf:=286) (lb:= #[.pointer EB]) (xs:=Et g n) rfl (enters_of func286 (by kernel_rfl) rfl) (Lu (n:=n) (c:=c) hn) (fun i h=>by rw [Cp h];rfl) (fun i X=>AJ W2 X)
  (fun i X Y h k=>h.trans k fun j hj d=>by have:=d.1;omega) (fun i X h=>B2.out.keep h id) (kx_) ?round ?done
 case round=>
  rintro r i hi X hX;have hlen:i<n:=by rwa [Ea] at hi
  rw [Cp hi];have HX:=Ae hX;clear hX;gi_wp2_with fail;refine⟨kx_,fun X2 n2=>?_⟩;have hX2:AJ W2 X2:=HX.out.trans n2 fun j hj d=>by have:=d.1;omega
  obtain⟨hk1,hk2,hk3⟩:=HK.out i hlen;have c0:=(R2.out.keep hX2 id).cell (i:=i*14) (by omega);have HX2:=Ae hX2;clear hX2 hk2 hk3 n2;rcases hk1 with e | e
  . rw [e] at c0;gi_wp2_with fail;exact⟨.new (kx_),HX2.out⟩
  . rw [e] at c0;gi_wp2_with fail;exact⟨.new (kx_),HX2.out⟩
 case done=>
  rintro D Z hD hZ hK;have cZ:=C2.out.keep hZ id;have c0:=cZ.z 0;have f0:=cZ.frozen 0;have HZ:=Ae hZ;have CZ:=Ae cZ;have HD:=Ae hD;have HKK:=Ae hK;clear hZ cZ hK;gi_wp2_with fail;have kS:AD (· =CB) Z (Z.setCell (CB 0) (.int .i64 (-1))):=keeps_set _;have zC:=C2.out.lt;have hK':=(kS.block D (Ci.1 HKK.out).1 (show¬D=CB by have:=HD.out;omega)).trans HKK.out;have bS:=CZ.out.set 0 (.int .i64 (-1));generalize Z.setCell (CB 0) (.int .i64 (-1))=ZS at kS hK' bS ⊢;refine Cc (B:=W2.heap.size) [D] _ _ ⟨rfl,fun r hr=>by rw [Dz.1 hr];exact⟨HD.out,hK'⟩,by simp⟩ fun Y hY=>?_;have cY:=(bS.nc hY).z 0;refine⟨.int .i64 (-1),by simp [results,results187,go_sem,cY],rfl,((K2.out.then_ HZ.out).trans kS fun j hj e=>absurd (show j=CB from e) (by omega)).trans hY fun j hj d=>?_⟩;have:=d.1;have:=K2.out.size;omega
end
end Go.Proofs.YtpekoejdnhaohaaGreatDoor
