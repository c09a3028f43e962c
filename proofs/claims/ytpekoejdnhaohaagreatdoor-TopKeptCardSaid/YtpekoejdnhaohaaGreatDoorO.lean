/- What plan's rows, Steps and Wants compute. For every chip in which nothing is wrong. -/
import Derived.Test.YtpekoejdnhaohaaGreatDoorJ
import Derived.Test.YtpekoejdnhaohaaGreatDoorN
namespace Go.Proofs.YtpekoejdnhaohaaGreatDoor
open Go.RowKit Tryz
set_option maxRecDepth 100000
set_option maxHeartbeats 40000000
set_option linter.all false
variable {s:AE} {v:Bx} {xs:List Value} {a c k n:Nat} {fb fc tb tc:Nat->Nat} {fr tw:Nat->Nat->Bool} {f:Nat->Value} {b:UH} {W W' w:World}
section
open Go.Shelf
attribute [local go_sem] BI Fx
structure DX where
 p:Nat
 i:Nat
 x:Nat
abbrev DX.V (q:DX):Value:= .agg #[.int .i64 q.p, .int .i64 (msgOf q.p:Int), .int .u32 q.i, .int .u32 q.x]
def DT:Nat->Nat
 | 0 | 5=>0
 | 1 | 4=>1
 | _=>2
def rowP:Nat->Nat
 | 0 | 5=>17
 | 1 | 4=>20
 | _=>22
def rowOrd (s:AE) (k m:Nat):Nat:=if 4<=k then Ao s (DT k) - 1 - m else m
def rowX (s:AE) (k o:Nat):Nat:=
 match k with
 | 0 | 1 | 3=>1
 | 5=>if(s.dm o).ret then 2 else 0
 | _=>0
def Eh (k:Nat) (fr tw:Nat->Nat->Bool):Nat->Bool:=if k<3 then tw (DT k) else fr (DT k)
def EF (k:Nat) (fr tw:Nat->Nat->Bool):Nat->Bool:=if k<3 then fr (DT k) else tw (DT k)
def Ep (s:AE) (fr tw:Nat->Nat->Bool) (k:Nat):List DX:=(flt (rowOrd s k) (fun i=>Eh k fr tw i&&!EF k fr tw i) (Ao s (DT k))).map fun o=>⟨rowP k,o,rowX s k o⟩
def Ax (s:AE) (fr tw:Nat->Nat->Bool):List DX:=Gb (Ep s fr tw) 6
def Zx (k:Nat):Nat:=if k=5 then 351 else 355
def VMK (s:AE) (v:Bx) (k:Nat) (W:World) (vb:Nat):Prop:=(k=5->BJ W vb s v∧A6 W v s)∧(k≠5->AF W vb 37 [.int .u32 (rowX s k 0:Int)])
theorem vmk_new {vb:Nat} (h:VMK s v k W vb) (n:AJ W W'):VMK s v k W' vb:=⟨fun e=>⟨(h.1 e).1.keep n id,(h.1 e).2.new n⟩,fun e=>(h.2 e).keep n id⟩
structure Jq (W:World) (s:AE) (v:Bx) (fr tw:Nat->Nat->Bool) (b:UH) (k:Nat):Prop where
 st:WX W b (rowP k:Int) (msgOf (rowP k):Int) (Zx k)
 mo:G5 W b.m (Ao s (DT k)) (rowOrd s k) (Eh k fr tw) (EF k fr tw)
 vm:VMK s v k W b.vb
theorem Jq.new (h:Jq W s v fr tw b k) (n:AJ W W'):Jq W' s v fr tw b k:=⟨h.st.new n,h.mo.new n,vmk_new h.vm n⟩
def Na (s:AE) (fr tw:Nat->Nat->Bool) (x:Value) (w:World) (k:Nat):Prop:=∃m:IK,x= .func (.func 354) #[] m.lb∧G5 w m (Ao s (DT k)) (rowOrd s k) (Eh k fr tw) (EF k fr tw)
def ZE (s:AE) (v:Bx) (x:Value) (w:World) (k:Nat):Prop:=∃p,x= .func (.func 355) #[] #[.pointer (some ⟨p,0,none⟩)]∧VMK s v k w p
def N8 (s:AE) (v:Bx) (fr tw:Nat->Nat->Bool) (x:Value) (w:World) (k:Nat):Prop:=∃b:UH,x= .func (.func 353) #[] b.lb∧Jq w s v fr tw b k
def vAll (s:AE) (v:Bx) (fr tw:Nat->Nat->Bool) (z:Nat) (i:Nat) (vals:Nat->Value) (w':World):Prop:=
 match i with
 | 5=>Na s fr tw (vals 5) w' 0
 | 13=>Na s fr tw (vals 13) w' 1
 | 21=>Na s fr tw (vals 21) w' 2
 | 29=>Na s fr tw (vals 29) w' 3
 | 37=>Na s fr tw (vals 37) w' 4
 | 45=>Na s fr tw (vals 45) w' 5
 | 6=>ZE s v (vals 6) w' 0
 | 14=>ZE s v (vals 14) w' 1
 | 22=>ZE s v (vals 22) w' 2
 | 30=>ZE s v (vals 30) w' 3
 | 38=>ZE s v (vals 38) w' 4
 | 7=>N8 s v fr tw (vals 7) w' 0
 | 15=>N8 s v fr tw (vals 15) w' 1
 | 23=>N8 s v fr tw (vals 23) w' 2
 | 31=>N8 s v fr tw (vals 31) w' 3
 | 39=>N8 s v fr tw (vals 39) w' 4
 | 47=>N8 s v fr tw (vals 47) w' 5
 | 48=>∃g,vals 48= .slice (some ⟨g,0,none⟩) 6 6∧Row w' g 420 6 (fun k=>vals (if k=5 then 47 else 7+8*k))
 | _=>∃a,vals i= .pointer (some ⟨a,0,none⟩)∧AF w' a 429 [.slice none 0 0]∧z<=a
theorem Tg {b:Nat} {t:TypeId} (h:Row w b t n f) (h1:∀i,i<n->(f i).oneCell'=true):Src w (some (b 0)) n c 1 ((List.range n).map f):=by
 refine⟨fun e=>(by cases e),by simp,fun ad e _=>?_,fun ad e j u hj=>?_,fun u hu=>?_⟩
 . injection e with e;subst e;exact h.lt
 . injection e with e;subst e;have hl:j<n:=by have:=(G8.1 hj).1;simpa using this
   rw [List.getElem?_map,List.getElem?_range hl] at hj;rw [Af,Ag,h.cell hl];exact hj
 . obtain⟨i,hi,rfl⟩:=List.mem_map.1 hu;exact h1 i (List.mem_range.1 hi)
theorem Hq {B:Nat} {t:TypeId} {a:Option Addr} (h:w.ownsRow B t 1 (.slice a n c) n ((List.range n).map f)) (hn:0<n):∃q,a=some ⟨q,0,none⟩∧Row w q t n f∧B<=q:=by
 have ho:=h;rcases h.2 with⟨hv,h0⟩ | ⟨g,c',cur,hv,hb,hg,_⟩
 . omega
 . injection hv with h1 h2 h3;subst h1;refine⟨g,rfl,⟨cur,hg,fun i hi=>?_⟩,hb⟩;have hc:=World.ownsRow.cells ho (g:=g) rfl i (f i) (by simp [hi]);rw [Af,Ag] at hc;simpa [World.cell?,hg] using hc
def AllP (w:World) (s:AE) (v:Bx) (fr tw:Nat->Nat->Bool) (e:Ending) (w':World):Prop:=
 ∃ (b:TV) (bs:Nat->UH),e= .returned (.func (.func 352) #[] b.lb)∧AJ w w'∧Nj w' b (fun k=>(bs k).lb)∧∀k,k<6->Jq w' s v fr tw (bs k) k
theorem Xc (hs:s.Ok) (ha:A6 w v s) {ob obc:Nat->Nat} (ho:∀j,j<3->Row w (ob j) 3 (Ao s j) (fun i=> .int .i64 i))
 (hf:∀j,j<3->Row w (fb j) 4 (Ao s j) (fun i=> .bool (fr j i))) (ht:∀j,j<3->Row w (tb j) 4 (Ao s j) (fun i=> .bool (tw j i))):
 Calls prog 343 #[.agg #[.slice v.cb s.nc v.cc, .slice v.db s.nd v.dc, .slice v.rb s.nr v.rc, .slice v.vb s.nv v.vc], .slice (ob 0) s.nd (obc 0), .slice (ob 1) s.nc (obc 1), .slice (ob 2) s.nr (obc 2), .agg #[.slice (fb 0) s.nd (fc 0), .slice (fb 1) s.nc (fc 1), .slice (fb 2) s.nr (fc 2)], .agg #[.slice (tb 0) s.nd (tc 0), .slice (tb 1) s.nc (tc 1), .slice (tb 2) s.nr (tc 2)]] w (AllP w s v fr tw):=by
 have HS:=Ae hs;have HA:=Ae ha;have HO:=Ae ho;have HF:=Ae hf;have HT:=Ae ht;clear hs ha ho hf ht;have hmf:=mf (P:=prog);go_in;go_wp2_with fail;have B0:=((Aj (w:=w) s v).alloc (.cells #[.slice (fb 0) s.nd (fc 0), .slice (fb 1) s.nc (fc 1), .slice (fb 2) s.nr (fc 2)] 117)).alloc (.cells #[.slice (tb 0) s.nd (tc 0), .slice (tb 1) s.nc (tc 1), .slice (tb 2) s.nr (tc 2)] 117);have B1:=(AF.new (w.alloc (.cells (BI v s) 30)) [.slice (fb 0) s.nd (fc 0), .slice (fb 1) s.nc (fc 1), .slice (fb 2) s.nr (fc 2)] 117).alloc (.cells #[.slice (tb 0) s.nd (tc 0), .slice (tb 1) s.nc (tc 1), .slice (tb 2) s.nr (tc 2)] 117);have B2:=AF.new ((w.alloc (.cells (BI v s) 30)).alloc (.cells #[.slice (fb 0) s.nd (fc 0), .slice (fb 1) s.nc (fc 1), .slice (fb 2) s.nr (fc 2)] 117)) [.slice (tb 0) s.nd (tc 0), .slice (tb 1) s.nc (tc 1), .slice (tb 2) s.nr (tc 2)] 117;simp only [Ay] at B1 B2;have k0:AJ w (((w.alloc (.cells (BI v s) 30)).alloc (.cells #[.slice (fb 0) s.nd (fc 0), .slice (fb 1) s.nc (fc 1), .slice (fb 2) s.nr (fc 2)] 117)).alloc (.cells #[.slice (tb 0) s.nd (tc 0), .slice (tb 1) s.nc (tc 1), .slice (tb 2) s.nr (tc 2)] 117)):=(((kx_).alloc _).alloc _).alloc _;obtain⟨W0,hW0⟩:=ex (((w.alloc (.cells (BI v s) 30)).alloc (.cells #[.slice (fb 0) s.nd (fc 0), .slice (fb 1) s.nc (fc 1), .slice (fb 2) s.nr (fc 2)] 117)).alloc (.cells #[.slice (tb 0) s.nd (tc 0), .slice (tb 1) s.nc (tc 1), .slice (tb 2) s.nr (tc 2)] 117));rw [hW0] at B0 B1 B2 k0 ⊢;clear hW0;have n1:=HS.out.c2;have n2:=HS.out.d2;have m1:=HS.out.c1;have m2:=HS.out.d1;refine(Qa (some (ob 1 0)) s.nc (obc 1) _ W0 (Tg ((HO.out 1 (by omega)).keep k0 id) (fun _ _=>rfl)) (by omega)).mono ?_;rintro e W1 ⟨a1,kc,rfl,k1,o1,_⟩;obtain⟨kb,rfl,r1,l1⟩:=Hq (n:=s.nc) o1 (by omega);go_wp2_with fail;refine(Gk (f:=fun i=>i) r1 (by omega) (by omega)).mono ?_;rintro e W2 ⟨rfl,k2,r2⟩;have K2:=Ae (k1.trans k2 (fun j hj (e:j=kb)=>by omega));have R2:=Ae r2;clear k1 o1 r1 k2 r2;go_wp2_with fail;refine(Qa (some (ob 0 0)) s.nd (obc 0) _ W2 (Tg ((HO.out 0 (by omega)).keep (k0.then_ K2.out) id) (fun _ _=>rfl)) (by omega)).mono ?_;rintro e W3 ⟨a3,gc,rfl,k3,o3,_⟩;obtain⟨gb,rfl,r3,l3⟩:=Hq (n:=s.nd) o3 (by omega);go_wp2_with fail;refine(Gk (f:=fun i=>i) r3 (by omega) (by omega)).mono ?_;rintro e W4 ⟨rfl,k4,r4⟩;have K4:=Ae (k3.trans k4 (fun j hj (e:j=gb)=>by omega));have K5:=Ae (K2.out.then_ K4.out);have R3:=Ae (R2.out.keep K4.out id);have R4:=Ae r4;have K6:=Ae (k0.then_ K5.out);clear k3 o3 r3 k4 r4;have b0:=Ae (B0.keep K5.out id);have b1:=Ae (B1.keep K5.out id);have b2:=Ae (B2.keep K5.out id);clear B0 B1 B2 k0;go_wp2_with fail;have KD:AG (AJ w W4.drew):=⟨K6.out.drew⟩;obtain⟨Y,hY⟩:=ex W4.drew;have RO:AG (∀k,k<6->Row Y (if k=4 then kb else if k=5 then gb else ob (DT k)) 3 (Ao s (DT k)) (fun i=> .int .i64 (rowOrd s k i:Int))):=⟨fun k hk=>by
  rw [<-hY]
  match k,hk with
  | 0,_=>exact(HO.out 0 (by omega)).keep KD.out id
  | 1,_=>exact(HO.out 1 (by omega)).keep KD.out id
  | 2,_=>exact(HO.out 2 (by omega)).keep KD.out id
  | 3,_=>exact(HO.out 2 (by omega)).keep KD.out id
  | 4,_=>exact R3.out
  | 5,_=>exact R4.out⟩
 have RF:AG (∀k,Row Y ((if k<3 then fb else tb) (DT k)) 4 (Ao s (DT k)) (fun i=> .bool (EF k fr tw i))):=⟨fun k=>by
  have hj:DT k<3:=by unfold DT;split <;> omega
  rw [<-hY];by_cases e:k<3
  . simp only [EF,if_pos e];exact(HF.out _ hj).keep KD.out id
  . simp only [EF,if_neg e];exact(HT.out _ hj).keep KD.out id⟩
 have RT:AG (∀k,Row Y ((if k<3 then tb else fb) (DT k)) 4 (Ao s (DT k)) (fun i=> .bool (Eh k fr tw i))):=⟨fun k=>by
  have hj:DT k<3:=by unfold DT;split <;> omega
  rw [<-hY];by_cases e:k<3
  . simp only [Eh,if_pos e];exact(HT.out _ hj).keep KD.out id
  . simp only [Eh,if_neg e];exact(HF.out _ hj).keep KD.out id⟩
 have SB:AG (BJ Y w.heap.size s v∧A6 Y v s):=⟨by rw [<-hY];exact⟨b0.out,HA.out.new KD.out⟩⟩;have SNK:AG (∀w',AJ Y w'->w'.cell? ((w.heap.size+1) 0)=some (.slice (fb 0) s.nd (fc 0))∧w'.cell? ((w.heap.size+1) 1)=some (.slice (fb 1) s.nc (fc 1))∧w'.cell? ((w.heap.size+1) 2)=some (.slice (fb 2) s.nr (fc 2))∧w'.cell? ((w.heap.size+1+1) 0)=some (.slice (tb 0) s.nd (tc 0))∧w'.cell? ((w.heap.size+1+1) 1)=some (.slice (tb 1) s.nc (tc 1))∧w'.cell? ((w.heap.size+1+1) 2)=some (.slice (tb 2) s.nr (tc 2))):=⟨fun w' kk=>by
  rw [<-hY] at kk;have c1:=b1.out.drew.keep kk id;have c2:=b2.out.drew.keep kk id;exact⟨c1.cell 0,c1.cell 1,c1.cell 2,c2.cell 0,c2.cell 1,c2.cell 2⟩⟩
 have KY:AG (AJ w Y):=⟨by rw [<-hY];exact KD.out⟩;refine rh_ (fun w'=>w'.cell? ((w.heap.size+1) 0)=some (.slice (fb 0) s.nd (fc 0))∧w'.cell? ((w.heap.size+1) 1)=some (.slice (fb 1) s.nc (fc 1))∧w'.cell? ((w.heap.size+1) 2)=some (.slice (fb 2) s.nr (fc 2))∧w'.cell? ((w.heap.size+1+1) 0)=some (.slice (tb 0) s.nd (tc 0))∧w'.cell? ((w.heap.size+1+1) 1)=some (.slice (tb 1) s.nc (tc 1))∧w'.cell? ((w.heap.size+1+1) 2)=some (.slice (tb 2) s.nr (tc 2))) (by rw [hY];exact SNK.out _ (AD.refl _ Y)) (fun hE=>?_);rw [hY] at hE ⊢;clear hY b0 b1 b2 R3 R4 K2 K4 K5 K6 KD R2;refine tk 0 hE ?_;refine tk 1 hE ?_;refine tk 2 hE ?_;refine tk 3 hE ?_;refine tk 4 hE ?_;refine tk 8 hE ?_;refine tk 9 hE ?_;refine tk 10 hE ?_;refine tk 11 hE ?_;refine tk 12 hE ?_;refine tk 16 hE ?_;refine tk 17 hE ?_;refine tk 18 hE ?_;refine tk 19 hE ?_;refine tk 20 hE ?_;refine tk 24 hE ?_;refine tk 25 hE ?_;refine tk 26 hE ?_;refine tk 27 hE ?_;refine tk 28 hE ?_;refine tk 32 hE ?_;refine tk 33 hE ?_;refine tk 34 hE ?_;refine tk 35 hE ?_;refine tk 36 hE ?_;refine tk 40 hE ?_;refine tk 41 hE ?_;refine tk 42 hE ?_;refine tk 43 hE ?_;refine tk 44 hE ?_;refine tk 46 hE ?_;clear hE;change wpAnyH _ _ _ _ _ (([5,6,7,13,14,15,21,22,23,29,30,31,37,38,39,45,47,48,49]:List Nat).length+1) _ _ Y;refine wl_ [5,6,7,13,14,15,21,22,23,29,30,31,37,38,39,45,47,48,49] (vAll s v fr tw Y.heap.size) (fun w'=>AJ Y w') (fun _ w1 w2=>AJ w1 w2) (AD.refl _ Y) ?lstep ?lfin (stab:=?lstab) (cong:=?lcong);case lstab=>
  intro k hk i hi _ _ vals w' w'' hn hv;simp only [List.mem_cons,List.mem_nil_iff,or_false] at hk;rcases hk with rfl | rfl | rfl | rfl | rfl | rfl | rfl | rfl | rfl | rfl | rfl | rfl | rfl | rfl | rfl | rfl | rfl | rfl | rfl
  all_goals first
   | (obtain⟨m,e,ma⟩:=hv;exact⟨m,e,ma.new hn⟩)
   | (obtain⟨p,e,pb⟩:=hv;exact⟨p,e,vmk_new pb hn⟩)
   | (obtain⟨g,e,r⟩:=hv;exact⟨g,e,r.keep hn id⟩)
   | (obtain⟨a,e,b,l⟩:=hv;exact⟨a,e,b.keep hn id,l⟩)
 case lcong=>
  intro k hk vals vals' w' he hd hv;simp only [List.mem_cons,List.mem_nil_iff,or_false] at hk;rcases hk with rfl | rfl | rfl | rfl | rfl | rfl | rfl | rfl | rfl | rfl | rfl | rfl | rfl | rfl | rfl | rfl | rfl | rfl | rfl
  all_goals first
   | (obtain⟨m,e,ma⟩:=hv;exact⟨m,he.symm.trans e,ma⟩)
   | skip
  obtain⟨g,e,r⟩:=hv;refine⟨g,he.symm.trans e,r.congr fun k hk=>?_⟩
  match k,hk with
  | 0,_=>exact he_ hd 7
  | 1,_=>exact he_ hd 15
  | 2,_=>exact he_ hd 23
  | 3,_=>exact he_ hd 31
  | 4,_=>exact he_ hd 39
  | 5,_=>exact he_ hd 47
 case lstep=>
  intro i hi oo ho vals ρ w' hw hd hf;simp only [List.mem_cons,List.mem_nil_iff,or_false] at hi;rcases hi with rfl | rfl | rfl | rfl | rfl | rfl | rfl | rfl | rfl | rfl | rfl | rfl | rfl | rfl | rfl | rfl | rfl | rfl | rfl
  . cases ho;intro a' K Q ha hK;have e24:=th_ (.slice (ob 0) s.nd (obc 0)) ha hf 24;have e26:=th_ (.slice (fb 0) s.nd (fc 0)) ha hf 26;have e28:=th_ (.slice (tb 0) s.nd (tc 0)) ha hf 28;clear ha;go_simp;refine(FD (n:=Ao s (DT 0)) (ord:=rowOrd s 0) (fr:=EF 0 fr tw) (tw:=Eh 0 fr tw) ((RO.out 0 (by omega)).keep hw id) ((RF.out 0).keep hw id) ((RT.out 0).keep hw id)).mono ?_;rintro e w2 ⟨m,rfl,k2,ma⟩;exact hK _ _ ⟨k2,hw.then_ k2,SNK.out _ (hw.then_ k2),m,Ap,ma⟩
  . cases ho;intro a' K Q ha hK;clear ha;go_simp;refine Ei.mono ?_;rintro e w2 ⟨p,rfl,k2,pb⟩;exact hK _ _ ⟨k2,hw.then_ k2,SNK.out _ (hw.then_ k2),p,Ap,fun e=>(by omega),fun _=>pb⟩
  . cases ho;obtain⟨⟨m,hm,ma⟩,hv⟩:=he_ hd 5;have h29:=hv 29 rfl;rw [hm] at h29;obtain⟨⟨p,hp,pb⟩,hv2⟩:=he_ hd 6;have h30:=hv2 30 rfl;rw [hp] at h30;intro a' K Q ha hK;have e29:=tf (.func (.func 354) #[] m.lb) ha 29 h29;have e30:=tf (.func (.func 355) #[] #[.pointer p]) ha 30 h30;clear ha;go_simp;refine(EW (m:=m) (vb:=p) (vf:=355)).mono ?_;rintro e w2 ⟨b,rfl,rfl,rfl,k2,sb⟩;exact hK _ _ ⟨k2,hw.then_ k2,SNK.out _ (hw.then_ k2),b,Ap,sb,ma.new k2,vmk_new pb k2⟩
  . cases ho;intro a' K Q ha hK;have e32:=th_ (.slice (ob 1) s.nc (obc 1)) ha hf 32;have e34:=th_ (.slice (fb 1) s.nc (fc 1)) ha hf 34;have e36:=th_ (.slice (tb 1) s.nc (tc 1)) ha hf 36;clear ha;go_simp;refine(FD (n:=Ao s (DT 1)) (ord:=rowOrd s 1) (fr:=EF 1 fr tw) (tw:=Eh 1 fr tw) ((RO.out 1 (by omega)).keep hw id) ((RF.out 1).keep hw id) ((RT.out 1).keep hw id)).mono ?_;rintro e w2 ⟨m,rfl,k2,ma⟩;exact hK _ _ ⟨k2,hw.then_ k2,SNK.out _ (hw.then_ k2),m,Ap,ma⟩
  . cases ho;intro a' K Q ha hK;clear ha;go_simp;refine Ei.mono ?_;rintro e w2 ⟨p,rfl,k2,pb⟩;exact hK _ _ ⟨k2,hw.then_ k2,SNK.out _ (hw.then_ k2),p,Ap,fun e=>(by omega),fun _=>pb⟩
  . cases ho;obtain⟨⟨m,hm,ma⟩,hv⟩:=he_ hd 13;have h37:=hv 37 rfl;rw [hm] at h37;obtain⟨⟨p,hp,pb⟩,hv2⟩:=he_ hd 14;have h38:=hv2 38 rfl;rw [hp] at h38;intro a' K Q ha hK;have e37:=tf (.func (.func 354) #[] m.lb) ha 37 h37;have e38:=tf (.func (.func 355) #[] #[.pointer p]) ha 38 h38;clear ha;go_simp;refine(EW (m:=m) (vb:=p) (vf:=355)).mono ?_;rintro e w2 ⟨b,rfl,rfl,rfl,k2,sb⟩;exact hK _ _ ⟨k2,hw.then_ k2,SNK.out _ (hw.then_ k2),b,Ap,sb,ma.new k2,vmk_new pb k2⟩
  . cases ho;intro a' K Q ha hK;have e40:=th_ (.slice (ob 2) s.nr (obc 2)) ha hf 40;have e42:=th_ (.slice (fb 2) s.nr (fc 2)) ha hf 42;have e44:=th_ (.slice (tb 2) s.nr (tc 2)) ha hf 44;clear ha;go_simp;refine(FD (n:=Ao s (DT 2)) (ord:=rowOrd s 2) (fr:=EF 2 fr tw) (tw:=Eh 2 fr tw) ((RO.out 2 (by omega)).keep hw id) ((RF.out 2).keep hw id) ((RT.out 2).keep hw id)).mono ?_;rintro e w2 ⟨m,rfl,k2,ma⟩;exact hK _ _ ⟨k2,hw.then_ k2,SNK.out _ (hw.then_ k2),m,Ap,ma⟩
  . cases ho;intro a' K Q ha hK;clear ha;go_simp;refine Ei.mono ?_;rintro e w2 ⟨p,rfl,k2,pb⟩;exact hK _ _ ⟨k2,hw.then_ k2,SNK.out _ (hw.then_ k2),p,Ap,fun e=>(by omega),fun _=>pb⟩
  . cases ho;obtain⟨⟨m,hm,ma⟩,hv⟩:=he_ hd 21;have h45:=hv 45 rfl;rw [hm] at h45;obtain⟨⟨p,hp,pb⟩,hv2⟩:=he_ hd 22;have h46:=hv2 46 rfl;rw [hp] at h46;intro a' K Q ha hK;have e45:=tf (.func (.func 354) #[] m.lb) ha 45 h45;have e46:=tf (.func (.func 355) #[] #[.pointer p]) ha 46 h46;clear ha;go_simp;refine(EW (m:=m) (vb:=p) (vf:=355)).mono ?_;rintro e w2 ⟨b,rfl,rfl,rfl,k2,sb⟩;exact hK _ _ ⟨k2,hw.then_ k2,SNK.out _ (hw.then_ k2),b,Ap,sb,ma.new k2,vmk_new pb k2⟩
  . cases ho;intro a' K Q ha hK;have e48:=th_ (.slice (ob 2) s.nr (obc 2)) ha hf 48;have e50:=th_ (.slice (tb 2) s.nr (tc 2)) ha hf 50;have e52:=th_ (.slice (fb 2) s.nr (fc 2)) ha hf 52;clear ha;go_simp;refine(FD (n:=Ao s (DT 3)) (ord:=rowOrd s 3) (fr:=EF 3 fr tw) (tw:=Eh 3 fr tw) ((RO.out 3 (by omega)).keep hw id) ((RF.out 3).keep hw id) ((RT.out 3).keep hw id)).mono ?_;rintro e w2 ⟨m,rfl,k2,ma⟩;exact hK _ _ ⟨k2,hw.then_ k2,SNK.out _ (hw.then_ k2),m,Ap,ma⟩
  . cases ho;intro a' K Q ha hK;clear ha;go_simp;refine Ei.mono ?_;rintro e w2 ⟨p,rfl,k2,pb⟩;exact hK _ _ ⟨k2,hw.then_ k2,SNK.out _ (hw.then_ k2),p,Ap,fun e=>(by omega),fun _=>pb⟩
  . cases ho;obtain⟨⟨m,hm,ma⟩,hv⟩:=he_ hd 29;have h53:=hv 53 rfl;rw [hm] at h53;obtain⟨⟨p,hp,pb⟩,hv2⟩:=he_ hd 30;have h54:=hv2 54 rfl;rw [hp] at h54;intro a' K Q ha hK;have e53:=tf (.func (.func 354) #[] m.lb) ha 53 h53;have e54:=tf (.func (.func 355) #[] #[.pointer p]) ha 54 h54;clear ha;go_simp;refine(EW (m:=m) (vb:=p) (vf:=355)).mono ?_;rintro e w2 ⟨b,rfl,rfl,rfl,k2,sb⟩;exact hK _ _ ⟨k2,hw.then_ k2,SNK.out _ (hw.then_ k2),b,Ap,sb,ma.new k2,vmk_new pb k2⟩
  . cases ho;intro a' K Q ha hK;have e56:=th_ (.slice kb s.nc kc) ha hf 56;have e58:=th_ (.slice (tb 1) s.nc (tc 1)) ha hf 58;have e60:=th_ (.slice (fb 1) s.nc (fc 1)) ha hf 60;clear ha;go_simp;refine(FD (n:=Ao s (DT 4)) (ord:=rowOrd s 4) (fr:=EF 4 fr tw) (tw:=Eh 4 fr tw) ((RO.out 4 (by omega)).keep hw id) ((RF.out 4).keep hw id) ((RT.out 4).keep hw id)).mono ?_;rintro e w2 ⟨m,rfl,k2,ma⟩;exact hK _ _ ⟨k2,hw.then_ k2,SNK.out _ (hw.then_ k2),m,Ap,ma⟩
  . cases ho;intro a' K Q ha hK;clear ha;go_simp;refine Ei.mono ?_;rintro e w2 ⟨p,rfl,k2,pb⟩;exact hK _ _ ⟨k2,hw.then_ k2,SNK.out _ (hw.then_ k2),p,Ap,fun e=>(by omega),fun _=>pb⟩
  . cases ho;obtain⟨⟨m,hm,ma⟩,hv⟩:=he_ hd 37;have h61:=hv 61 rfl;rw [hm] at h61;obtain⟨⟨p,hp,pb⟩,hv2⟩:=he_ hd 38;have h62:=hv2 62 rfl;rw [hp] at h62;intro a' K Q ha hK;have e61:=tf (.func (.func 354) #[] m.lb) ha 61 h61;have e62:=tf (.func (.func 355) #[] #[.pointer p]) ha 62 h62;clear ha;go_simp;refine(EW (m:=m) (vb:=p) (vf:=355)).mono ?_;rintro e w2 ⟨b,rfl,rfl,rfl,k2,sb⟩;exact hK _ _ ⟨k2,hw.then_ k2,SNK.out _ (hw.then_ k2),b,Ap,sb,ma.new k2,vmk_new pb k2⟩
  . cases ho;intro a' K Q ha hK;have e64:=th_ (.slice gb s.nd gc) ha hf 64;have e66:=th_ (.slice (tb 0) s.nd (tc 0)) ha hf 66;have e68:=th_ (.slice (fb 0) s.nd (fc 0)) ha hf 68;clear ha;go_simp;refine(FD (n:=Ao s (DT 5)) (ord:=rowOrd s 5) (fr:=EF 5 fr tw) (tw:=Eh 5 fr tw) ((RO.out 5 (by omega)).keep hw id) ((RF.out 5).keep hw id) ((RT.out 5).keep hw id)).mono ?_;rintro e w2 ⟨m,rfl,k2,ma⟩;exact hK _ _ ⟨k2,hw.then_ k2,SNK.out _ (hw.then_ k2),m,Ap,ma⟩
  . cases ho;obtain⟨⟨m,hm,ma⟩,hv⟩:=he_ hd 45;have h69:=hv 69 rfl;rw [hm] at h69;have pb:VMK s v 5 w' w.heap.size:=⟨fun _=>⟨SB.out.1.keep hw id,SB.out.2.new hw⟩,fun e=>absurd rfl e⟩;intro a' K Q ha hK;have e69:=tf (.func (.func 354) #[] m.lb) ha 69 h69;have e70:=th_ (.func (.func 351) #[] #[.pointer w.heap.size]) ha hf 70;clear ha;go_simp;refine(EW (m:=m) (vb:=w.heap.size) (vf:=351)).mono ?_;rintro e w2 ⟨b,rfl,hvb,rfl,k2,sb⟩;exact hK _ _ ⟨k2,hw.then_ k2,SNK.out _ (hw.then_ k2),b,Ap,sb,ma.new k2,hvb ▸ vmk_new pb k2⟩
  . cases ho;have h31:=(he_ hd 7).2 31 rfl;have h39:=(he_ hd 15).2 39 rfl;have h47:=(he_ hd 23).2 47 rfl;have h55:=(he_ hd 31).2 55 rfl;have h63:=(he_ hd 39).2 63 rfl;have h71:=(he_ hd 47).2 71 rfl;obtain⟨b0,hb0,_⟩:=(he_ hd 7).1;rw [hb0] at h31;obtain⟨b1,hb1,_⟩:=(he_ hd 15).1;rw [hb1] at h39;obtain⟨b2,hb2,_⟩:=(he_ hd 23).1;rw [hb2] at h47;obtain⟨b3,hb3,_⟩:=(he_ hd 31).1;rw [hb3] at h55;obtain⟨b4,hb4,_⟩:=(he_ hd 39).1;rw [hb4] at h63;obtain⟨b5,hb5,_⟩:=(he_ hd 47).1;rw [hb5] at h71;intro a' K Q ha hK;have e31:=tf (.func (.func 353) #[] b0.lb) ha 31 h31;have e39:=tf (.func (.func 353) #[] b1.lb) ha 39 h39;have e47:=tf (.func (.func 353) #[] b2.lb) ha 47 h47;have e55:=tf (.func (.func 353) #[] b3.lb) ha 55 h55;have e63:=tf (.func (.func 353) #[] b4.lb) ha 63 h63;have e71:=tf (.func (.func 353) #[] b5.lb) ha 71 h71;clear ha;go_simp;have k2:=(nr w').alloc (.cells #[.func (.func 353) #[] b0.lb, .func (.func 353) #[] b1.lb, .func (.func 353) #[] b2.lb, .func (.func 353) #[] b3.lb, .func (.func 353) #[] b4.lb, .func (.func 353) #[] b5.lb] 420);have bl:=AF.new w' [.func (.func 353) #[] b0.lb, .func (.func 353) #[] b1.lb, .func (.func 353) #[] b2.lb, .func (.func 353) #[] b3.lb, .func (.func 353) #[] b4.lb, .func (.func 353) #[] b5.lb] 420;refine hK _ _ ⟨k2,hw.then_ k2,SNK.out _ (hw.then_ k2),w'.heap.size,Ap,_,bl,fun k hk=>?_⟩
    match k,hk with
    | 0,_=>exact congrArg some (((turn_other vals _ (show 7≠48 by omega)).trans hb0).symm)
    | 1,_=>exact congrArg some (((turn_other vals _ (show 15≠48 by omega)).trans hb1).symm)
    | 2,_=>exact congrArg some (((turn_other vals _ (show 23≠48 by omega)).trans hb2).symm)
    | 3,_=>exact congrArg some (((turn_other vals _ (show 31≠48 by omega)).trans hb3).symm)
    | 4,_=>exact congrArg some (((turn_other vals _ (show 39≠48 by omega)).trans hb4).symm)
    | 5,_=>exact congrArg some (((turn_other vals _ (show 47≠48 by omega)).trans hb5).symm)
  . cases ho;intro a' K Q ha hK;clear ha;go_simp;have k2:=(nr w').alloc (.cells #[.slice none 0 0] 429);exact hK _ _ ⟨k2,hw.then_ k2,SNK.out _ (hw.then_ k2),w'.heap.size,Ap,AF.new _ _ _,hw.size⟩
 case lfin=>
  intro vals w' hw hv;obtain⟨a,ea,ba,la⟩:=Jh hv 49;obtain⟨g,eg,rg⟩:=Jh hv 48;obtain⟨b0,eb0,rk0⟩:=Jh hv 7;obtain⟨b1,eb1,rk1⟩:=Jh hv 15;obtain⟨b2,eb2,rk2⟩:=Jh hv 23;obtain⟨b3,eb3,rk3⟩:=Jh hv 31;obtain⟨b4,eb4,rk4⟩:=Jh hv 39;obtain⟨b5,eb5,rk5⟩:=Jh hv 47;clear hv;have c0:=cv_ (.slice none 0 0) (ba.cell 0);have f0:=ba.frozen 0;have HW:=Ae hw;have BA:=Ae ba;have RK:=Ae (And.intro rk0 (And.intro rk1 (And.intro rk2 (And.intro rk3 (And.intro rk4 rk5)))));have RG:AG (Row w' g 420 6 (fun k=> .func (.func 353) #[] ((match k with | 0=>b0 | 1=>b1 | 2=>b2 | 3=>b3 | 4=>b4 | _=>b5:UH).lb))):=⟨rg.congr fun k hk=>by
   match k,hk with
   | 0,_=>exact eb0
   | 1,_=>exact eb1
   | 2,_=>exact eb2
   | 3,_=>exact eb3
   | 4,_=>exact eb4
   | 5,_=>exact eb5⟩
  clear hw ba rg rk0 rk1 rk2 rk3 rk4 rk5 eb0 eb1 eb2 eb3 eb4 eb5;simp only [Am,AR,dstOf,De,Bl,Bk,CM,pu,s0,s1,if_true];rw [ea,eg];clear ea eg;refine oN_ 50 (fun w2=>w2=w'.setCell (a 0) (.slice g 6 6)) ?sg ?sn;case sg=>
   intro a' K Q ha hK;have e15:=te ha 15;have e72:=te ha 72;clear ha;go_simp;exact hK undef _ rfl
  case sn=>
  rintro w2 rfl;have kS:AJ Y (w'.setCell (a 0) (.slice g 6 6)):=HW.out.trans (keeps_set _) (fun j hj (e:j=a)=>by omega);refine⟨SNK.out _ kS,by kernel_rfl,?_⟩;go_wp2;go_ret;have ag:g≠a:=fun e=>by
   obtain⟨c,h,_⟩:=RG.out;have h2:=BA.out;unfold AF at h2;rw [e,h2] at h;injection h with h;injection h with _ h;exact absurd h (by decide)
  have up:∀ (b:UH) (k:Nat),Jq w' s v fr tw b k->Jq (w'.setCell (a 0) (.slice g 6 6)) s v fr tw b k:=fun b k h=>by
   have ka:AD (fun j=>j=a) w' (w'.setCell (a 0) (.slice g 6 6)):=keeps_set _;have nb:∀ {q t:Nat} {xs:List Value},AF w' q t xs->t≠429->¬q=a:=fun hq ht e=>by
    have h2:=BA.out;unfold AF at h2 hq;rw [e,h2] at hq;injection hq with hq;injection hq with _ hq;exact ht hq.symm
   have nr:∀ {q t n:Nat} {f:Nat->Value},Row w' q t n f->t≠429->¬q=a:=fun hq ht e=>by
    obtain⟨c,h,_⟩:=hq;have h2:=BA.out;unfold AF at h2;rw [e,h2] at h;injection h with h;injection h with _ h;exact ht h.symm
   refine⟨⟨h.st.b0.keep ka (nb h.st.b0 (by decide)),h.st.b1.keep ka (nb h.st.b1 (by decide)),h.st.b2.keep ka (nb h.st.b2 (by decide)),h.st.b3.keep ka (nb h.st.b3 (by decide))⟩,
    ⟨h.mo.b0.keep ka (nb h.mo.b0 (by decide)),h.mo.b1.keep ka (nb h.mo.b1 (by decide)),h.mo.b2.keep ka (nb h.mo.b2 (by decide)),h.mo.r0.keep ka (nr h.mo.r0 (by decide)),h.mo.r1.keep ka (nr h.mo.r1 (by decide)),h.mo.r2.keep ka (nr h.mo.r2 (by decide))⟩,fun e=>⟨(h.vm.1 e).1.keep ka (nb (h.vm.1 e).1 (by decide)),(h.vm.1 e).2.keep ka fun j hj=>FK (h.vm.1 e).2 BA.out (by omega) j hj⟩,fun e=>(h.vm.2 e).keep ka (nb (h.vm.2 e) (by decide))⟩
  obtain⟨h0,h1,h2,h3,h4,h5⟩:=RK.out;refine⟨⟨a,g⟩,fun k=>match k with | 0=>b0 | 1=>b1 | 2=>b2 | 3=>b3 | 4=>b4 | _=>b5,rfl,KY.out.then_ kS,⟨BA.out.set 0 _,RG.out.keep (S:=fun j=>j=a) (keeps_set _) ag⟩,fun k hk=>?_⟩
  match k,hk with
  | 0,_=>exact up b0 0 h0
  | 1,_=>exact up b1 1 h1
  | 2,_=>exact up b2 2 h2
  | 3,_=>exact up b3 3 h3
  | 4,_=>exact up b4 4 h4
  | 5,_=>exact up b5 5 h5
theorem XT {b:TV} {bs:Nat->UH} (hs:s.Ok):
 G0 prog 352 b.lb ((Ax s fr tw).map fun q=> #[q.V]) (fun W=>Nj W b (fun k=>(bs k).lb)∧∀k,k<6->Jq W s v fr tw (bs k) k):=by
 have n1:=hs.c2;have n2:=hs.d2;have n3:=hs.r2;have hd:∀k,Ao s (DT k)<=1000:=fun k=>by unfold DT;split <;> simp only [Ao] <;> omega
 have e:∀n,(Gb (Ep s fr tw) n).map DX.V=Gb (fun k=>(Ep s fr tw k).map DX.V) n:=by
  intro n
  induction n with
  | zero=>rfl
  | succ n ih=>rw [Gb,Gb,List.map_append,ih]
 have h:=Ut (b:=b) (lbs:=fun k=>(bs k).lb) (xss:=fun k=>(Ep s fr tw k).map DX.V) (Mem:=fun W=>∀k,k<6->Jq W s v fr tw (bs k) k) (fun k hk=>?_) (fun k hk x hx=>?_)
 . rw [<-e 6,List.map_map] at h;exact h
 . have hm:((Ep s fr tw k).map DX.V).map (fun v=> #[v])=Nt (rowP k:Int) (msgOf (rowP k):Int) (fun o=>(rowX s k o:Int)) (flt (rowOrd s k) (fun i=>Eh k fr tw i&&!EF k fr tw i) (Ao s (DT k))):=by
    simp [Ep,List.map_map,Function.comp_def]
   rw [hm];have hh:=Pi (b:=bs k) (n:=Ao s (DT k)) (ord:=rowOrd s k) (tw:=Eh k fr tw) (fr:=EF k fr tw) (p:=(rowP k:Int)) (mm:=(msgOf (rowP k):Int)) (vf:=Zx k) (val:=fun o=>(rowX s k o:Int)) (VM:=fun W=>VMK s v k W (bs k).vb) (hd k) (fun i hi=>by unfold rowOrd;split <;> omega) (fun _ _ h n=>vmk_new h n) (fun W hW i hi=>?_) (fun args w=>?_)
   . intro l J W h1 h2 h3 h4;exact hh l J W h1 (fun i X hX=>⟨(h2 i X hX k hk).st,(h2 i X hX k hk).mo,(h2 i X hX k hk).vm⟩) h3 h4
   . by_cases e5:k=5
     . subst e5;obtain⟨b1,b2⟩:=hW.1 rfl;have:=YD b1 b2 i hi n2;have ek:Py s i=(rowX s 5 i:Int):=by simp only [Py,rowX];split <;> rfl
       rw [ek] at this;exact this
     . have hx:rowX s k i=rowX s k 0:=by
        match k,hk,e5 with
        | 0,_,_ | 1,_,_ | 2,_,_ | 3,_,_ | 4,_,_=>rfl
        | 5,_,e=>exact absurd rfl e
       simp only [Zx,if_neg e5,hx];exact TG (hW.2 e5) _
   . unfold Zx;split
     . exact enters_of func351 (by kernel_rfl) rfl args w
     . exact enters_of func355 (by kernel_rfl) rfl args w
 . obtain⟨q,_,rfl⟩:=List.mem_map.1 hx;exact⟨_,_,_,_,rfl⟩
end
section
open Go.Shelf
attribute [local go_sem] BI Fx
attribute [local go_sem] Oper.semAt_some
abbrev DX.cells (q:DX):List Value:=[.int .i64 q.p, .int .i64 (msgOf q.p:Int), .int .u32 q.i, .int .u32 q.x]
def CS (l:List DX):List Value:=l.flatMap DX.cells
def Qp (w:World) (s:AE) (fr tw:Nat->Nat->Bool) (e:Ending) (w':World):Prop:=
 ∃a c,e= .returned (.slice a (Ax s fr tw).length c)∧AJ w w'∧w'.ownsRow w.heap.size 278 4 (.slice a (Ax s fr tw).length c) (Ax s fr tw).length (CS (Ax s fr tw))
theorem Tx {ord:Nat->Nat} {p:Nat->Bool} (n:Nat):(flt ord p n).length<=n:=by
 induction n with
 | zero=>simp [flt]
 | succ n ih=>rw [flt,CX];split <;> simp <;> omega
theorem EO (hs:s.Ok) (fr tw:Nat->Nat->Bool):(Ax s fr tw).length<=40:=by
 have n1:=hs.c2;have n2:=hs.d2;have n3:=hs.r2;have h:∀k,(Ep s fr tw k).length<=Ao s (DT k):=fun k=>by rw [Ep,List.length_map];exact Tx _
 have h0:=h 0;have h1:=h 1;have h2:=h 2;have h3:=h 3;have h4:=h 4;have h5:=h 5;simp only [DT,Ao] at h0 h1 h2 h3 h4 h5;simp only [Ax,Gb,CX,Ek];omega
theorem Jq.far {t:Nat} (h:Jq W s v fr tw b k) (z:AF W a t xs) (ht:t=136) (ka:AD (fun j=>j=a) W W'):Jq W' s v fr tw b k:=by
 subst ht;have nb:∀ {q t:Nat} {xs:List Value},AF W q t xs->t≠136->¬q=a:=fun hq ht e=>by
  unfold AF at z hq;rw [e,z] at hq;injection hq with hq;injection hq with _ hq;exact ht hq.symm
 have nr:∀ {q t n:Nat} {f:Nat->Value},Row W q t n f->t≠136->¬q=a:=fun hq ht e=>by
  obtain⟨c,h,_⟩:=hq;unfold AF at z;rw [e,z] at h;injection h with h;injection h with _ h;exact ht h.symm
 exact⟨⟨h.st.b0.keep ka (nb h.st.b0 (by decide)),h.st.b1.keep ka (nb h.st.b1 (by decide)),h.st.b2.keep ka (nb h.st.b2 (by decide)),h.st.b3.keep ka (nb h.st.b3 (by decide))⟩,
  ⟨h.mo.b0.keep ka (nb h.mo.b0 (by decide)),h.mo.b1.keep ka (nb h.mo.b1 (by decide)),h.mo.b2.keep ka (nb h.mo.b2 (by decide)),h.mo.r0.keep ka (nr h.mo.r0 (by decide)),h.mo.r1.keep ka (nr h.mo.r1 (by decide)),h.mo.r2.keep ka (nr h.mo.r2 (by decide))⟩,fun e=>⟨(h.vm.1 e).1.keep ka (nb (h.vm.1 e).1 (by decide)),(h.vm.1 e).2.keep ka fun j hj=>FK (h.vm.1 e).2 z (by omega) j hj⟩,fun e=>(h.vm.2 e).keep ka (nb (h.vm.2 e) (by decide))⟩
theorem Nj.far {b:TV} {lbs:Nat->Array Value} (h:Nj W b lbs) (z:AF W a 136 xs) (ka:AD (fun j=>j=a) W W'):Nj W' b lbs:=by
 refine⟨h.b0.keep ka fun e=>?_,h.b1.keep ka fun e=>?_⟩
 . have h:=h.b0;unfold AF at z h;rw [show b.a=a from e,z] at h;injection h with h;injection h with _ h;exact absurd h (by decide)
 . obtain⟨c,h,_⟩:=h.b1;unfold AF at z;rw [show b.g=a from e,z] at h;injection h with h;injection h with _ h;exact absurd h (by decide)
theorem YI:inf_ prog 278=some (some (.agg #[.int .i64 0, .int .i64 0, .int .u32 0, .int .u32 0]),4,24):=by kernel_rfl
theorem infoI3:inf_ prog 3=some (some (.int .i64 0),1,8):=by kernel_rfl
theorem Rv (hs:s.Ok) (ha:A6 w v s)
 (hf:∀j,j<3->Row w (fb j) 4 (Ao s j) (fun i=> .bool (fr j i))) (ht:∀j,j<3->Row w (tb j) 4 (Ao s j) (fun i=> .bool (tw j i))):
 Calls prog 341 #[.agg #[.slice v.cb s.nc v.cc, .slice v.db s.nd v.dc, .slice v.rb s.nr v.rc, .slice v.vb s.nv v.vc], .agg #[.slice (fb 0) s.nd (fc 0), .slice (fb 1) s.nc (fc 1), .slice (fb 2) s.nr (fc 2)], .agg #[.slice (tb 0) s.nd (tc 0), .slice (tb 1) s.nc (tc 1), .slice (tb 2) s.nr (tc 2)]] w (Qp w s fr tw):=by
 have HS:=Ae hs;have HA:=Ae ha;have HF:=Ae hf;have HT:=Ae ht;clear hs ha hf ht;have n1:=HS.out.c2;have n2:=HS.out.d2;have n3:=HS.out.r2;have m1:=HS.out.c1;have m2:=HS.out.d1;have m3:=HS.out.r1;refine callsIn_wide (n:=0) |>.1 (callsIn_of_wp_marks func341 rfl trivial ?_ rfl)
 simp only [ntmps341,List.size_toArray,Dy,Ek,Nat.reduceAdd,Nat.reduceSub,Array.replicate_succ,Array.replicate_zero,List.push_toArray,List.append_toArray,CK,EH];gi_wp2_with fail;have B0:=((Aj (w:=w) s v).alloc (.cells #[.slice (fb 0) s.nd (fc 0), .slice (fb 1) s.nc (fc 1), .slice (fb 2) s.nr (fc 2)] 117)).alloc (.cells #[.slice (tb 0) s.nd (tc 0), .slice (tb 1) s.nc (tc 1), .slice (tb 2) s.nr (tc 2)] 117);have B1:=(AF.new (w.alloc (.cells (BI v s) 30)) [.slice (fb 0) s.nd (fc 0), .slice (fb 1) s.nc (fc 1), .slice (fb 2) s.nr (fc 2)] 117).alloc (.cells #[.slice (tb 0) s.nd (tc 0), .slice (tb 1) s.nc (tc 1), .slice (tb 2) s.nr (tc 2)] 117);have B2:=AF.new ((w.alloc (.cells (BI v s) 30)).alloc (.cells #[.slice (fb 0) s.nd (fc 0), .slice (fb 1) s.nc (fc 1), .slice (fb 2) s.nr (fc 2)] 117)) [.slice (tb 0) s.nd (tc 0), .slice (tb 1) s.nc (tc 1), .slice (tb 2) s.nr (tc 2)] 117;simp only [Ay] at B1 B2;have k0:AJ w (((w.alloc (.cells (BI v s) 30)).alloc (.cells #[.slice (fb 0) s.nd (fc 0), .slice (fb 1) s.nc (fc 1), .slice (fb 2) s.nr (fc 2)] 117)).alloc (.cells #[.slice (tb 0) s.nd (tc 0), .slice (tb 1) s.nc (tc 1), .slice (tb 2) s.nr (tc 2)] 117)):=(((kx_).alloc _).alloc _).alloc _;obtain⟨W0,hW0⟩:=ex (((w.alloc (.cells (BI v s) 30)).alloc (.cells #[.slice (fb 0) s.nd (fc 0), .slice (fb 1) s.nc (fc 1), .slice (fb 2) s.nr (fc 2)] 117)).alloc (.cells #[.slice (tb 0) s.nd (tc 0), .slice (tb 1) s.nc (tc 1), .slice (tb 2) s.nr (tc 2)] 117));rw [hW0] at B0 B1 B2 k0 ⊢;clear hW0;refine⟨trivial,rfl,(callsIn_wide.2 (CP HS.out (HA.out.new k0))).mono ?_⟩;rintro z' W1 ⟨rfl,k1⟩;have K1:=Ae (k0.then_ k1);have b0:=Ae (B0.keep k1 id);have b1:=Ae (B1.keep k1 id);have b2:=Ae (B2.keep k1 id);have s0:=cv_ (.slice (some (v.cb 0)) s.nc v.cc) (b0.out.cell 0);have s1:=cv_ (.slice (some (v.db 0)) s.nd v.dc) (b0.out.cell 1);have s2:=cv_ (.slice (some (v.rb 0)) s.nr v.rc) (b0.out.cell 2);have s3:=cv_ (.slice (some (v.vb 0)) s.nv v.vc) (b0.out.cell 3);clear B0 B1 B2 k0 k1;gi_wp2_with fail;refine⟨trivial,rfl,(callsIn_wide.2 (Iw HS.out (HA.out.new K1.out))).mono ?_⟩;rintro z' W2 ⟨gb,ao,cp,rfl,k2,g2,_,_⟩;have K2:=Ae (K1.out.then_ k2);have c0:=Ae (b0.out.keep k2 id);have c1:=Ae (b1.out.keep k2 id);have c2:=Ae (b2.out.keep k2 id);clear s0 s1 s2 s3 b0 b1 b2 k2;have G2:=Ae g2;clear g2;gi_wp2_with fail;refine⟨trivial,rfl,(callsIn_wide.2 (Fe G2.out)).mono ?_⟩;rintro z' W3 ⟨a3,c3,rfl,k3,o3⟩;obtain⟨ob0,rfl,r3,_⟩:=Hq (n:=s.nd) (f:=fun i=> .int .i64 i) o3 (by omega);have K3:=Ae (K2.out.then_ k3);have b0:=Ae (c0.out.keep k3 id);have b1:=Ae (c1.out.keep k3 id);have b2:=Ae (c2.out.keep k3 id);have R3:=Ae r3;have s0:=cv_ (.slice (some (v.cb 0)) s.nc v.cc) (b0.out.cell 0);have s1:=cv_ (.slice (some (v.db 0)) s.nd v.dc) (b0.out.cell 1);have s2:=cv_ (.slice (some (v.rb 0)) s.nr v.rc) (b0.out.cell 2);have s3:=cv_ (.slice (some (v.vb 0)) s.nv v.vc) (b0.out.cell 3);clear c0 c1 c2 k3 G2 r3 o3;gi_wp2_with fail;refine⟨trivial,rfl,(callsIn_wide.2 (Jf HS.out (HA.out.new K3.out))).mono ?_⟩;rintro z' W4 ⟨gb4,ao4,cp4,rfl,k4,g4,_,_⟩;have G4:=Ae g4;have KK4:=Ae k4;clear s0 s1 s2 s3 k4 g4;gi_wp2_with fail;refine⟨trivial,rfl,(callsIn_wide.2 (Fe G4.out)).mono ?_⟩;rintro z' W5 ⟨a5,c5,rfl,k5,o5⟩;obtain⟨ob1,rfl,r5,_⟩:=Hq (n:=s.nc) (f:=fun i=> .int .i64 i) o5 (by omega);have KK:=Ae (KK4.out.then_ k5);have K5:=Ae (K3.out.then_ KK.out);have c0:=Ae (b0.out.keep KK.out id);have c1:=Ae (b1.out.keep KK.out id);have c2:=Ae (b2.out.keep KK.out id);have R0:=Ae (R3.out.keep KK.out id);have R1:=Ae r5;have s0:=cv_ (.slice (some (v.cb 0)) s.nc v.cc) (c0.out.cell 0);have s1:=cv_ (.slice (some (v.db 0)) s.nd v.dc) (c0.out.cell 1);have s2:=cv_ (.slice (some (v.rb 0)) s.nr v.rc) (c0.out.cell 2);have s3:=cv_ (.slice (some (v.vb 0)) s.nv v.vc) (c0.out.cell 3);have hmr:=fun(W:World)=>run_make_row' (P:=prog) 22 3 (.int .i64 0) 8 underlying22 infoI3 rfl .i64 .i64 s.nr (by omega) (by omega) W;clear b0 b1 b2 k5 G4 KK4 R3 r5 o5;gi_wp2_with fail;clear hmr s0 s1 s2 s3;obtain⟨LB,hLB⟩:=ex W5.heap.size;obtain⟨W6,hW6⟩:=ex (W5.alloc (.cells (madeCells #[.int .i64 0] s.nr) 3));have r6:W6.rowIs LB 3 s.nr (fun _=> .int .i64 0):=by rw [<-hW6, <-hLB];exact CV W5 (.int .i64 0) s.nr 3
 have k6:AJ W5 W6:=by rw [<-hW6];exact(kx_).alloc _
 rw [hW6,hLB];have R6:=Ae r6;have K6:=Ae k6;clear hW6 r6 k6;gi_loopw [12,36] (fun _ i wr=>∃k:Nat,k<=s.nr∧i= .int .i64 k∧AD (fun j=>j=LB) W6 wr∧wr.rowIs LB 3 s.nr (fun m=> .int .i64 (if m<k then(m:Int) else 0))) (fun _ i _=>s.nr - (intOf i).toNat);case atStart=>exact⟨0,by omega,rfl,kx_,R6.out⟩
 case round=>
  obtain⟨k,hk,rfl,kw,rw_⟩:=hrel;have KW:=Ae kw;have RW:=Ae rw_;clear kw rw_;by_cases hlt:k<s.nr
  . have q0:=RW.out.cell hlt;have fq:=RW.out.frozen k;gi_wp2;go_roundw;case rel=>exact⟨k+1,by omega,by go_num,KW.out.t (keeps_set _),(RW.out.set k (.int .i64 k)).congr fun i _=>by
     by_cases e:i=k
     . subst e;simp
     . rw [if_neg e];by_cases c:i<k
       . rw [if_pos c,if_pos (by omega)]
       . rw [if_neg c,if_neg (by omega)]⟩
    case measure=>simp [intOf];omega
  . have ek:k=s.nr:=by omega
    subst ek;have KY:AG (AJ W5 wr):=⟨K6.out.trans KW.out fun j hj (e:j=LB)=>by omega⟩;have R2:AG (Row wr LB 3 s.nr (fun i=> .int .i64 i)):=⟨(Row.of_is RW.out).congr fun i hi=>by rw [if_pos hi]⟩;have b0:=Ae (c0.out.keep KY.out id);have b1:=Ae (c1.out.keep KY.out id);have b2:=Ae (c2.out.keep KY.out id);have K7:=Ae (K5.out.then_ KY.out);have bL:=AF.new wr [.slice none 0 0] 136;have kL:=(nr wr).alloc (.cells #[.slice none 0 0] 136);have zz:=K7.out.size;have s0:(wr.alloc (.cells #[.slice none 0 0] 136)).cell? (w.heap.size 0)=some (.slice (some (v.cb 0)) s.nc v.cc):=(b0.out.keep kL id).cell 0;have s1:(wr.alloc (.cells #[.slice none 0 0] 136)).cell? (w.heap.size 1)=some (.slice (some (v.db 0)) s.nd v.dc):=(b0.out.keep kL id).cell 1;have s2:(wr.alloc (.cells #[.slice none 0 0] 136)).cell? (w.heap.size 2)=some (.slice (some (v.rb 0)) s.nr v.rc):=(b0.out.keep kL id).cell 2;have s3:(wr.alloc (.cells #[.slice none 0 0] 136)).cell? (w.heap.size 3)=some (.slice (some (v.vb 0)) s.nv v.vc):=(b0.out.keep kL id).cell 3;have f0:(wr.alloc (.cells #[.slice none 0 0] 136)).cell? ((w.heap.size+1) 0)=some (.slice (some (fb 0 0)) s.nd (fc 0)):=(b1.out.keep kL id).cell 0;have t0:(wr.alloc (.cells #[.slice none 0 0] 136)).cell? ((w.heap.size+1+1) 0)=some (.slice (some (tb 0 0)) s.nd (tc 0)):=(b2.out.keep kL id).cell 0;have f1:(wr.alloc (.cells #[.slice none 0 0] 136)).cell? ((w.heap.size+1) 1)=some (.slice (some (fb 1 0)) s.nc (fc 1)):=(b1.out.keep kL id).cell 1;have t1:(wr.alloc (.cells #[.slice none 0 0] 136)).cell? ((w.heap.size+1+1) 1)=some (.slice (some (tb 1 0)) s.nc (tc 1)):=(b2.out.keep kL id).cell 1;have f2:(wr.alloc (.cells #[.slice none 0 0] 136)).cell? ((w.heap.size+1) 2)=some (.slice (some (fb 2 0)) s.nr (fc 2)):=(b1.out.keep kL id).cell 2;have t2:(wr.alloc (.cells #[.slice none 0 0] 136)).cell? ((w.heap.size+1+1) 2)=some (.slice (some (tb 2 0)) s.nr (tc 2)):=(b2.out.keep kL id).cell 2;clear KW RW R6 K6;gi_wp2_with fail;obtain⟨LQ,hlb⟩:=ex wr.heap.size;obtain⟨W7,hW7⟩:=ex (wr.alloc (.cells #[.slice none 0 0] 136));rw [hW7,hlb] at bL;rw [hW7] at kL;rw [hW7,hlb];clear hW7 s0 s1 s2 s3 f0 f1 f2 t0 t1 t2;have K8:=K7.out.then_ kL;refine⟨trivial,rfl,(callsIn_wide.2 (Xc (fr:=fr) (tw:=tw) (ob:=fun j=>match j with | 0=>ob0 | 1=>ob1 | _=>LB) (obc:=fun j=>match j with | 0=>c3 | 1=>c5 | _=>s.nr) HS.out (HA.out.new K8) (fun j hj=>?rows) (fun j hj=>(HF.out j hj).keep K8 id) (fun j hj=>(HT.out j hj).keep K8 id))).mono ?_⟩;case rows=>
     match j,hj with
     | 0,_=>exact(R0.out.keep KY.out id).keep kL id
     | 1,_=>exact(R1.out.keep KY.out id).keep kL id
     | 2,_=>exact R2.out.keep kL id
    rintro z' W8 ⟨b,bs,rfl,k8,aa,rk⟩;have BL:=Ae (bL.keep k8 id);have AA:=Ae aa;have RK:=Ae rk;have K9:=Ae (K8.then_ k8);have sz:w.heap.size<=LQ:=by have:=K7.out.size;omega
    have sz9:=K9.out.size;have lq:=BL.out.lt;obtain⟨i0,KI,KZ0,KZ1,KZ2⟩:=ik_ YI;have LN:=Ae (EO HS.out fr tw);have SQ:=Ae (XT (v:=v) (fr:=fr) (tw:=tw) (b:=b) (bs:=bs) HS.out);obtain⟨L,hL⟩:=ex (Ax s fr tw);rw [hL] at LN SQ;have HL:=Ae hL;clear hL bL k8 aa rk kL K8 R0 R1 R2 b0 b1 b2 c0 c1 c2;gi_wp2_with fail;refine Ct (gf:=352) (lb:=b.lb) rfl (enters_of func352 (by kernel_rfl) rfl) SQ.out (fun i h=>by simp) (fun i X=>AD (fun j=>j=LQ) W8 X∧∃a c,AF X LQ 136 [.slice a i c]∧X.ownsRow W8.heap.size 278 4 (.slice a i c) i (CS (L.take i)))
     (fun i X Y h n=>?hI) (fun i X h=>⟨AA.out.far BL.out h.1,fun k hk=>(RK.out k hk).far BL.out rfl h.1⟩) ⟨kx_,none,0,BL.out,Gs⟩ ?rnd ?done
    case hI=>
     obtain⟨h1,a,c,h2,h3⟩:=h;exact⟨h1.trans n fun j hj d=>by have:=d.1;omega,a,c,h2.nc n,AW h3 n fun j hj d=>by
      obtain⟨_,o,ho,hc⟩:=d;rcases h3.2 with⟨e,_⟩ | ⟨g,c',cur,e,_,hg,_⟩
      . rw [e] at hj;cases hj
      . rw [e] at hj;injection hj with hj;subst hj;rw [hg] at ho;cases ho;cases hc⟩
    case rnd=>
     rintro r i hi X ⟨h1,a,c,h2,h3⟩;have hlen:i<L.length:=by simpa using hi
     obtain⟨q,hq⟩:∃q,L[i]?=some q:=⟨L[i],by simp [hlen]⟩;have he:(L.map fun q=> #[q.V])[i]= #[q.V]:=by have:=(G8.1 hq).2;simp [this]
     have TK:AG (CS (L.take (i+1))=CS (L.take i)++q.cells):=⟨by
      rw [List.take_succ_eq_append_getElem hlen,(G8.1 hq).2,CS,List.flatMap_append];simp [CS]⟩
     rw [he];have H1:=Ae h1;have H2:=Ae h2;have H3:=Ae h3;clear h1 h2 h3 he hq;gi_wp2_with fail;have bV:=AF.new X q.cells 278;have kV:=(nr X).alloc (.cells q.cells.toArray 278);obtain⟨X1,hX1⟩:=ex (X.alloc (.cells q.cells.toArray 278));rw [hX1] at bV kV ⊢;refine⟨kV,fun X2 n2=>?_⟩;have bV2:=bV.nc n2;have n3:=(FT kV (B:=W8.heap.size)).trans n2 fun j hj c=>by
      obtain⟨c1,o,c2,c3⟩:=c;exact⟨c1,o,(kV.block j hj id).symm.trans c2,c3⟩
     have h1:AD (fun j=>j=LQ) W8 X2:=H1.out.trans n3 fun j hj d=>by have:=d.1;omega
     have h2:=H2.out.nc n3;have h3:=AW H3.out n3 fun j hj d=>by
      obtain⟨_,o,ho,hc⟩:=d;rcases H3.out.2 with⟨e,_⟩ | ⟨g,c',cur,e,_,hg,_⟩
      . rw [e] at hj;cases hj
      . rw [e] at hj;injection hj with hj;subst hj;rw [hg] at ho;cases ho;cases hc
     have zx:=h1.size;have cL:=cv_ (.slice a i c) (h2.cell 0);have fL:=h2.frozen 0;have v0:=cv_ (.int .i64 (q.p:Int)) (bV2.cell 0);have v1:=cv_ (.int .i64 (msgOf q.p:Int)) (bV2.cell 1);have v2:=cv_ (.int .u32 (q.i:Int)) (bV2.cell 2);have v3:=cv_ (.int .u32 (q.x:Int)) (bV2.cell 3);have P1:=Ae h1;have P2:=Ae h2;have P3:=Ae h3;have iL:i<40:=by have:=LN.out;omega
     have QC:AG (∀j u,q.cells[j]?=some u->(X2.alloc (.cells q.cells.toArray 278)).cell? (((X2.heap.size 0):Addr).add j)=some u):=⟨fun j u hj=>by
      rw [Af,Ag,(AF.new X2 q.cells 278).cell j];exact hj⟩
     have Q1:AG (∀u ∈ q.cells,u.oneCell'=true):=⟨fun u hu=>by
      simp only [DX.cells,List.mem_cons,List.mem_nil_iff,or_false] at hu;rcases hu with rfl | rfl | rfl | rfl <;> rfl⟩
     clear hX1 bV kV bV2 n2 n3 h1 h2 h3;gi_wp2_with (gi_at_builtin;refine wpListIn_append_own _ rfl (.tmp 52) (.tmp 54) 136 rfl W8.heap.size 278 i0 _ 4 24 underlying136 KI.out KZ0.out KZ1.out KZ2.out rfl (by decide) _ _ _ rfl (P3.out.alloc _) (X2.heap.size 0) 1 1 q.cells rfl rfl QC.out Q1.out (by unfold maxLen;omega) (by omega) (by simp;omega) ?_;intro v' X3 own3 grow3 _;obtain⟨a',c',hv⟩:=AI own3;subst hv;have KO3:=Ae own3;have KG:AG (AD (fun j=>some j=(Value.slice a i c).ownBlock) X2 X3):=⟨((AD.refl _ X2).alloc _).grown grow3 (fun j e _=>e.symm)⟩;have nLQ:AG (¬some LQ=(Value.slice a i c).ownBlock):=⟨fun e=>by have:=(P3.out.lt LQ e.symm).1;omega⟩;have cL3:X3.cell? (LQ 0)=some (.slice a i c):=(P2.out.keep KG.out nLQ.out).cell 0;have fL3:=(P2.out.keep KG.out nLQ.out).frozen 0;clear own3 grow3);have kS:AD (fun j=>j=LQ) X3 (X3.setCell (LQ 0) (.slice a' (i+1) c')):=keeps_set _;have hrow:∀j,some j=(Value.slice a i c).ownBlock->∃cc,X2.heap[j]?=some (.cells cc 278 (0,0))∧W8.heap.size<=j:=fun j e=>by
      rcases P3.out.2 with⟨e',_⟩ | ⟨g,c',cur,e',hb,hg,_⟩
      . rw [e'] at e;cases e
      . rw [e'] at e;injection e with e;subst e;exact⟨cur,hg,hb⟩
     refine⟨⟨by have:=KG.out.size;simpa using this,fun k o hB hX ho=>?_⟩,(P1.out.trans KG.out fun j hj e=>by obtain⟨_,_,hb⟩:=hrow j e;omega).trans kS fun j _ e=>e,a',c',(P2.out.keep KG.out nLQ.out).set 0 _,?_⟩
     . refine(kS.block k (Bo (Ci.1 hX).1 KG.out.size) (fun(e:k=LQ)=>by omega)).trans ((KG.out.block k (Ci.1 hX).1 fun e=>?_).trans hX);obtain⟨cc,hg,_⟩:=hrow k e;rw [hg] at hX;injection hX with hX;subst hX;rcases ho with ho | ⟨c2,t2,r2,ht,ho⟩
       . cases ho
       . injection ho with _ ho;rcases ht with rfl | rfl | rfl <;> exact absurd ho (by decide)
     . rw [TK.out];exact AW KO3.out kS fun j hj (e:j=LQ)=>by have:=(KO3.out.lt j hj).1;omega
    case done=>
     rintro D Z hD ⟨h1,a,c,h2,h3⟩ hK;have cq:=cv_ (.slice a (L.map fun q=> #[q.V]).length c) (h2.cell 0);have H1:=Ae h1;have H3:=Ae h3;have HD:=Ae hD;have HK:=Ae hK;clear h1 h2 h3 hK;gi_wp2_with fail;refine Cc (B:=W8.heap.size) [D] _ _ ⟨rfl,fun r hr=>by rw [Dz.1 hr];exact⟨HD.out,HK.out⟩,by simp⟩ fun Y hY=>?_;have e1:(L.map fun q=> #[q.V]).length=L.length:=by simp
     have e2:L.take L.length=L:=List.take_length;have ho:=H3.out;rw [e1,e2] at ho;have ho2:=AW ho hY fun j hj d=>by
      obtain⟨_,o,ho',hc⟩:=d;rcases ho.2 with⟨e,_⟩ | ⟨g,c',cur,e,_,hg,_⟩
      . rw [e] at hj;cases hj
      . rw [e] at hj;injection hj with hj;subst hj;rw [hg] at ho';cases ho';cases hc
     refine⟨_,results_tmp rfl _ _ _,a,c,?_,(K9.out.trans H1.out fun j hj (e:j=LQ)=>by omega).trans hY fun j hj d=>by have:=d.1;omega,?_⟩
     . rw [HL.out];simp
     . rw [HL.out];exact Bw ho2 sz9
end
section
attribute [local go_sem] BI Fx
theorem Rt (q:DX) (tok:Nat) (hp:q.p<=255) (ht:tok<=1023):
 Calls prog 192 #[q.V, .int .i64 tok] w fun e w'=>∃g,e= .returned (.tuple #[.slice (some ⟨g,0,none⟩) 3 3, .int .i64 0])∧AJ w w'∧An w' g q.p tok q.i q.x∧w.heap.size<=g:=by
 obtain⟨p,i,x⟩:=q;dsimp only at hp;have hm:msgOf p<=255:=by unfold msgOf;split <;> omega
 obtain⟨m,hmm⟩:=ex (msgOf p);have HM:=Ae hmm;dsimp only [DX.V];rw [hmm] at hm ⊢;clear hmm;go_in;go_wp2_with fail;have kb:AJ w ((w.alloc (.cells #[.int .i64 p, .int .i64 m, .int .u32 i, .int .u32 x] 278)).alloc (.cells #[.int .u32 i, .int .u32 x] 37)):=((kx_).alloc _).alloc _;have bb:=AF.new (w.alloc (.cells #[.int .i64 p, .int .i64 m, .int .u32 i, .int .u32 x] 278)) [.int .u32 i, .int .u32 x] 37;rw [Ay] at bb;refine(W.command_ok m 0 p tok (m+1024*p+262144*tok) (some ((w.heap.size+1) 0)) 2 2 [.int .u32 i, .int .u32 x] _ ⟨fun e=>(by cases e),rfl,fun ad e _=>?_,fun ad e j u hj=>?_,fun u hu=>?_⟩ (by omega) hm (by omega) hp ht (by omega)).mono ?_
 . injection e with e;subst e;exact bb.lt
 . injection e with e;subst e;rw [Af,Ag,bb.cell];exact hj
 . simp only [m1,m0,or_false] at hu;rcases hu with rfl | rfl <;> rfl
 rintro e w2 ⟨g,rfl,ho,hb⟩;go_wp2;go_ret2;have hc:=World.ownsRow.cells ho (g:=g) rfl;have k2:=kb.then_ (JU hb);refine⟨g,rfl,k2,⟨(ho.lt g rfl).2,?_,?_,?_⟩,?_⟩
 . rw [HM.out];have:=hc 0 _ rfl;rwa [Af] at this
 . have:=hc 1 _ rfl;rwa [Af] at this
 . have:=hc 2 _ rfl;rwa [Af] at this
 . have:=(ho.lt g rfl).1;have:=kb.size;omega
def Ga (s:AE):Nat->Int->List Nat
 | 0,_=>[]
 | f+1,d=>if d<0 then [] else d.toNat::Ga s f (s.dm d.toNat).above
def PJ (s:AE) (k:Nat):Nat->Nat->Bool
 | 0,i=>decide (i ∈ Ga s s.nd ((s.dv k).dom:Int))
 | 1,i=>decide (i ∈ AU s s.nc (s.dv k).clock)&&(decide ((s.ck i).kind=112)||decide ((s.ck i).kind=103))
 | _,i=>decide (i=(s.dv k).line)
def Bh (s:AE) (act:Nat->Bool):Nat->Nat->Nat->Bool
 | 0,_,_=>false
 | k+1,j,i=>Bh s act k j i||(act k&&PJ s k j i)
def WantsP (w:World) (s:AE) (act:Nat->Bool) (e:Ending) (w':World):Prop:=
 ∃b0 b1 b2,e= .returned (.agg #[.slice (some ⟨b0,0,none⟩) s.nd s.nd, .slice (some ⟨b1,0,none⟩) s.nc s.nc, .slice (some ⟨b2,0,none⟩) s.nr s.nr])∧AJ w w'∧(Row w' b0 4 s.nd (fun i=> .bool (Bh s act s.nv 0 i))∧Row w' b1 4 s.nc (fun i=> .bool (Bh s act s.nv 1 i))∧Row w' b2 4 s.nr (fun i=> .bool (Bh s act s.nv 2 i)))∧
  (w.heap.size<=b0∧w.heap.size<=b1∧w.heap.size<=b2)∧b0≠b1∧b0≠b2∧b1≠b2
def Qh:Value->Nat
 | .slice (some a) _ _=>a.block
 | .pointer (some a)=>a.block
 | _=>0
def G9 (i:Nat):Prop:=i=3∨i=7∨i=11∨i=13
structure WJ (z:World) (done:Nat->Bool) (vals:Nat->Value) (W:World):Prop where
 k:AJ z W
 lt:∀i,G9 i->done i=true->z.heap.size<=Qh (vals i)∧Qh (vals i)<W.heap.size
 ne:∀i j,G9 i->G9 j->i≠j->done i=true->done j=true->Qh (vals i)≠Qh (vals j)
theorem Nm {z:World} {done:Nat->Bool} {vals:Nat->Value} (h:WJ z done vals W) {i:Nat} {v:Value} (hi:G9 i) (hv:Qh v=W.heap.size) (k:AJ W W') (hs:W.heap.size<W'.heap.size):WJ z (turn done i true) (turn vals i v) W':=by
 refine⟨h.k.then_ k,fun a ha hd=>?_,fun a b ha hb hne hda hdb=>?_⟩
 . by_cases e:a=i
   . subst e;rw [AQ,hv];exact⟨h.k.size,hs⟩
   . rw [turn_other _ _ e] at hd ⊢;have:=h.lt a ha hd;omega
 . by_cases e:a=i
   . subst e;have e2:b≠a:=fun e=>hne e.symm;rw [AQ,turn_other _ _ e2,hv];rw [turn_other _ _ e2] at hdb;have:=h.lt b hb hdb;omega
   . by_cases e2:b=i
     . subst e2;rw [AQ,turn_other _ _ e,hv];rw [turn_other _ _ e] at hda;have:=h.lt a ha hda;omega
     . rw [turn_other _ _ e,turn_other _ _ e2];rw [turn_other _ _ e] at hda;rw [turn_other _ _ e2] at hdb;exact h.ne a b ha hb hne hda hdb
theorem Kw (b n cap:Nat):∃a m c,Aa b n cap= .slice a m c:=by obtain⟨a,c,e⟩:=AO b n cap;exact⟨a,n,c,e⟩
theorem Y2 (f:Nat):Ga s f (-1)=[]:=by cases f <;> simp [Ga]
theorem WH (hs:s.Ok):∀ (f c:Nat),c<s.nc->∀u ∈ AU s f c,u<s.nc:=by
 intro f
 induction f with
 | zero=>intro c _ u h;cases h
 | succ f ih=>
  intro c hc u h;rw [AU] at h;rcases List.mem_cons.1 h with rfl | h
  . exact hc
  . split at h
    . cases h
    . rename_i hm;have:=(hs.ck c hc).less 0 (by omega);exact ih _ (by omega) u h
structure WR (W:World) (s:AE) (b0 b1 b2:Nat) (f:Nat->Nat->Bool):Prop where
 r0:Row W b0 4 s.nd (fun i=> .bool (f 0 i))
 r1:Row W b1 4 s.nc (fun i=> .bool (f 1 i))
 r2:Row W b2 4 s.nr (fun i=> .bool (f 2 i))
theorem LZ (hs:s.Ok) (ha:A6 w v s) (av:Value) (act:Nat->Bool)
 (has:∀X,AJ w X->∀i,i<s.nv->Calls prog 81 #[av, .int .i64 i] X fun e w'=>e= .returned (.bool (act i))∧w'=X):
 Calls prog 33 #[.agg #[.slice v.cb s.nc v.cc, .slice v.db s.nd v.dc, .slice v.rb s.nr v.rc, .slice v.vb s.nv v.vc],av] w (WantsP w s act):=by
 have HS:=Ae hs;have HA:=Ae ha;have HC:=Ae has;clear hs ha has;have n1:=HS.out.c2;have n2:=HS.out.d2;have n3:=HS.out.r2;have n4:=HS.out.v2;have hmc:=fun(W:World)=>run_make_row' (P:=prog) 115 4 (.bool false) 1 underlying115 GX rfl .i64 .i64 s.nc (by omega) (by omega) W;have hmd:=fun(W:World)=>run_make_row' (P:=prog) 115 4 (.bool false) 1 underlying115 GX rfl .i64 .i64 s.nd (by omega) (by omega) W;have hmr:=fun(W:World)=>run_make_row' (P:=prog) 115 4 (.bool false) 1 underlying115 GX rfl .i64 .i64 s.nr (by omega) (by omega) W;go_in;go_wp2_with fail;have B0:=(Aj (w:=w) s v).alloc (.cells #[.slice none 0 0, .slice none 0 0, .slice none 0 0] 117);have B1:=AF.new (w.alloc (.cells (BI v s) 30)) [.slice none 0 0, .slice none 0 0, .slice none 0 0] 117;rw [Ay] at B1;have k0:AJ w ((w.alloc (.cells (BI v s) 30)).alloc (.cells #[.slice none 0 0, .slice none 0 0, .slice none 0 0] 117)):=((kx_).alloc _).alloc _;obtain⟨W0,hW0⟩:=ex ((w.alloc (.cells (BI v s) 30)).alloc (.cells #[.slice none 0 0, .slice none 0 0, .slice none 0 0] 117));rw [hW0] at B0 B1 k0 ⊢;clear hW0;refine(CP HS.out (HA.out.new k0)).mono ?_;rintro z' W1 ⟨rfl,k1⟩;have K1:=Ae (k0.then_ k1);have b0:=Ae (B0.keep k1 id);have b1:=Ae (B1.keep k1 id);clear B0 B1 k0 k1;go_wp2_with fail;have SNK:AG (∀w',AJ W1.drew w'->w'.cell? (w.heap.size 0)=some (.slice v.cb s.nc v.cc)∧w'.cell? (w.heap.size 1)=some (.slice v.db s.nd v.dc)∧w'.cell? (w.heap.size 2)=some (.slice v.rb s.nr v.rc)):=⟨fun w' kk=>by
  have c:=b0.out.drew.keep kk id;exact⟨c.cell 0,c.cell 1,c.cell 2⟩⟩
 refine rh_ (fun w'=>w'.cell? (w.heap.size 0)=some (.slice v.cb s.nc v.cc)∧w'.cell? (w.heap.size 1)=some (.slice v.db s.nd v.dc)∧w'.cell? (w.heap.size 2)=some (.slice v.rb s.nr v.rc)) (SNK.out _ (kx_)) (fun hE=>?_);refine tk 0 hE ?_;refine tk 1 hE ?_;refine tk 2 hE ?_;refine tk 4 hE ?_;refine tk 5 hE ?_;refine tk 6 hE ?_;refine tk 8 hE ?_;refine tk 9 hE ?_;refine tk 10 hE ?_;clear hE;change wpAnyH _ _ _ _ _ (([3,7,11,12,13]:List Nat).length+1) _ _ W1.drew
 refine JZ [3,7,11,12,13] (fun i vals W=>match i with
  | 3=>∃b,vals 3= .slice (some ⟨b,0,none⟩) s.nd s.nd∧W.rowIs b 4 s.nd (fun _=> .bool false)
  | 7=>∃b,vals 7= .slice (some ⟨b,0,none⟩) s.nc s.nc∧W.rowIs b 4 s.nc (fun _=> .bool false)
  | 11=>∃b,vals 11= .slice (some ⟨b,0,none⟩) s.nr s.nr∧W.rowIs b 4 s.nr (fun _=> .bool false)
  | 12=>vals 12= .agg #[vals 3,vals 7,vals 11]
  | _=>∃b,vals i= .pointer (some ⟨b,0,none⟩)∧AF W b 117 [.slice none 0 0, .slice none 0 0, .slice none 0 0])
  (WJ W1.drew) (fun i W W'=>AJ W W') (by kernel_rfl) (by kernel_rfl) (by kernel_rfl) (by kernel_rfl) (by kernel_rfl) ⟨kx_,fun _ _ h=>(by cases h),fun _ _ _ _ _ h=>(by cases h)⟩ ?lstep ?lstab ?lcong ?lfin
 case lstep=>
  intro i hi o ho done vals ρ W hdn hJ hd hf;simp only [m1,m0,or_false] at hi;rcases hi with rfl | rfl | rfl | rfl | rfl
  . cases ho;intro a' K Q ha hK;have e18:=th_ (.int .i64 s.nd) ha hf 18;clear ha;go_simp;have k2:=(nr W).alloc (.cells (madeCells #[.bool false] s.nd) 4);exact hK _ _ ⟨k2,Nm hJ (by unfold G9;omega) rfl k2 (by simp),SNK.out _ (hJ.k.then_ k2),W.heap.size,Ap,CV W (.bool false) s.nd 4⟩
  . cases ho;intro a' K Q ha hK;have e22:=th_ (.int .i64 s.nc) ha hf 22;clear ha;go_simp;have k2:=(nr W).alloc (.cells (madeCells #[.bool false] s.nc) 4);exact hK _ _ ⟨k2,Nm hJ (by unfold G9;omega) rfl k2 (by simp),SNK.out _ (hJ.k.then_ k2),W.heap.size,Ap,CV W (.bool false) s.nc 4⟩
  . cases ho;intro a' K Q ha hK;have e26:=th_ (.int .i64 s.nr) ha hf 26;clear ha;go_simp;have k2:=(nr W).alloc (.cells (madeCells #[.bool false] s.nr) 4);exact hK _ _ ⟨k2,Nm hJ (by unfold G9;omega) rfl k2 (by simp),SNK.out _ (hJ.k.then_ k2),W.heap.size,Ap,CV W (.bool false) s.nr 4⟩
  . cases ho;obtain⟨⟨b1,v1,_⟩,d1⟩:=he_ hd 3;obtain⟨⟨b2,v2,_⟩,d2⟩:=he_ hd 7;obtain⟨⟨b3,v3,_⟩,d3⟩:=he_ hd 11;intro a' K Q ha hK;subst ha;have e1:=et ((d1 19 rfl).trans v1);have e2:=et ((d2 23 rfl).trans v2);have e3:=et ((d3 27 rfl).trans v3);go_simp;have hne:∀i,G9 i->i≠12:=fun i h=>by unfold G9 at h;omega
    refine hK _ _ ⟨kx_,⟨hJ.k,fun i hi hd=>?_,fun i j hi hj hn h1 h2=>?_⟩,SNK.out _ hJ.k,?_⟩
    . rw [turn_other _ _ (hne i hi)] at hd ⊢;exact hJ.lt i hi hd
    . rw [turn_other _ _ (hne i hi)] at h1 ⊢;rw [turn_other _ _ (hne j hj)] at h2 ⊢;exact hJ.ne i j hi hj hn h1 h2
    . refine(Ap).trans ?_;rw [turn_other _ _ (by decide:(3:Nat)≠12),turn_other _ _ (by decide:(7:Nat)≠12),turn_other _ _ (by decide:(11:Nat)≠12),v1,v2,v3]
  . cases ho;intro a' K Q ha hK;clear ha;go_simp;have k2:=(nr W).alloc (.cells #[.slice none 0 0, .slice none 0 0, .slice none 0 0] 117);exact hK _ _ ⟨k2,Nm hJ (by unfold G9;omega) rfl k2 (by simp),SNK.out _ (hJ.k.then_ k2),W.heap.size,Ap,AF.new _ _ _⟩
 case lstab=>
  intro k' hk' i hi hne hw vals W W' hR;simp only [m1,m0,or_false] at hk';rcases hk' with rfl | rfl | rfl | rfl | rfl
  . exact fun⟨p,h1,h3⟩=>⟨p,h1,rowIs_keep h3 hR id⟩
  . exact fun⟨p,h1,h3⟩=>⟨p,h1,rowIs_keep h3 hR id⟩
  . exact fun⟨p,h1,h3⟩=>⟨p,h1,rowIs_keep h3 hR id⟩
  . exact fun h=>h
  . exact fun⟨p,h1,h3⟩=>⟨p,h1,h3.keep hR id⟩
 case lcong=>
  intro k' hk' vals vals' W he hd;simp only [m1,m0,or_false] at hk';rcases hk' with rfl | rfl | rfl | rfl | rfl
  . exact fun⟨p,h1,h2⟩=>⟨p,he.symm.trans h1,h2⟩
  . exact fun⟨p,h1,h2⟩=>⟨p,he.symm.trans h1,h2⟩
  . exact fun⟨p,h1,h2⟩=>⟨p,he.symm.trans h1,h2⟩
  . have h4:=he_ hd 3;have h8:=he_ hd 7;have h12:=he_ hd 11;exact fun h=>he.symm.trans (h.trans (by rw [h4,h8,h12]))
  . exact fun⟨p,h1,h2⟩=>⟨p,he.symm.trans h1,h2⟩
 case lfin=>
  intro done vals W hdn hJ hv;obtain⟨b0',e3,r3⟩:=Jh hv 3;obtain⟨b1',e7,r7⟩:=Jh hv 7;obtain⟨b2',e11,r11⟩:=Jh hv 11;have e12:=Jh hv 12;obtain⟨A,e13,rA⟩:=Jh hv 13;have d3:=hdn 3 (by decide);have d7:=hdn 7 (by decide);have d11:=hdn 11 (by decide);have d13:=hdn 13 (by decide);have m3:G9 3:=by unfold G9;omega
  have m7:G9 7:=by unfold G9;omega
  have m11:G9 11:=by unfold G9;omega
  have m13:G9 13:=by unfold G9;omega
  have NE:AG (b0'≠b1'∧b0'≠b2'∧b1'≠b2'∧b0'≠A∧b1'≠A∧b2'≠A):=⟨by
   have h1:=hJ.ne 3 7 m3 m7 (by omega) d3 d7;have h2:=hJ.ne 3 11 m3 m11 (by omega) d3 d11;have h3:=hJ.ne 7 11 m7 m11 (by omega) d7 d11;have h4:=hJ.ne 3 13 m3 m13 (by omega) d3 d13;have h5:=hJ.ne 7 13 m7 m13 (by omega) d7 d13;have h6:=hJ.ne 11 13 m11 m13 (by omega) d11 d13;rw [e3,e7] at h1;rw [e3,e11] at h2;rw [e7,e11] at h3;rw [e3,e13] at h4;rw [e7,e13] at h5;rw [e11,e13] at h6;exact⟨h1,h2,h3,h4,h5,h6⟩⟩
  have LE:AG (W1.heap.size<=b0'∧W1.heap.size<=b1'∧W1.heap.size<=b2'∧W1.heap.size<=A):=⟨by
   have h1:=(hJ.lt 3 m3 d3).1;have h2:=(hJ.lt 7 m7 d7).1;have h3:=(hJ.lt 11 m11 d11).1;have h4:=(hJ.lt 13 m13 d13).1;rw [e3] at h1;rw [e7] at h2;rw [e11] at h3;rw [e13] at h4;exact⟨h1,h2,h3,h4⟩⟩
  rw [e3,e7,e11] at e12;simp only [Am,AR,dstOf,De,Bl,Bk,CM,pu,s0,s1,if_true];rw [e12,e13,e3,e7,e11];have RA:=Ae rA;have R3:=Ae r3;have R7:=Ae r7;have R11:=Ae r11;have KJ:=Ae hJ.k;have cA0:=rA.z 0;have cA1:=rA.z 1;have cA2:=rA.z 2;have fA0:=rA.frozen 0;have fA1:=rA.frozen 1;have fA2:=rA.frozen 2;clear e3 e7 e11 e12 e13 r3 r7 r11 rA hJ hv hdn d3 d7 d11 d13 m3 m7 m11 m13 vals done;generalize b0'=x0 at*;generalize b1'=x1 at*;generalize b2'=x2 at*;refine oN_ 14 (fun w2=>w2=((W.setCell (A 0) (.slice x0 s.nd s.nd)).setCell (A 1) (.slice x1 s.nc s.nc)).setCell (A 2) (.slice x2 s.nr s.nr)) ?sg ?sn;case sg=>
   intro a' K Q ha hK;have e5:=te ha 5;have e28:=te ha 28;clear ha;go_simp;exact hK undef _ rfl
  case sn=>
  rintro w2 hw2;have kA:AD (fun j=>j=A) W w2:=by rw [hw2];exact((keeps_set _).t (keeps_set _)).t (keeps_set _)
  have bA:AF w2 A 117 [.slice x0 s.nd s.nd, .slice x1 s.nc s.nc, .slice x2 s.nr s.nr]:=by rw [hw2];exact((RA.out.set 0 _).set 1 _).set 2 _
  have kW:AJ W1.drew w2:=KJ.out.trans kA fun j hj (e:j=A)=>by have h:j<W1.heap.size:=hj;have:=LE.out.2.2.2;omega
  refine⟨SNK.out _ kW,by kernel_rfl,?_⟩;have KW:AG (AJ w w2):=⟨K1.out.then_ (AD.then_ (AD.drew (AD.refl _ W1)) kW)⟩;have WR0:AG (WR w2 s x0 x1 x2 (Bh s act 0)):=⟨Row.of_is (rowIs_keep R3.out kA NE.out.2.2.2.1),Row.of_is (rowIs_keep R7.out kA NE.out.2.2.2.2.1),Row.of_is (rowIs_keep R11.out kA NE.out.2.2.2.2.2)⟩;have SB:AG (BJ w2 w.heap.size s v):=⟨b0.out.drew.keep kW id⟩;have RB:AG (AF w2 (w.heap.size+1) 117 [.slice none 0 0, .slice none 0 0, .slice none 0 0]):=⟨b1.out.drew.keep kW id⟩;have BA:=Ae bA;have zz:=K1.out.size;have z1:=b1.out.lt;clear hw2 kA bA kW cA0 cA1 cA2 fA0 fA1 fA2 RA R3 R7 R11 KJ b0 b1 SNK hmc hmd hmr;have s3:=SB.out.z 3;go_wp2_with fail;clear s3;go_loopw [32] (fun i wr=>∃k:Nat,k<=s.nv∧i= .int .i64 k∧AD (fun j=>j=x0∨j=x1∨j=x2) w2 wr∧WR wr s x0 x1 x2 (Bh s act k)) (fun i _=>s.nv - (intOf i).toNat);case atStart=>exact⟨0,by omega,rfl,kx_,WR0.out⟩
  case round=>
   obtain⟨k,hk,rfl,kw,rw_⟩:=hrel;obtain⟨wo,rfl⟩:∃wo,wo=wr:=⟨_,rfl⟩;have KR:=Ae kw;have RW:=Ae rw_;obtain⟨ne01,ne02,ne12,neA0,neA1,neA2⟩:=NE.out;obtain⟨le0,le1,le2,leA⟩:=LE.out;have KN:AG (AJ w wo):=⟨KW.out.trans kw fun j hj e=>by omega⟩;have sb:=SB.out.keep kw (by omega);have ba:=BA.out.keep kw (by omega);have SBW:=Ae sb;have BAW:=Ae ba;have RBW:=Ae (RB.out.keep kw (by omega));clear kw rw_ sb ba;by_cases hlt:k<s.nv
   . have R3:=HA.out.new KN.out;obtain⟨g4,hg4⟩:=ex (Aa (v.gb k) (s.dv k).nreg (v.gc k));obtain⟨g5,hg5⟩:=ex (Aa (v.qb k) (s.dv k).nneed (v.qc k));have f4:∃a n c,g4= .slice a n c:=by rw [<-hg4];exact Kw _ _ _
     have f5:∃a n c,g5= .slice a n c:=by rw [<-hg5];exact Kw _ _ _
     obtain⟨a4,n4',c4,rfl⟩:=f4;obtain⟨a5,n5',c5,rfl⟩:=f5;have d0:wo.cell? (v.vb (k*6))=some (.int .i64 ((s.dv k).clock:Int)):=R3.dv.cell k 0 hlt (by omega);have d1:wo.cell? (v.vb (k*6+1))=some (.int .i64 ((s.dv k).dom:Int)):=R3.dv.cell k 1 hlt (by omega);have d2:wo.cell? (v.vb (k*6+2))=some (.int .i64 ((s.dv k).line:Int)):=R3.dv.cell k 2 hlt (by omega);have d3:wo.cell? (v.vb (k*6+3))=some (.int .u32 (s.dv k).clamp):=R3.dv.cell k 3 hlt (by omega);have d4:wo.cell? (v.vb (k*6+4))=some (.slice a4 n4' c4):=(R3.dv.cell k 4 hlt (by omega)).trans (congrArg some hg4);have d5:wo.cell? (v.vb (k*6+5))=some (.slice a5 n5' c5):=(R3.dv.cell k 5 hlt (by omega)).trans (congrArg some hg5);obtain⟨ck,hck⟩:=ex ((s.dv k).clock);obtain⟨dm,hdm⟩:=ex ((s.dv k).dom);obtain⟨ln,hln⟩:=ex ((s.dv k).line);obtain⟨cl,hcl⟩:=ex ((s.dv k).clamp);have bc:=HS.out.clock k hlt;have bd:=HS.out.dom k hlt;have bl:=HS.out.line k hlt;rw [hck] at d0 bc;rw [hdm] at d1 bd;rw [hln] at d2 bl;rw [hcl] at d3;have HK:=Ae (And.intro hck (And.intro hdm hln));clear R3 hg4 hg5 hck hdm hln hcl;go_wp2_with fail;have bD:=AF.new wo [.int .i64 ck, .int .i64 dm, .int .i64 ln, .int .u32 cl, .slice a4 n4' c4, .slice a5 n5' c5] 40;have kD:=(nr wo).alloc (.cells #[.int .i64 ck, .int .i64 dm, .int .i64 ln, .int .u32 cl, .slice a4 n4' c4, .slice a5 n5' c5] 40);obtain⟨Wd,hWd⟩:=ex (wo.alloc (.cells #[.int .i64 ck, .int .i64 dm, .int .i64 ln, .int .u32 cl, .slice a4 n4' c4, .slice a5 n5' c5] 40));rw [hWd] at bD kD ⊢;clear hWd d0 d1 d2 d3 d4 d5;have KD:=Ae kD;have BD:=Ae bD;clear kD bD;obtain⟨ac,hac⟩:=ex (act k);have AC:=Ae hac;refine(HC.out Wd (KN.out.then_ KD.out) k hlt).mono ?_;rintro e w' ⟨rfl,rfl⟩;rw [hac];clear hac;cases ac
     . go_wp2;go_roundw;case rel=>exact⟨k+1,by omega,by go_num,(KR.out.then_ (KD.out.mono fun _ e=>e.elim)),⟨RW.out.r0.keep KD.out id |>.congr fun i _=>by simp [Bh,AC.out],RW.out.r1.keep KD.out id |>.congr fun i _=>by simp [Bh,AC.out],RW.out.r2.keep KD.out id |>.congr fun i _=>by simp [Bh,AC.out]⟩⟩
       case measure=>simp [intOf];omega
     . have z2:=KR.out.size;have z3:=BA.out.lt;have z4:=WR0.out.r0.lt;have z5:=WR0.out.r1.lt;have z6:=WR0.out.r2.lt;have e1:=BD.out.z 1;go_wp2_with fail;clear e1;obtain⟨F,hF⟩:=ex (Bh s act k);have RW:=Ae (show WR w' s x0 x1 x2 F from hF ▸ ⟨RW.out.r0.keep KD.out id,RW.out.r1.keep KD.out id,RW.out.r2.keep KD.out id⟩);go_loopw [8] (fun i wr2=>∃ (P:List Nat) (f:Nat) (d:Int),Ga s s.nd (dm:Int)=P++Ga s f d∧d<f∧ -1<=d∧d<s.nd∧i= .int .i64 d∧AD (fun j=>j=x0) w' wr2∧Row wr2 x0 4 s.nd (fun i=> .bool (F 0 i||decide (i ∈ P)))) (fun i _=>(intOf i+1).toNat);case atStart=>exact⟨[],s.nd,dm,rfl,by omega,by omega,by omega,rfl,kx_,RW.out.r0.congr fun i _=>by simp⟩
       case round=>
        obtain⟨P,f,d,eq,hf,h1,h2,rfl,kq,rq⟩:=hrel;obtain⟨wr2,rfl⟩:∃wr2,wr2=wr:=⟨_,rfl⟩;have EQ:=Ae eq;have KQ:=Ae kq;have RQ:=Ae rq;clear eq kq rq;have zq:=KQ.out.size;have zd:=KD.out.size;have sb:=(SBW.out.keep KD.out id).keep KQ.out (by omega);have ba:=(BAW.out.keep KD.out id).keep KQ.out (by omega);have bd2:=BD.out.keep KQ.out (by omega);have KNQ:AG (AJ w wr2):=⟨(KN.out.then_ KD.out).trans KQ.out fun j hj (e:j=x0)=>by omega⟩;by_cases hd:d= -1
        . subst hd;have e0:=bd2.z 0;have s0:=sb.z 0;have s1:=sb.z 1;have s2:=sb.z 2;have s3:=sb.z 3;have EP:AG (Ga s s.nd (dm:Int)=P):=⟨by rw [EQ.out,Y2,List.append_nil]⟩;have SB2:=Ae sb;have BA2:=Ae ba;have BD2:=Ae bd2;have CL:=Ae (WH HS.out s.nc ck bc);have CN:=I1 (s:=s) s.nc ck;clear EQ hf h1 h2 sb ba bd2;go_wp2_with fail;refine(Gh HS.out (HA.out.new KNQ.out) ck bc).mono ?_;rintro e W3 ⟨a,cap,rfl,k3,o3⟩;obtain⟨L,hL⟩:=ex (AU s s.nc ck);have HL:=Ae hL;rw [hL] at o3 CL CN ⊢;clear hL s0 s1 s2 s3 e0;have K3:=Ae k3;have O3:=Ae o3;have z33:=k3.size;have zx1:=WR0.out.r1.lt;have zkr:=KR.out.size;have R1:=Ae ((RW.out.r1.keep KQ.out (fun e=>ne01 e.symm)).keep k3 id);clear k3 o3;go_wp2;go_loopw [60] (fun i wq=>∃q:Nat,q<=L.length∧i= .int .i64 q∧AD (fun j=>j=x1) W3 wq∧Row wq x1 4 s.nc (fun i=> .bool (F 1 i||(decide (i ∈ L.take q)&&(decide ((s.ck i).kind=112)||decide ((s.ck i).kind=103)))))) (fun i _=>L.length - (intOf i).toNat);case atStart=>exact⟨0,by omega,rfl,kx_,R1.out.congr fun i _=>by simp⟩
          case round=>
           obtain⟨q,hq,rfl,kq,rq⟩:=hrel;obtain⟨wr3,rfl⟩:∃wr3,wr3=wr:=⟨_,rfl⟩;have KQ2:=Ae kq;have RQ2:=Ae rq;clear kq rq;have zq2:=KQ2.out.size;have KNW:AG (AJ w wr3):=⟨(KNQ.out.then_ K3.out).trans KQ2.out fun j hj (e:j=x1)=>by omega⟩;have sb:=(SB2.out.keep K3.out id).keep KQ2.out (by omega);have ba:=(BA2.out.keep K3.out id).keep KQ2.out (by omega);have bd2:=(BD2.out.keep K3.out id).keep KQ2.out (by omega);by_cases hlq:q<L.length
           . have ho:=O3.out;obtain⟨g,cx,hv,hb5,hg5⟩:=ho.form (by omega);injection hv with e1 e2 e3;subst e1;have hc:=World.ownsRow.cells ho (g:=g) rfl q (.int .i64 ((L[q]:Nat):Int)) (by simp [Il,hlq]);rw [Af,Ag] at hc;have b0:wr3.cell? (g q)=some (Value.int .i64 ((L[q]:Nat):Int)):=(KQ2.out.cell (p:=(g q)) hg5 (by show¬g=x1;omega)).trans hc;have hu:=CL.out _ (List.getElem_mem hlq);have TK:AG (L.take (q+1)=L.take q++[L[q]]):=⟨by rw [List.take_succ_eq_append_getElem hlq]⟩;obtain⟨u,huu⟩:=ex (L[q]);rw [huu] at b0 hu TK;have kc:wr3.cell? (v.cb (u*6))=some (.int .u8 (s.ck u).kind):=(HA.out.new KNW.out).ck.cell u 0 hu (by omega);have s0:=sb.z 0;have a1:=ba.z 1;have q0:=RQ2.out.cell hu;have fq:=RQ2.out.frozen u;obtain⟨kd,hkd⟩:=ex ((s.ck u).kind);rw [hkd] at kc;have HKD:=Ae hkd;clear ho hc huu e2 e3 sb ba bd2 hkd;by_cases h1:kd=112
             . subst h1;go_wp2;go_roundw;case rel=>exact⟨q+1,by omega,by go_num,KQ2.out.t (keeps_set _),(RQ2.out.set u (.bool true)).congr fun i _=>by rw [TK.out];by_cases e:i=u <;> simp [e,HKD.out]⟩
               case measure=>simp [intOf];omega
             . by_cases h2:kd=103
               . subst h2;go_wp2;go_roundw;case rel=>exact⟨q+1,by omega,by go_num,KQ2.out.t (keeps_set _),(RQ2.out.set u (.bool true)).congr fun i _=>by rw [TK.out];by_cases e:i=u <;> simp [e,HKD.out]⟩
                 case measure=>simp [intOf];omega
               . have H1:=Ae h1;have H2:=Ae h2;have hb1:(kd==112)=false:=by simp [h1]
                 have hb2:(kd==103)=false:=by simp [h2]
                 go_wp2;go_roundw;case rel=>exact⟨q+1,by omega,by go_num,KQ2.out,RQ2.out.congr fun i _=>by rw [TK.out];by_cases e:i=u <;> simp [e,HKD.out,H1.out,H2.out]⟩
                 case measure=>simp [intOf];omega
           . have EQL:=Ae (show q=L.length by omega);have a2:=ba.z 2;have e2:=bd2.z 2;have R2':=((RW.out.r2.keep KQ.out (fun e=>ne02 e.symm)).keep K3.out id).keep KQ2.out (fun e=>ne12 e.symm);have q0:=R2'.cell bl;have fq:=R2'.frozen ln;have RR2:=Ae R2';clear sb ba bd2 R2';go_wp2;go_roundw;case rel=>
              obtain⟨k1,k2,k3⟩:=HK.out;have kall:AD (fun j=>j=x0∨j=x1∨j=x2) w2 (wr3.setCell (x2 ln) (.bool true)):=
               ((((KR.out.then_ (KD.out.mono fun _ e=>e.elim)).then_ (KQ.out.mono fun _ e=> .inl e)).then_ (K3.out.mono fun _ e=>e.elim)).then_ (KQ2.out.mono fun _ e=> .inr (.inl e))).trans (keeps_set _) fun j _ e=> .inr (.inr e)
              have kx:AD (fun j=>j=x2) wr3 (wr3.setCell (x2 ln) (.bool true)):=keeps_set _;refine⟨k+1,by omega,by go_num,kall,((((RQ.out.keep K3.out id).keep KQ2.out ne01).keep kx ne02).congr fun i _=>?_),((RQ2.out.keep kx ne12).congr fun i _=>?_),((RR2.out.set ln (.bool true)).congr fun i _=>?_)⟩
              . simp only [Bh,PJ,hF,AC.out,k2,EP.out,Bool.true_and]
              . simp only [Bh,PJ,hF,AC.out,k1,HL.out,EQL.out,List.take_length,Bool.true_and]
              . simp only [Bh,PJ,hF,AC.out,k3,Bool.true_and];by_cases e:i=ln <;> simp [e]
             case measure=>simp [intOf];omega
        . obtain⟨n,rfl⟩:∃n:Nat,d=(n:Int):=⟨d.toNat,by omega⟩;obtain⟨f,rfl⟩:∃f',f=f'+1:=⟨f - 1,by omega⟩;have hn:n<s.nd:=by omega
          have ab:=(HS.out.dm n hn).above;have s1:=sb.z 1;have a0:=ba.z 0;have ca:wr2.cell? (v.db (n*3))=some (.int .i64 (s.dm n).above):=(HA.out.new KNQ.out).dm.cell n 0 hn (by omega);have q0:=RQ.out.cell hn;have fq:=RQ.out.frozen n;have EN:AG (Ga s s.nd (dm:Int)=(P++[n])++Ga s f (s.dm n).above):=⟨by rw [EQ.out,Ga,if_neg (by omega)];simp⟩;have hdb:¬v.db=x0:=by have:=HA.out.dm.lt;omega
          have hsb:¬w.heap.size=x0:=by omega
          obtain⟨y,hy⟩:=ex ((s.dm n).above);rw [hy] at ab ca EN;clear EQ hy sb ba bd2;go_wp2;go_roundw;case rel=>exact⟨P++[n],f,y,EN.out,by omega,by omega,by omega,by first | rfl | trivial,KQ.out.t (keeps_set _),(RQ.out.set n (.bool true)).congr fun i _=>by by_cases e:i=n <;> simp [e]⟩
          case measure=>simp [intOf];omega
   . have ek:k=s.nv:=by omega
     subst ek;have a0:=BAW.out.z 0;have a1:=BAW.out.z 1;have a2:=BAW.out.z 2;have r0:=RBW.out.z 0;have r1:=RBW.out.z 1;have r2:=RBW.out.z 2;have q0:=RBW.out.frozen 0;have q1:=RBW.out.frozen 1;have q2:=RBW.out.frozen 2;go_wp2_with fail;have ks:AD (fun j=>j=w.heap.size+1) wo (((wo.setCell ((w.heap.size+1) 0) (.slice x0 s.nd s.nd)).setCell ((w.heap.size+1) 1) (.slice x1 s.nc s.nc)).setCell ((w.heap.size+1) 2) (.slice x2 s.nr s.nr)):=((keeps_set _).t (keeps_set _)).t (keeps_set _);have bb:=((RBW.out.set 0 (.slice x0 s.nd s.nd)).set 1 (.slice x1 s.nc s.nc)).set 2 (.slice x2 s.nr s.nr);have z0:=bb.cell 0;have z1':=bb.cell 1;have z2':=bb.cell 2;refine bodyPost_ret (v:= .agg #[.slice x0 s.nd s.nd, .slice x1 s.nc s.nc, .slice x2 s.nr s.nr]) (by simp [results,results33,go_sem,z0,z1',z2',neA0]) rfl ?_;exact⟨x0,x1,x2,rfl,KN.out.trans ks (fun j hj (e:j=w.heap.size+1)=>by omega),⟨RW.out.r0.keep ks (show¬x0=w.heap.size+1 by omega),RW.out.r1.keep ks (show¬x1=w.heap.size+1 by omega),RW.out.r2.keep ks (show¬x2=w.heap.size+1 by omega)⟩,⟨by omega,by omega,by omega⟩,ne01,ne02,ne12⟩
end
end Go.Proofs.YtpekoejdnhaohaaGreatDoor
