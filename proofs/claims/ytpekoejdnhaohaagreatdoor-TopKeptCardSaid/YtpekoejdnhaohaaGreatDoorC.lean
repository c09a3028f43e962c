/- What find, Held, Release and Tick of the reset lines compute. For every row of lines in memory. -/
import Derived.Maps.OwnOps
import Derived.Maps.OwnSet
import Derived.Maps.Views
import Derived.IntWalk
import Derived.WalkArith
import Derived.StillTailTactics
import Derived.Test.YtpekoejdnhaohaaGreatDoorA
namespace Go.Proofs.YtpekoejdnhaohaaGreatDoor
open Go.RowKit Tryz
set_option maxRecDepth 100000
set_option maxHeartbeats 40000000
set_option linter.all false
variable {D:DataW Unit} {least left:Int} {L i m mb n:Nat} {w w':World}
structure Ln where
 least:Int
 left:Int
 held:Bool
 wanted:Bool
abbrev II (l:Ln):Value:= .agg #[.int .i64 l.least, .int .i64 l.left, .bool l.held, .bool l.wanted]
def lnDat (l:Ln):DataW Unit:= .agg [.lit (.int .i64 l.least), .lit (.int .i64 l.left), .lit (.bool l.held), .lit (.bool l.wanted)]
def Tr (l:List Value):Option (DataW Unit × List MemPlace):=
 match l with
 | [.int .i64 a, .int .i64 b, .bool c, .bool d]=>some (lnDat ⟨a,b,c,d⟩,[])
 | _=>none
def CT (v:Value):Option (DataW Unit × List MemPlace):=
 match v with
 | .agg cs=>Tr cs.toList
 | _=>none
theorem Cn (l:Ln):CT (II l)=some (lnDat l,[]):=rfl
theorem FU {v:Value} {l:Ln} {ps:List MemPlace} (h:CT v=some (lnDat l,ps)):v=II l:=by
 unfold CT at h;split at h
 . rename_i cs;unfold Tr at h;split at h
   . rename_i a b c d e;simp only [Option.some.injEq,Prod.mk.injEq,lnDat,DataW.agg.injEq,List.cons.injEq,DataW.lit.injEq,Lit.int.injEq,Lit.bool.injEq] at h;obtain⟨⟨⟨_,rfl⟩,⟨_,rfl⟩,rfl,rfl,_⟩,_⟩:=h;have:cs= #[.int .i64 l.least, .int .i64 l.left, .bool l.held, .bool l.wanted]:=by
      apply Array.ext';exact e
     rw [this]
   . cases h
 . cases h
def lk (i:Nat):Lit:= .int .i64 i
theorem Ja {j:Nat} (h:i≠j):lk i≠lk j:=fun e=>h (by unfold lk at e;injection e with _ e;omega)
theorem GV (i:Nat):WideAt.IsKeyLit (lk i):=by unfold lk;exact trivial
theorem lk_wf (h:i<=1000000):(Lit.int .i64 i).wf=true:=WalkArith.wf_i64 (by omega)
theorem Ej (h:i<=1000000):keyOf prog 3 (.int .i64 i)=some (lk i):=Maps.keyOf_int_mk underlying3 (lk_wf h)
structure Wa (D:DataW Unit) (n:Nat) (ls:Nat->Ln):Prop where
 tidy:Maps.Tidy D
 size:Maps.size D=n
 has:∀i,i<n->Maps.has D (lk i)=true
 look:∀i,i<n->∀z,D.atKey (lk i) z=lnDat (ls i)
theorem Wa.put {ls:Nat->Ln} (h:Wa D n ls) (i:Nat) (hi:i<n) (l:Ln):Wa (D.put (lk i) (lnDat l)) n (upd ls i l):=by
 obtain⟨es,he,hp⟩:=h.tidy;have hm:Maps.IsMap D:=⟨es,he⟩;refine⟨h.tidy.put (GV i) _,by rw [Maps.size_put h.tidy,if_pos (h.has i hi)];exact h.size,fun j hj=>?_,fun j hj z=>?_⟩
 . by_cases e:j=i
   . subst e;exact Maps.has_put_same hm (GV _) _
   . rw [Maps.has_put_other (Ja e)];exact h.has j hj
 . by_cases e:j=i
   . subst e;rw [Maps.atKey_put_same hm (GV _),upd_same]
   . rw [Maps.atKey_put_other (Ja e),uo_ e];exact h.look j hj z
theorem IU {b:Nat} (h:w.ownsMap prog 3 CT b m D):w.ownsMap prog 3 CT b (Maps.size D) D:=by
 obtain⟨es,clock,h1,h2,h3,rfl⟩:=h;exact⟨es,clock,h1,h2,by show es.size<=(List.foldr DataW.insert [] _).length;rw [length_sorted];simp,rfl⟩
structure Bc (w:World) (L mb n:Nat) (ls:Nat->Ln):Prop where
 f:AF w L 180 [.map (some mb)]
 m:∃D,w.ownsMap prog 3 CT mb n D∧Wa D n ls
 ne:L≠mb
 few:n<=8
theorem Bc.lt {ls:Nat->Ln} (h:Bc w L mb n ls):mb<w.heap.size:=by
 obtain⟨D,⟨es,clock,hb,_⟩,_⟩:=h.m;exact(Ci.1 hb).1
theorem Bc.keep {S:Nat->Prop} {ls:Nat->Ln} (h:Bc w L mb n ls) (k:AD S w w') (h1:¬S L) (h2:¬S mb):Bc w' L mb n ls:=by
 have hl:=h.lt;obtain⟨D,⟨es,clock,hb,r⟩,hd⟩:=h.m;exact⟨h.f.keep k h1,⟨D,⟨es,clock,(k.block mb hl h2).trans hb,r⟩,hd⟩,h.ne,h.few⟩
theorem I4 (w:World):(zeroValue 182).run prog w= .ok (II ⟨0,0,false,false⟩) w:=by kernel_rfl
theorem Lg {ls:Nat->Ln} (h:Bc w L mb n ls) (i:Nat) (hi:i<n) {l:Ln} (hl:ls i=l):
 Calls prog 221 #[.pointer L, .int .i64 i] w fun e w'=>e= .returned (.tuple #[II l, .bool true])∧AJ w w':=by
 obtain⟨D,hown,hd⟩:=h.m;have c0:=h.f.z 0;have lL:=h.f.lt;have KO:=Ae hown;have KD:=Ae (hd.look i hi (lnDat ⟨0,0,false,false⟩));have KH:=Ae (hd.has i hi);have hf:=h.few;have HL:=Ae hl;clear h hown hd hl;go_in;go_wp2_with (at_lookup;refine wpList_lookup_own_ok _ rfl (.tmp 15) (.tmp 16) 178 rfl 3 182 (Maps.int_keyed underlying3) underlying178 CT (I4 _) (lnDat ⟨0,0,false,false⟩) [] (Cn _) mb n D rfl (KO.out.alloc _) _ _ rfl (Ej (by omega)) ?_;intro v ps hv;rw [KD.out,HL.out] at hv;obtain rfl:=FU hv;rw [KH.out];clear hv);refine bodyPost_ret (v:= .tuple #[II l, .bool true]) (by simp [results,results221,go_sem]) rfl ⟨rfl,?_⟩;exact((AD.refl _ w).alloc _).alloc _
theorem Le {ls:Nat->Ln} (h:Bc w L mb n ls) (i:Nat) (hi:i<n) {b:Bool} (hb:(ls i).held=b):
 Calls prog 153 #[.pointer L, .int .i64 i] w fun e w'=>e= .returned (.bool b)∧AJ w w':=by
 obtain⟨l,hl⟩:=ex (ls i);rw [hl] at hb;have H:=Ae h;have HL:=Ae hl;obtain⟨least,left,held,wanted⟩:=l;dsimp only at hb;subst hb;clear h hl;go_in;go_wp2_with fail;refine(Lg H.out i hi HL.out).mono ?_;rintro e w2 ⟨rfl,k2⟩;have K2:=Ae k2;clear k2;go_wp2;go_ret;exact⟨rfl,K2.out.alloc _⟩
def LineP (w:World) (L mb n:Nat) (ls:Nat->Ln) (e:Ending) (w':World):Prop:=e= .returned (.int .i64 0)∧AD (· =mb) w w'∧Bc w' L mb n ls
theorem Hu {ls0 ls:Nat->Ln} (h:Bc w L mb n ls0) (k:AD (· =mb) w w') (ho:w'.ownsMap prog 3 CT mb m D) (hd:Wa D n ls):Bc w' L mb n ls:=
 ⟨h.f.keep k h.ne,⟨D,by have:=IU ho;rw [hd.size] at this;exact this,hd⟩,h.ne,h.few⟩
theorem MV {ls:Nat->Ln} (h:Bc w L mb n ls) (i:Nat) (hi:i<n) (hh:(ls i).held=true):
 Calls prog 262 #[.pointer L, .int .i64 i] w (LineP w L mb n (upd ls i { ls i with wanted:=true })):=by
 obtain⟨l,hl⟩:=ex (ls i);have H:=Ae h;have HL:=Ae hl;have FIN:AG (ls i=l):=⟨hl⟩;rw [hl] at hh ⊢;have hf:=h.few;obtain⟨least,left,held,wanted⟩:=l;dsimp only at hh;subst hh;clear h hl;go_in;go_wp2_with fail;refine(Lg H.out i hi HL.out).mono ?_;rintro e w2 ⟨rfl,k2⟩;have K2:=Ae k2;have H2:=Ae (H.out.keep k2 id id);have lL:=(H.out.f.keep k2 id).lt;have c0:=(H.out.f.keep k2 id).z 0;clear k2;go_wp2_with fail;have B5:=AF.new w2 [.int .i64 least, .int .i64 left, .bool true, .bool true] 182;have KN:=Ae ((K2.out.alloc (.cells #[.int .i64 least, .int .i64 left, .bool true, .bool true] 182)));have HN:=Ae (H.out.keep KN.out id id);have c0':=HN.out.f.z 0;obtain⟨W,hW⟩:∃W:World,w2.alloc (.cells #[.int .i64 least, .int .i64 left, .bool true, .bool true] 182)=W:=⟨_,rfl⟩;have hW':w2.alloc (.cells [.int .i64 least, .int .i64 left, .bool true, .bool true].toArray 182)=W:=hW;rw [hW'] at B5;rw [hW] at c0' KN HN ⊢;have x0:=B5.z 0;have x1:=B5.z 1;have x2:=B5.z 2;have x3:=B5.z 3;clear hW hW' B5 c0 lL;go_still_tail 6,(by kernel_rfl);change wpList _ _ _ _ _ W.drew;clear x0 x1 x2 x3 c0';obtain⟨D,own,hd⟩:=HN.out.m;have KO:=Ae own;have KD:=Ae (hd.put i hi ⟨least,left,true,true⟩);clear own hd;go_wp2_with (at_mapUpdate;refine wpList_mapUpdate_own _ rfl (.tmp 22) (.tmp 23) (.tmp 24) 178 rfl 3 182 (Maps.int_keyed underlying3) underlying178 CT mb n D rfl KO.out (by unfold maxLen;omega) _ (II ⟨least,left,true,true⟩) (lk i) rfl rfl (Ej (by omega)) (lnDat ⟨least,left,true,true⟩) [] (Cn ⟨least,left,true,true⟩) ?_;intro w3 own3 grow3;have K3:=Ae (((AD.refl (· =mb) W).drew).grown grow3 (fun j e _=>by injection e with e;exact e.symm));have KO3:=Ae own3;clear own3 grow3);go_ret;exact⟨rfl,(KN.out.mono (fun _ h=>h.elim)).then_ K3.out,Hu HN.out K3.out KO3.out KD.out⟩
def Ln.tick (l:Ln):Ln:=
 if l.held then(if 0<l.left then { l with left:=l.left - 1 } else if l.wanted then { l with held:=false,wanted:=false } else l) else l
theorem tick_b {wanted:Bool} (h:0<left):Ln.tick ⟨least,left,true,wanted⟩=⟨least,left - 1,true,wanted⟩:=by simp [Ln.tick,h]
theorem tick_c (h:¬0<left):Ln.tick ⟨least,left,true,true⟩=⟨least,left,false,false⟩:=by simp [Ln.tick,h]
theorem tick_d (h:¬0<left):Ln.tick ⟨least,left,true,false⟩=⟨least,left,true,false⟩:=by simp [Ln.tick,h]
def Fp (ls:Nat->Ln) (k:Nat):Nat->Ln:=fun j=>if j<k then(ls j).tick else ls j
theorem VG (ls:Nat->Ln):Fp ls 0=ls:=by funext j;simp [Fp]
theorem Tq (ls:Nat->Ln) (k:Nat):Fp ls k k=ls k:=by simp [Fp]
theorem Ht (ls:Nat->Ln) (k:Nat):upd (Fp ls k) k (ls k).tick=Fp ls (k+1):=by
 funext j;by_cases e:j=k
 . subst e;rw [upd_same];simp [Fp]
 . rw [uo_ e];by_cases h:j<k
   . simp [Fp,h,show j<k+1 by omega]
   . simp [Fp,h,show¬j<k+1 by omega]
theorem Bc.congr {ls ls':Nat->Ln} (h:Bc w L mb n ls) (e:∀i,i<n->ls i=ls' i):Bc w L mb n ls':=by
 obtain⟨D,o,d⟩:=h.m;exact⟨h.f,⟨D,o,d.tidy,d.size,d.has,fun i hi z=>by rw [<-e i hi];exact d.look i hi z⟩,h.ne,h.few⟩
theorem Ee (w:World) (x:Value) (t:TypeId):∀j u,[x][j]?=some u->(w.alloc (.cells #[x] t)).cell? (((w.heap.size 0):Addr).add j)=some u:=by
 intro j u hj
 match j,hj with
 | 0,hj=>simp at hj;subst hj;simp [Addr.add]
 | k+1,hj=>simp at hj
theorem Io:inf_ prog 3=some (some (.int .i64 0),1,8):=by kernel_rfl
def LTickP (w:World) (L mb n:Nat) (ls:Nat->Ln) (e:Ending) (w':World):Prop:=(∃v,e= .returned v)∧AD (· =mb) w w'∧Bc w' L mb n (Fp ls n)
theorem SG {ls:Nat->Ln} (h:Bc w L mb n ls) (l:∀i,i<n->0<=(ls i).left∧(ls i).left<=1000):
 Calls prog 161 #[.pointer L] w (LTickP w L mb n ls):=by
 obtain⟨i0,KI,KZ0,KZ1,KZ2⟩:=ik_ Io;have H:=Ae h;have LL:=Ae l;have hf:=h.few;have lm:=h.lt;have lL0:=h.f.lt;have c0:=h.f.z 0;obtain⟨D0,own0,hd0⟩:=h.m;have KO:=Ae own0;have KS:=Ae hd0.size;clear h l own0 hd0;go_in;go_wp2_with (at_len;refine wpList_len_own _ rfl (.tmp 12) 178 rfl 3 182 underlying178 CT mb n D0 rfl KO.out ?_;rw [KS.out]);clear c0;go_loopw [3,14] (fun v i wr=>∃k:Nat,k<=n∧i= .int .i64 k∧∃ao c m xs,v= .slice ao m c∧m<=k∧AD (· =mb) w wr∧Bc wr L mb n (Fp ls k)∧wr.ownsRow w.heap.size 3 1 (.slice ao m c) m xs) (fun _ i _=>n - (intOf i).toNat);case atStart=>exact⟨0,by omega,rfl,none,0,0,[],rfl,by omega,kx_,by rw [VG];exact H.out,Gs⟩
 case round=>
  obtain⟨k,hk,rfl,ao,c,m,xs,rfl,hm,kp0,g0,o0⟩:=hrel;have KP:=Ae kp0;have KG:=Ae g0;have KR:=Ae o0;have hsz:=kp0.size;clear kp0 g0 o0;by_cases hlt:k<n
  . obtain⟨D,own,hd⟩:=KG.out.m;have c1:=KG.out.f.z 0;have lL:=KG.out.f.lt;have KW:=Ae own;have KD:=Ae (hd.look k hlt (lnDat ⟨0,0,false,false⟩));have KH:=Ae (hd.has k hlt);have KLL:=Ae (LL.out k hlt);obtain⟨x,hx⟩:=ex (ls k);have HX:=Ae hx;have KV:AG (D.atKey (lk k) (lnDat ⟨0,0,false,false⟩)=lnDat x):=⟨by rw [KD.out,Tq,hx]⟩;have KB:AG (0<=x.left∧x.left<=1000):=⟨by rw [<-hx];exact KLL.out⟩;clear own hd hx KD KLL;obtain⟨least,left,held,wanted⟩:=x;have b0:=KB.out.1;have b1:=KB.out.2;dsimp only at b0 b1;have ARM:True:=trivial;cases held
    . go_wp2_with (at_lookup;refine wpList_lookup_own_ok _ rfl (.tmp 21) (.tmp 22) 178 rfl 3 182 (Maps.int_keyed underlying3) underlying178 CT (I4 _) (lnDat ⟨0,0,false,false⟩) [] (Cn _) mb n D rfl KW.out _ _ rfl (Ej (by omega)) ?_;intro v ps hv;rw [KV.out] at hv;obtain rfl:=FU hv;rw [KH.out];clear hv);go_roundw;case rel=>exact⟨k+1,by omega,by go_num,ao,c,m,xs,rfl,by omega,KP.out.alloc _,(KG.out.keep ((nr wr).alloc _) id id).congr (fun i hi=>by rw [<-Ht];by_cases e:i=k <;> simp [upd,e,Tq,HX.out,Ln.tick]),KR.out.alloc _⟩
      case measure=>simp [intOf];omega
    . by_cases h1:0<left
      . go_wp2_with (at_lookup;refine wpList_lookup_own_ok _ rfl (.tmp 21) (.tmp 22) 178 rfl 3 182 (Maps.int_keyed underlying3) underlying178 CT (I4 _) (lnDat ⟨0,0,false,false⟩) [] (Cn _) mb n D rfl KW.out _ _ rfl (Ej (by omega)) ?_;intro v ps hv;rw [KV.out] at hv;obtain rfl:=FU hv;rw [KH.out];clear hv);have B5:=AF.new wr [.int .i64 least, .int .i64 (left - 1), .bool true, .bool wanted] 182;have KN:=Ae ((nr wr).alloc (.cells #[.int .i64 least, .int .i64 (left - 1), .bool true, .bool wanted] 182));have KR4:=Ae (KR.out.alloc (.cells #[.int .i64 least, .int .i64 (left - 1), .bool true, .bool wanted] 182));obtain⟨W,hW⟩:∃W:World,wr.alloc (.cells #[.int .i64 least, .int .i64 (left - 1), .bool true, .bool wanted] 182)=W:=⟨_,rfl⟩;have hW':wr.alloc (.cells [.int .i64 least, .int .i64 (left - 1), .bool true, .bool wanted].toArray 182)=W:=hW;rw [hW'] at B5;rw [hW] at KN KR4 ⊢;clear hW hW';have HN:=Ae (KG.out.keep KN.out id id);have c0':=HN.out.f.z 0;have x0:=B5.z 0;have x1:=B5.z 1;have x2:=B5.z 2;have x3:=B5.z 3;clear B5 c1;obtain⟨D2,own2,hd2⟩:=HN.out.m;have KO2:=Ae own2;have KD2:=Ae (hd2.put k hlt ⟨least,left - 1,true,wanted⟩);clear own2 hd2;go_still_tail 6,(by kernel_rfl);change wpList _ _ _ _ _ W.drew;clear x0 x1 x2 x3 c0';go_wp2_with (at_mapUpdate;refine wpList_mapUpdate_own _ rfl (.tmp 51) (.tmp 52) (.tmp 53) 178 rfl 3 182 (Maps.int_keyed underlying3) underlying178 CT mb n D2 rfl KO2.out (by unfold maxLen;omega) _ (II ⟨least,left - 1,true,wanted⟩) (lk k) rfl rfl (Ej (by omega)) (lnDat ⟨least,left - 1,true,wanted⟩) [] (Cn ⟨least,left - 1,true,wanted⟩) ?_;intro w5 own5 grow5;have K5:=Ae (((AD.refl (· =mb) W).drew).grown grow5 (fun j e _=>by injection e with e;exact e.symm));have KO5:=Ae own5;clear own5 grow5);go_roundw;case rel=>exact⟨k+1,by omega,by go_num,ao,c,m,xs,rfl,by omega,(KP.out.then_ (KN.out.mono (fun _ h=>h.elim))).then_ K5.out,(Hu HN.out K5.out KO5.out KD2.out).congr (fun i hi=>by rw [<-Ht,HX.out,tick_b h1]),BN KR4.out K5.out (fun j hj e=>by omega)⟩
        case measure=>simp [intOf];omega
      . have h2:left<=0:=by omega
        cases wanted
        . go_wp2_with (at_lookup;refine wpList_lookup_own_ok _ rfl (.tmp 21) (.tmp 22) 178 rfl 3 182 (Maps.int_keyed underlying3) underlying178 CT (I4 _) (lnDat ⟨0,0,false,false⟩) [] (Cn _) mb n D rfl KW.out _ _ rfl (Ej (by omega)) ?_;intro v ps hv;rw [KV.out] at hv;obtain rfl:=FU hv;rw [KH.out];clear hv);have B5:=AF.new wr [.int .i64 least, .int .i64 left, .bool true, .bool false] 182;have KN:=Ae ((nr wr).alloc (.cells #[.int .i64 least, .int .i64 left, .bool true, .bool false] 182));have KR4:=Ae (KR.out.alloc (.cells #[.int .i64 least, .int .i64 left, .bool true, .bool false] 182));obtain⟨W,hW⟩:∃W:World,wr.alloc (.cells #[.int .i64 least, .int .i64 left, .bool true, .bool false] 182)=W:=⟨_,rfl⟩;have hW':wr.alloc (.cells [.int .i64 least, .int .i64 left, .bool true, .bool false].toArray 182)=W:=hW;rw [hW'] at B5;rw [hW] at KN KR4 ⊢;clear hW hW';have HN:=Ae (KG.out.keep KN.out id id);have c0':=HN.out.f.z 0;have x0:=B5.z 0;have x1:=B5.z 1;have x2:=B5.z 2;have x3:=B5.z 3;clear B5 c1;obtain⟨D2,own2,hd2⟩:=HN.out.m;have KO2:=Ae own2;have KD2:=Ae (hd2.put k hlt ⟨least,left,true,false⟩);clear own2 hd2;go_still_tail 6,(by kernel_rfl);change wpList _ _ _ _ _ W.drew;clear x0 x1 x2 x3 c0';go_wp2_with (at_mapUpdate;refine wpList_mapUpdate_own _ rfl (.tmp 51) (.tmp 52) (.tmp 53) 178 rfl 3 182 (Maps.int_keyed underlying3) underlying178 CT mb n D2 rfl KO2.out (by unfold maxLen;omega) _ (II ⟨least,left,true,false⟩) (lk k) rfl rfl (Ej (by omega)) (lnDat ⟨least,left,true,false⟩) [] (Cn ⟨least,left,true,false⟩) ?_;intro w5 own5 grow5;have K5:=Ae (((AD.refl (· =mb) W).drew).grown grow5 (fun j e _=>by injection e with e;exact e.symm));have KO5:=Ae own5;clear own5 grow5);go_roundw;case rel=>exact⟨k+1,by omega,by go_num,ao,c,m,xs,rfl,by omega,(KP.out.then_ (KN.out.mono (fun _ h=>h.elim))).then_ K5.out,(Hu HN.out K5.out KO5.out KD2.out).congr (fun i hi=>by rw [<-Ht,HX.out,tick_d (by omega)]),BN KR4.out K5.out (fun j hj e=>by omega)⟩
          case measure=>simp [intOf];omega
        . go_wp2_with (first | (at_lookup;refine wpList_lookup_own_ok _ rfl (.tmp 21) (.tmp 22) 178 rfl 3 182 (Maps.int_keyed underlying3) underlying178 CT (I4 _) (lnDat ⟨0,0,false,false⟩) [] (Cn _) mb n D rfl KW.out _ _ rfl (Ej (by omega)) ?_;intro v ps hv;rw [KV.out] at hv;obtain rfl:=FU hv;rw [KH.out];clear hv) | (at_builtin;refine wpList_append_own _ rfl (.tmp 44) (.tmp 46) 22 rfl w.heap.size 3 i0 (.int .i64 0) 1 8 underlying22 KI.out KZ0.out KZ1.out KZ2.out rfl (by decide) _ _ _ rfl ((KR.out.alloc (.cells #[.int .i64 least, .int .i64 left, .bool false, .bool false] 182)).alloc (.cells #[.int .i64 k] 3)) ((wr.heap.size+1) 0) 1 1 [.int .i64 k] rfl rfl (by have:=Ee (wr.alloc (.cells #[.int .i64 least, .int .i64 left, .bool false, .bool false] 182)) (.int .i64 k) 3;rw [Ay] at this;exact this) (by simp [Value.oneCell']) (by unfold maxLen;omega) (by omega) (by simp;omega) ?_;intro v' W own3 grow3 _;obtain⟨ao',c',hv⟩:=AI own3;subst hv;have KR4:=Ae own3;have KK:=Ae (((AD.refl (fun j=>some j=(Value.slice ao m c).ownBlock) (wr.alloc (.cells #[.int .i64 least, .int .i64 left, .bool false, .bool false] 182))).alloc (.cells #[.int .i64 k] 3)).grown grow3 (fun j e _=>e.symm));clear own3 grow3));have hrow:∀j,some j=(Value.slice ao m c).ownBlock->w.heap.size<=j∧j<wr.heap.size:=fun j e=>KR.out.lt j e.symm;have B5:=(AF.new wr [.int .i64 least, .int .i64 left, .bool false, .bool false] 182).keep KK.out (fun e=>by have:=(hrow _ e).2;omega);have KN:AG (AD (fun j=>some j=(Value.slice ao m c).ownBlock) wr W):=⟨((AD.refl _ wr).alloc _).then_ KK.out⟩;have HN:=Ae (KG.out.keep KN.out (fun e=>by have:=(hrow _ e).1;omega) (fun e=>by have:=(hrow _ e).1;omega));have c0':=HN.out.f.z 0;have x0:=B5.z 0;have x1:=B5.z 1;have x2:=B5.z 2;have x3:=B5.z 3;clear B5 c1;obtain⟨D2,own2,hd2⟩:=HN.out.m;have KO2:=Ae own2;have KD2:=Ae (hd2.put k hlt ⟨least,left,false,false⟩);clear own2 hd2;go_still_tail 6,(by kernel_rfl);change wpList _ _ _ _ _ W.drew;clear x0 x1 x2 x3 c0';go_wp2_with (at_mapUpdate;refine wpList_mapUpdate_own _ rfl (.tmp 51) (.tmp 52) (.tmp 53) 178 rfl 3 182 (Maps.int_keyed underlying3) underlying178 CT mb n D2 rfl KO2.out (by unfold maxLen;omega) _ (II ⟨least,left,false,false⟩) (lk k) rfl rfl (Ej (by omega)) (lnDat ⟨least,left,false,false⟩) [] (Cn ⟨least,left,false,false⟩) ?_;intro w5 own5 grow5;have K5:=Ae (((AD.refl (· =mb) W).drew).grown grow5 (fun j e _=>by injection e with e;exact e.symm));have KO5:=Ae own5;clear own5 grow5);go_roundw;case rel=>exact⟨k+1,by omega,by go_num,ao',c',m+1,_,rfl,by omega,(KP.out.trans KN.out (fun j hj e=>absurd (hrow j e).1 (by omega))).then_ K5.out,(Hu HN.out K5.out KO5.out KD2.out).congr (fun i hi=>by rw [<-Ht,HX.out,tick_c (by omega)]),BN KR4.out K5.out (fun j hj e=>by omega)⟩
          case measure=>simp [intOf];omega
  . go_wp2;go_ret;have hkn:k=n:=by omega
    subst hkn;exact⟨⟨_,rfl⟩,KP.out,KG.out⟩
end Go.Proofs.YtpekoejdnhaohaaGreatDoor
