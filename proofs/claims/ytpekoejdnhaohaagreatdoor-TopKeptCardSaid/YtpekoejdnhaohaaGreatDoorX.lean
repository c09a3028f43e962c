/- What the script's words, numbers, rows, writing and taking of a line compute at the fixed script of awake. -/
import Derived.Test.YtpekoejdnhaohaaGreatDoorW
namespace Go.Proofs.YtpekoejdnhaohaaGreatDoor
open Go.RowKit Tryz
set_option maxRecDepth 100000
set_option maxHeartbeats 40000000
set_option linter.all false
section
def I2 (x:Nat):Bool:=x==9||x==13||x==32
theorem Ys (W:World) (x:Nat):Calls prog 99 #[.int .i32 x] W fun e w'=>e= .returned (.bool (I2 x))∧w'=W:=by
 obtain⟨c,hc⟩:=ex (x:Int);rw [hc];have HC:=Ae hc;clear hc;go_in;go_wp2
 . go_ret;obtain rfl:x=9:=by have:=HC.out;omega
   exact⟨rfl,rfl⟩
 . go_ret;obtain rfl:x=13:=by have:=HC.out;omega
   exact⟨rfl,rfl⟩
 . go_ret;refine⟨?_,rfl⟩;show Ending.returned (.bool (c==9||c==13||c==32))=_;have e:∀n:Nat,(c==(n:Int))=(x==n):=fun n=>by rw [Bool.eq_iff_iff,beq_iff_eq,beq_iff_eq, <-HC.out];omega
   rw [I2, <-e 9, <-e 13, <-e 32];rfl
theorem Yt (w:World):PredAt prog 99 #[] encR I2 w:=fun W x _=>by
 refine mn_ (Ys W x) ?_;exact⟨rfl,0,rfl⟩
def strV (ws:List ByteArray) (i:Nat):Value:=(ws.map Value.string)[i]?.getD undef
theorem Wz (ws:List ByteArray):(List.range ws.length).map (strV ws)=ws.map Value.string:=by
 apply List.ext_getElem
 . simp
 . intro i h1 h2;simp only [List.length_map,List.length_range] at h1;simp [strV,h1]
def WordsP (w:World) (ws:List ByteArray) (e:Ending) (w':World):Prop:=
 ∃A,e= .returned (.slice (some ⟨A,0,none⟩) ws.length ws.length)∧AJ w w'∧w.heap.size<=A∧Row w' A 9 ws.length (strV ws)
theorem DQ (w:World) (s:ByteArray) (hs:s.size<=1000) (ws:List ByteArray) (h:Lib.goFieldsP I2 s=ws) (h0:0<ws.length):Calls prog 45 #[.string s] w (WordsP w ws):=by
 have HH:=Ae h;have en:Fu 99:=fun _ _=>by kernel_rfl
 clear h;go_in;go_wp2_with fail;refine(strings_FieldsFunc 99 #[] (fun args w=>en args w) I2 s w (by omega) (Yt w)).mono ?_;rintro e w' ⟨A,rfl,hA,own,bel⟩;rw [HH.out] at own ⊢;rw [<-Wz] at own;obtain⟨q,hq,row,hqA⟩:=Hq own h0;injection hq with hq;injection hq with hq;subst hq;have K:=Ae (And.intro (JU bel) (And.intro hA row));clear own bel hA row hqA;go_wp2;go_ret;exact⟨A,rfl,K.out.1,K.out.2.1,K.out.2.2⟩
theorem ix0 (h):(({ data:= #[48] }:ByteArray)[0]'h).toNat=48:=rfl
theorem ix9 (h):(({ data:= #[57] }:ByteArray)[0]'h).toNat=57:=rfl
theorem ix99 (h):(({ data:= #[57,57] }:ByteArray)[0]'h).toNat=57:=rfl
theorem ix99' (h):(({ data:= #[57,57] }:ByteArray)[1]'h).toNat=57:=rfl
attribute [local go_sem] ix0 ix9 ix99 ix99'
theorem Im (w:World):Calls prog 237 #[.string ⟨#[48]⟩] w fun e w'=>e= .returned (.tuple #[.int .u64 0, .bool true])∧w'=w:=by
 go_in;go_wp2;go_loopw [4,5] (fun n i wr=>wr=w∧((i= .int .i64 0∧n= .int .u64 0)∨(i= .int .i64 1∧n= .int .u64 0))) (fun _ i _=>1 - (intOf i).toNat);case atStart=>exact⟨rfl, .inl ⟨rfl,rfl⟩⟩
 case round=>
  obtain⟨rfl,hrel⟩:=hrel;rcases hrel with⟨rfl,rfl⟩ | ⟨rfl,rfl⟩
  . go_wp2;go_roundw;case rel=>exact⟨by trivial, .inr ⟨rfl,rfl⟩⟩
    case measure=>simp [intOf]
  . go_wp2;go_ret2;exact⟨rfl,rfl⟩
theorem Xk (w:World):Calls prog 237 #[.string ⟨#[57]⟩] w fun e w'=>e= .returned (.tuple #[.int .u64 9, .bool true])∧w'=w:=by
 go_in;go_wp2;go_loopw [4,5] (fun n i wr=>wr=w∧((i= .int .i64 0∧n= .int .u64 0)∨(i= .int .i64 1∧n= .int .u64 9))) (fun _ i _=>1 - (intOf i).toNat);case atStart=>exact⟨rfl, .inl ⟨rfl,rfl⟩⟩
 case round=>
  obtain⟨rfl,hrel⟩:=hrel;rcases hrel with⟨rfl,rfl⟩ | ⟨rfl,rfl⟩
  . go_wp2;go_roundw;case rel=>exact⟨by trivial, .inr ⟨rfl,rfl⟩⟩
    case measure=>simp [intOf]
  . go_wp2;go_ret2;exact⟨rfl,rfl⟩
theorem VB (w:World):Calls prog 237 #[.string ⟨#[57,57]⟩] w fun e w'=>e= .returned (.tuple #[.int .u64 99, .bool true])∧w'=w:=by
 go_in;go_wp2;go_loopw [4,5] (fun n i wr=>wr=w∧((i= .int .i64 0∧n= .int .u64 0)∨(i= .int .i64 1∧n= .int .u64 9)∨(i= .int .i64 2∧n= .int .u64 99))) (fun _ i _=>2 - (intOf i).toNat);case atStart=>exact⟨rfl, .inl ⟨rfl,rfl⟩⟩
 case round=>
  obtain⟨rfl,hrel⟩:=hrel;rcases hrel with⟨rfl,rfl⟩ | ⟨rfl,rfl⟩ | ⟨rfl,rfl⟩
  . go_wp2;go_roundw;case rel=>exact⟨by trivial, .inr (.inl ⟨rfl,rfl⟩)⟩
    case measure=>simp [intOf]
  . go_wp2;go_roundw;case rel=>exact⟨by trivial, .inr (.inr ⟨rfl,rfl⟩)⟩
    case measure=>simp [intOf]
  . go_wp2;go_ret2;exact⟨rfl,rfl⟩
theorem VL (w:World):Calls prog 238 #[.int .u8 103] w fun e w'=>e= .returned (.string ⟨#[103,101,116]⟩)∧w'=w:=by
 go_in;go_wp2;go_ret;exact⟨rfl,rfl⟩
theorem YC (w:World):Calls prog 171 #[.string ⟨#[103,101,116]⟩] w fun e w'=>e= .returned (.int .u8 103)∧AJ w w':=by
 go_in;go_wp2_with fail;have kb:=(nr w).alloc (.cells #[.int .u8 103, .int .u8 112, .int .u8 114, .int .u8 119, .int .u8 115, .int .u8 109] 5);have bb:=AF.new w [.int .u8 103, .int .u8 112, .int .u8 114, .int .u8 119, .int .u8 115, .int .u8 109] 5;obtain⟨W1,hW1⟩:=ex (w.alloc (.cells #[.int .u8 103, .int .u8 112, .int .u8 114, .int .u8 119, .int .u8 115, .int .u8 109] 5));obtain⟨b,hb⟩:=ex w.heap.size;have hW1':w.alloc (.cells [.int .u8 103, .int .u8 112, .int .u8 114, .int .u8 119, .int .u8 115, .int .u8 109].toArray 5)=W1:=hW1;rw [hW1',hb] at bb;rw [hW1] at kb;rw [hW1,hb];have c0:=bb.z 0;have K:=Ae kb;clear hW1 hW1' bb kb;go_loopw [7] (fun i wr=>wr=W1∧i= .int .i64 0) (fun i _=>0);case atStart=>exact⟨rfl,rfl⟩
 case round=>
  obtain⟨rfl,rfl⟩:=hrel;go_wp2_with fail;refine mn_ (VL _) ?_;go_wp2;go_ret;exact⟨rfl,K.out⟩
end
def scr0:ByteArray:=⟨#[124,32,99,108,111,99,107,32,111,32,57]⟩
def scr1:ByteArray:=⟨#[124,32,100,111,109,97,105,110,32,45,32,48,32,107,101,101,112]⟩
def scr2:ByteArray:=⟨#[124,32,114,101,115,101,116,32,48]⟩
def scr3:ByteArray:=⟨#[124,32,100,101,118,105,99,101,32,48,32,48,32,48,32,48]⟩
def Zu:ByteArray:=⟨#[98,117,105,108,100]⟩
def Zt:ByteArray:=⟨#[99,97,108,108,32,48,32,103,101,116,32,48]⟩
def Zs:ByteArray:=⟨#[114,101,115,116,32,57,57]⟩
def Zr:ByteArray:=⟨#[97,108,105,118,101,32,48]⟩
def XN:ByteArray:=⟨#[99,104,101,99,107]⟩
def LH:List ByteArray:=[scr0,scr1,scr2,scr3,Zu,Zt,Zs,Zr,XN]
def scr:ByteArray:=⟨#[124,32,99,108,111,99,107,32,111,32,57,10,124,32,100,111,109,97,105,110,32,45,32,48,32,107,101,101,112,10,124,32,114,101,115,101,116,32,48,10,124,32,100,101,118,105,99,101,32,48,32,48,32,48,32,48,10,98,117,105,108,100,10,99,97,108,108,32,48,32,103,101,116,32,48,10,114,101,115,116,32,57,57,10,97,108,105,118,101,32,48,10,99,104,101,99,107]⟩
theorem XK:Lib.countB scr ⟨#[10]⟩=8:=by kernel_rfl
theorem Un:Lib.splitB ⟨#[10]⟩ 0 8 scr=LH:=by kernel_rfl
theorem XL:XN.toList.isEmpty=false:=by kernel_rfl
theorem Pb (w:World) (m:Int) (hm:w.cell? ⟨0,0,none⟩=some (.int .i64 m)):
 Calls prog 20 #[.string scr] w fun e w'=>e= .returned (.tuple #[.slice w.heap.size 9 9, .bool true])∧w'=w.alloc (.cells (LH.map Value.string).toArray 9):=by
 have hsp:=strings_Split scr ⟨#[10]⟩ m w (by decide) hm (by decide);rw [XK,Un] at hsp;have HSP:=Ae hsp;have hlen:scr.size=97:=by decide
 clear hsp;go_in;go_wp2_with fail;refine HSP.out.mono ?_;rintro e w2 ⟨rfl,rfl⟩;have c8:=(AF.new w (LH.map Value.string) 9).z 8;have hl:=XL;go_wp2_with fail;exact bodyPost_ret (v:= .tuple #[.slice w.heap.size 9 9, .bool true]) (by simp [results,results20,go_sem]) rfl ⟨rfl,rfl⟩
structure CallAt (w w':World) (R RB PB:Nat):Prop where
 k:AJ w w'
 r:AF w' RB 148 [.pointer R]
 p:AF w' PB 80 [.int .u8 99, .int .i64 0, .int .u8 103, .int .i64 0, .int .i64 0, .int .u32 0, .int .u32 0, .slice none 0 0]
 l:w.heap.size<=RB∧w.heap.size<=PB
theorem WK (w:World) (R A off c:Nat) (h0:w.cell? (A off)=some (.string ⟨#[48]⟩)) (h1:w.cell? (A (off+1))=some (.string ⟨#[103,101,116]⟩)) (h2:w.cell? (A (off+2))=some (.string ⟨#[48]⟩)) (hA:A<w.heap.size) (hc:3<=c)
 (num:∀W,Calls prog 237 #[.string ⟨#[48]⟩] W fun e w'=>e= .returned (.tuple #[.int .u64 0, .bool true])∧w'=W) (kg:∀W,Calls prog 171 #[.string ⟨#[103,101,116]⟩] W fun e w'=>e= .returned (.int .u8 103)∧AJ W w'):
 Calls prog 102 #[.pointer R, .slice (some (A off)) 3 c] w fun e w'=>∃RB PB,e= .returned (.func (.func 172) #[] #[.pointer (some ⟨RB,0,none⟩), .pointer (some ⟨PB,0,none⟩)])∧CallAt w w' R RB PB:=by
 have hmf:=mf (P:=prog);have NUM:=Ae num;have KG:=Ae kg;clear num kg;go_in;go_wp2_with fail;have k2:AJ w ((w.alloc (.cells #[.pointer R] 148)).alloc (.cells #[.int .u64 99999] 60)):=((kx_).alloc _).alloc _;have r2:=(AF.new w [.pointer R] 148).alloc (.cells #[.int .u64 99999] 60);have m2:=AF.new (w.alloc (.cells #[.pointer R] 148)) [.int .u64 99999] 60;obtain⟨RB,hRB⟩:=ex w.heap.size;obtain⟨W2,hW2⟩:=ex ((w.alloc (.cells #[.pointer R] 148)).alloc (.cells #[.int .u64 99999] 60));rw [Ay] at m2;have e1:(w.alloc (.cells [.pointer R].toArray 148)).alloc (.cells #[.int .u64 99999] 60)=W2:=hW2;have e2:(w.alloc (.cells #[.pointer R] 148)).alloc (.cells [.int .u64 99999].toArray 60)=W2:=hW2;rw [e1,hRB] at r2;rw [e2,hRB] at m2;rw [hW2] at k2;rw [hW2,hRB];have K2:=Ae k2;have R2:=Ae r2;have M2:=Ae m2;have z2:=k2.size;clear hW2 e1 e2 k2 r2 m2;refine(Fc W2 A off c (RB+1) 1 _ 0 99999 (by omega) ((K2.out.cell (p:=(A off)) hA id).trans h0) (M2.out.cell 0) (Bo hA K2.out.size) M2.out.lt NUM.out).mono ?_;rintro e w3 ⟨rfl,k3,b3⟩;have K3:=Ae (K2.out.then_ k3);have R3:=Ae (R2.out.keep k3 id);have B3:=Ae b3;have g3:=R2.out.lt;have z3:=k3.size;obtain⟨tb,htb⟩:=ex W2.heap.size;rw [htb] at B3 ⊢;have x1:=(K3.out.cell (p:=(A (off+1))) hA id).trans h1;clear k3 b3;go_wp2_with fail;refine(KG.out w3).mono ?_;rintro e w4 ⟨rfl,k4⟩;have K4:=Ae (K3.out.then_ k4);have R4:=Ae (R3.out.keep k4 id);have B4:=Ae (B3.out.keep k4 id);have z4:=k4.size;have zb:=B3.out.lt;clear k4 x1;go_wp2_with fail;have k5:AJ w4 ((w4.alloc (.cells #[.int .u8 103, .int .i64 0, .int .i64 0, .int .u32 0] 43)).alloc (.cells #[.int .u64 99999] 60)):=((kx_).alloc _).alloc _;have c5:=(AF.new w4 [.int .u8 103, .int .i64 0, .int .i64 0, .int .u32 0] 43).alloc (.cells #[.int .u64 99999] 60);have m5:=AF.new (w4.alloc (.cells #[.int .u8 103, .int .i64 0, .int .i64 0, .int .u32 0] 43)) [.int .u64 99999] 60;obtain⟨CB,hCB⟩:=ex w4.heap.size;obtain⟨W5,hW5⟩:=ex ((w4.alloc (.cells #[.int .u8 103, .int .i64 0, .int .i64 0, .int .u32 0] 43)).alloc (.cells #[.int .u64 99999] 60));rw [Ay] at m5;have e1:(w4.alloc (.cells [.int .u8 103, .int .i64 0, .int .i64 0, .int .u32 0].toArray 43)).alloc (.cells #[.int .u64 99999] 60)=W5:=hW5;have e2:(w4.alloc (.cells #[.int .u8 103, .int .i64 0, .int .i64 0, .int .u32 0] 43)).alloc (.cells [.int .u64 99999].toArray 60)=W5:=hW5;rw [e1,hCB] at c5;rw [e2,hCB] at m5;rw [hW5] at k5;rw [hW5,hCB];have K5:=Ae (K4.out.then_ k5);have R5:=Ae (R4.out.keep k5 id);have B5:=Ae (B4.out.keep k5 id);have C5:=Ae c5;have M5:=Ae m5;have z5:=k5.size;clear hW5 e1 e2 k5 c5 m5;refine(Fc W5 A (off+2) (c - 2) (CB+1) 1 _ 0 99999 (by omega) ((K5.out.cell (p:=(A (off+2))) hA id).trans h2) (M5.out.cell 0) (Bo hA K5.out.size) M5.out.lt NUM.out).mono ?_;rintro e w6 ⟨rfl,k6,b6⟩;obtain⟨nb,hnb⟩:=ex W5.heap.size;rw [hnb] at b6 ⊢;have K6:=Ae (K5.out.then_ k6);have R6:=Ae (R5.out.keep k6 id);have B6:=Ae (B5.out.keep k6 id);have C6:=Ae (C5.out.keep k6 id);have z6:=k6.size;have n0:=b6.z 0;have f1:=C6.out.frozen 1;have c1:=C6.out.z 1;have z6b:=b6.lt;have lCB:=C5.out.lt;clear k6 b6;go_wp2_with fail;have c7:=C6.out.set 1 (.int .i64 0);have k7:AD (· =CB) w6 (w6.setCell (CB 1) (.int .i64 0)):=keeps_set _;obtain⟨Y,hY⟩:=ex ((w6.setCell (CB 1) (.int .i64 0)).drew);have k8:AD (· =CB) w6 Y:=by rw [<-hY];exact k7.drew
 have C8:AF Y CB 43 [.int .u8 103, .int .i64 0, .int .i64 0, .int .u32 0]:=by rw [<-hY];exact c7.drew
 have hB:=R2.out.lt;have R8:=Ae (R6.out.keep k8 (by omega));have B8:=B6.out.keep k8 (by omega);have K8:=Ae (show AJ w Y from K6.out.trans k8 fun j hj e=>absurd (show j=CB from e) (by omega));have SH:=Ae (show ∀W,AJ Y W->(W.cell? (tb 0)=some (.int .u64 0)∧W.cell? (CB 0)=some (.int .u8 103)∧W.cell? (CB 1)=some (.int .i64 0)∧W.cell? (CB 2)=some (.int .i64 0)∧W.cell? (CB 3)=some (.int .u32 0)) from fun W kk=>⟨(B8.keep kk id).cell 0,(C8.keep kk id).cell 0,(C8.keep kk id).cell 1,(C8.keep kk id).cell 2,(C8.keep kk id).cell 3⟩);have lY:=C8.lt;refine rh_ (fun wz=>wz.cell? (tb 0)=some (.int .u64 0)∧wz.cell? (CB 0)=some (.int .u8 103)∧wz.cell? (CB 1)=some (.int .i64 0)∧wz.cell? (CB 2)=some (.int .i64 0)∧wz.cell? (CB 3)=some (.int .u32 0)) (by rw [hY];exact SH.out _ (kx_)) (fun hE=>?_);rw [hY] at hE ⊢;clear hY c7 k7 k8 C8 B8 n0 f1 c1;refine tk 0 hE ?_;refine tk 1 hE ?_;refine tk 2 hE ?_;refine tk 3 hE ?_;refine tk 4 hE ?_;refine tk 5 hE ?_;refine oA_ 6 9 (fun v wx=>v= .pointer Y.heap.size∧wx=Y.alloc (.cells #[.int .u8 0, .int .i64 0, .int .u8 0, .int .i64 0, .int .i64 0, .int .u32 0, .int .u32 0, .slice none 0 0] 80)) ?a_g6 ?a_n6;case a_g6=>
  intro a' K Q ha hK;clear ha;go_simp;exact hK _ _ ⟨rfl,rfl⟩
 case a_n6=>
 rintro v0 w0 ⟨rfl,rfl⟩;refine⟨SH.out _ ((kx_).alloc _),?_⟩;simp only [pu,s0,s1];have B0:=AF.new Y [.int .u8 0, .int .i64 0, .int .u8 0, .int .i64 0, .int .i64 0, .int .u32 0, .int .u32 0, .slice none 0 0] 80;have N0:=(nr Y).alloc (.cells #[.int .u8 0, .int .i64 0, .int .u8 0, .int .i64 0, .int .i64 0, .int .u32 0, .int .u32 0, .slice none 0 0] 80);obtain⟨W,hW⟩:=ex (Y.alloc (.cells #[.int .u8 0, .int .i64 0, .int .u8 0, .int .i64 0, .int .i64 0, .int .u32 0, .int .u32 0, .slice none 0 0] 80));have hW':Y.alloc (.cells [.int .u8 0, .int .i64 0, .int .u8 0, .int .i64 0, .int .i64 0, .int .u32 0, .int .u32 0, .slice none 0 0].toArray 80)=W:=hW;rw [hW'] at B0;rw [hW] at N0 ⊢;obtain⟨PB,hPB⟩:=ex Y.heap.size;rw [hPB] at B0 ⊢;have B0:=Ae B0;have N0:=Ae N0;clear hW hW';refine oN_ 7 (fun wz=>AJ Y wz∧AF wz PB 80 [.int .u8 99, .int .i64 0, .int .u8 103, .int .i64 0, .int .i64 0, .int .u32 0, .int .u32 0, .slice none 0 0]) ?a_g7 ?a_n7;case a_g7=>
  intro a' K Q ha hK;have e0:=te ha 9;have e1:a'.tmps[96]?.getD undef= .agg #[.int .u8 99, .int .i64 0, .int .u8 103, .int .i64 0, .int .i64 0, .int .u32 0, .int .u32 0, .slice none 0 0]:=by have h:=congrFun ha (.tmp 96);simpa [Act.eval,show IntKind.i64.wrap 0=0 from rfl] using h
  clear ha;have f0:=fun i=>B0.out.frozen i;have c0:=B0.out.cell 0;have c1:=B0.out.cell 1;have c2:=B0.out.cell 2;have c3:=B0.out.cell 3;have c4:=B0.out.cell 4;have c5:=B0.out.cell 5;have c6:=B0.out.cell 6;have c7:=B0.out.cell 7;simp only [Bk,Bl] at c0 c1 c2 c3 c4 c5 c6 c7;go_simp;exact hK undef _ ⟨N0.out.trans ((((((((keeps_set _).then_ (keeps_set _)).then_ (keeps_set _)).then_ (keeps_set _)).then_ (keeps_set _)).then_ (keeps_set _)).then_ (keeps_set _)).then_ (keeps_set _)) fun i hi e=>absurd (show i=PB from e) (by omega),(((((((B0.out.set 0 _).set 1 _).set 2 _).set 3 _).set 4 _).set 5 _).set 6 _).set 7 _⟩
 case a_n7=>
 rintro w9 ⟨N9,b9⟩;refine⟨SH.out _ N9,?_⟩;refine⟨by kernel_rfl,?_⟩;have R9:=Ae (R8.out.keep N9 id);have N9:=Ae N9;have b9:=Ae b9;have z8:=K8.out.size;go_wp2;go_ret;exact⟨RB,PB,rfl,K8.out.then_ N9.out,R9.out,b9.out,by omega,by omega⟩
theorem Nx (w:World) (R:Nat) (t row:ByteArray) (xs:List Value) (n:Nat) (hB:AF w R 88 (.string t::xs)) (hi:Lib.indexByte row.data.toList 124=0) (hs:row.size=n+2) (hn:n<1000) (ht:t.size<1000) (he:(row.extract 1 (n+2)).toList.isEmpty=false):
 Calls prog 46 #[.pointer R, .string row] w fun e w'=>e= .returned (.slice none 0 0)∧w'=w.setCell (R 0) (.string (t++((row.extract 1 (n+2)).extract 1 (n+1)++⟨#[10]⟩))):=by
 have c0:=hB.z 0;have f0:=hB.frozen 0;have HI:=Ae hi;clear hi hB;have h1:(1:Int)<=(n:Int)+2:=by omega
 go_in;go_wp2_with fail;refine(strings_IndexByte row 124 _).mono ?_;rintro e w2 ⟨rfl,rfl⟩;have hi2:Lib.indexByte row.data.toList (124:Int).toNat.toUInt8=0:=HI.out;rw [hi2];go_wp2;go_ret;exact⟨rfl,rfl⟩
theorem Fd (w:World):Calls prog 274 #[.bool true] w fun e w'=>e= .returned (.tuple #[])∧w'=w:=by
 go_in;go_wp2;go_end0;exact⟨rfl,rfl⟩
theorem Nn (w:World):Calls prog 275 #[.string ⟨#[48]⟩] w fun e w'=>e= .returned (.int .i64 0)∧w'=w:=by
 go_in;go_wp2_with fail;refine mn_ (Im _) ?_;go_wp2_with fail;refine mn_ (Fd _) ?_;go_wp2;go_ret;exact⟨rfl,rfl⟩
theorem Wv (w:World):Calls prog 278 #[.string ⟨#[48]⟩] w fun e w'=>e= .returned (.int .u32 0)∧w'=w:=by
 go_in;go_wp2_with fail;refine mn_ (Im _) ?_;go_wp2_with fail;refine mn_ (Fd _) ?_;go_wp2;go_ret;exact⟨rfl,rfl⟩
theorem Zk (w:World):Calls prog 276 #[.string ⟨#[107,101,101,112]⟩] w fun e w'=>e= .returned (.bool true)∧w'=w:=by
 go_in;go_wp2_with fail;refine mn_ (Fd _) ?_;go_wp2;go_ret;exact⟨rfl,rfl⟩
def PD (n:Nat):List Value:=List.replicate n (.int .i64 0)
theorem RI (n:Nat):PD (n+1)=PD n++[.int .i64 0]:=List.replicate_succ'
def IntsP (w:World) (n:Nat) (e:Ending) (w':World):Prop:=
 ∃a c,e= .returned (.slice a n c)∧AJ w w'∧w'.ownsRow w.heap.size 3 1 (.slice a n c) n (PD n)∧(n=0->a=none∧c=0)
theorem T8 (w:World) (A off n c:Nat) (h:∀i,i<n->w.cell? (A (off+i))=some (.string ⟨#[48]⟩)) (hn:n<=3) (hA:A<w.heap.size):Calls prog 277 #[.slice (some (A off)) n c] w (IntsP w n):=by
 have HH:=Ae h;clear h;obtain⟨i0,KI,KZ0,KZ1,KZ2⟩:=ik_ Io;go_in;go_wp2;go_loopw [3,8] (fun v i wr=>∃k:Nat,k<=n∧i= .int .i64 k∧∃a c',v= .slice a k c'∧AJ w wr∧wr.ownsRow w.heap.size 3 1 (.slice a k c') k (PD k)∧(k=0->a=none∧c'=0)) (fun _ i _=>n - (intOf i).toNat);case atStart=>exact⟨0,by omega,rfl,none,0,rfl,kx_,Gs,fun _=>⟨rfl,rfl⟩⟩
 case round=>
  obtain⟨k,hk,rfl,a,c',rfl,kw,own,nil⟩:=hrel;have KW:=Ae kw;have OW:=Ae own;have NIL:=Ae nil;clear own nil;by_cases hlt:k<n
  . have hc:(k:Int)<n:=by omega
    have q1:=(kw.cell (p:=(A (off+k))) hA id).trans (HH.out k hlt);clear kw;go_wp2_with fail;refine(Nn _).mono ?_;rintro e w2 ⟨rfl,rfl⟩;go_wp2_with (at_builtin;refine wpList_append_own _ rfl (.tmp 12) (.tmp 15) 22 rfl w.heap.size 3 i0 _ 1 8 underlying22 KI.out KZ0.out KZ1.out KZ2.out rfl (by decide) _ _ _ rfl (OW.out.alloc _) (w2.heap.size 0) 1 1 [.int .i64 0] rfl rfl (Ee _ _ _) (by simp [Value.oneCell']) (by unfold maxLen;omega) (by omega) (by have:=KW.out.size;simp;omega) ?_;intro v' w3 own3 grow3 _;obtain⟨ao',c2,hv⟩:=AI own3;subst hv;have KO3:=Ae own3;have K3:AG (AJ w w3):=⟨KW.out.trans (((AD.refl (fun j=>(Value.slice a k c').ownBlock=some j) w2).alloc (.cells #[.int .i64 0] 3)).grown grow3 (fun j e _=>e)) fun j hj e=>absurd (OW.out.lt j e).1 (by omega)⟩;clear own3 grow3);go_roundw;case rel=>exact⟨k+1,by omega,by go_num,ao',c2,rfl,K3.out,by rw [RI];exact KO3.out,fun e=>by omega⟩
    case measure=>simp [intOf];omega
  . obtain rfl:k=n:=by omega
    have hc:¬(k:Int)<k:=by omega
    clear kw;go_wp2;go_ret;exact⟨a,c',rfl,KW.out,OW.out,NIL.out⟩
section
theorem ix_o (h):(({ data:= #[111] }:ByteArray)[0]'h).toNat=111:=rfl
attribute [local go_sem] ix_o
def Oj:Value:= .agg #[.int .u8 111, .slice none 0 0, .int .u64 9, .int .i64 0, .int .i64 0, .int .i64 0]
theorem Ww (w:World) (A off c:Nat) (h0:w.cell? (A off)=some (.string ⟨#[111]⟩)) (h1:w.cell? (A (off+1))=some (.string ⟨#[57]⟩)) (hA:A<w.heap.size) (hc:2<=c):
 Calls prog 273 #[.slice (some (A off)) 2 c] w fun e w'=>e= .returned Oj∧AJ w w':=by
 have hc1:(1:Int)<=c:=by omega
 go_in;go_wp2_with (go_at_call 274;refine mn_ (Fd _) ?_);refine mn_ (Xk _) ?_;go_wp2_with (go_at_call 274;refine mn_ (Fd _) ?_);refine bodyPost_ret (v:=Oj) (by simp [results,results273,go_sem,Oj]) rfl ⟨rfl,?_⟩
 repeat (first | exact kx_ | refine AD.alloc ?_ _ | refine AD.setCell (p:=⟨_,_,none⟩) ?_ (fun h=>absurd h (by simp;try omega)) _)
end
def DH (w:World) (S k:Nat) (el size:Nat) (xs:List Value) (cells:List Value) (e:Ending) (w':World):Prop:=
 ∃a c,e= .returned (.tuple #[])∧AD (· =S) w w'∧AF w' S 30 (xs.set k (.slice a 1 c))∧w'.ownsRow w.heap.size el size (.slice a 1 c) 1 cells
theorem DH.mk {w w4:World} {S k el size:Nat} {xs cells:List Value} {a:Option Addr} {c:Nat} (h:AJ w w4) (lt:S<w.heap.size) (b:AF w4 S 30 xs) (o:w4.ownsRow w.heap.size el size (.slice a 1 c) 1 cells):DH w S k el size xs cells (.returned (.tuple #[])) (w4.setCell (S k) (.slice a 1 c)):=
 ⟨a,c,rfl,(h.mono fun _ f=>f.elim).then_ (keeps_set _),b.set k _,AW o (keeps_set _) fun q hq e=>by have:=(o.lt q hq).1;rw [show q=S from e] at this;omega⟩
theorem Rd (w:World) (S A:Nat) (xs:List Value) (hx:xs[0]?=some (.slice none 0 0)) (b:AF w S 30 xs) (hA:A<w.heap.size) (hSA:S≠A) (c0:w.cell? (A 0)=some (.string ⟨#[99,108,111,99,107]⟩)) (c1:w.cell? (A 1)=some (.string ⟨#[111]⟩)) (c2:w.cell? (A 2)=some (.string ⟨#[57]⟩)):
 Calls prog 236 #[.pointer S, .slice A 3 3] w (DH w S 0 62 6 xs [.int .u8 111, .slice none 0 0, .int .u64 9, .int .i64 0, .int .i64 0, .int .i64 0]):=by
 obtain⟨i0,KI,KZ0,KZ1,KZ2⟩:=ik_ Fq;have BW:=Ae b;have LS:=Ae b.lt;clear b;go_in;go_wp2_with fail;obtain⟨Y,hY⟩:=ex w.drew;have KY:=Ae (show AJ w Y by rw [<-hY];exact(kx_).drew);have BY:=Ae (show AF Y S 30 xs by rw [<-hY];exact BW.out.drew);have SH:=Ae (show ∀W,AJ Y W->W.cell? (A 1)=some (.string ⟨#[111]⟩)∧W.cell? (A 2)=some (.string ⟨#[57]⟩) from fun W kk=>⟨((KY.out.then_ kk).cell (p:=(A 1)) hA id).trans c1,((KY.out.then_ kk).cell (p:=(A 2)) hA id).trans c2⟩);have CF:=Ae (show ∀W,AJ Y W->W.cell? (S 0)=some (.slice none 0 0) from fun W kk=>((BY.out.keep kk id).cell 0).trans hx);have lA:A<Y.heap.size:=Bo hA KY.out.size;refine rh_ (fun wz=>wz.cell? (A 1)=some (.string ⟨#[111]⟩)∧wz.cell? (A 2)=some (.string ⟨#[57]⟩)) (by rw [hY];exact SH.out _ (kx_)) (fun hE=>?_);rw [hY] at hE ⊢;clear hY c0 c1 c2;refine tk 0 hE ?_;refine tk 1 hE ?_;refine tk 2 hE ?_;refine tk 3 hE ?_;refine tk 5 hE ?_
 refine wl_ (fuel:=4) [4,6,7] (fun i vals W=>match i with
  | 4=>vals 4= .slice none 0 0
  | 6=>vals 6=Oj
  | _=>∃h,vals 7= .slice (some ⟨h,0,none⟩) 1 1∧Y.heap.size<=h∧AF W h 62 [.int .u8 111, .slice none 0 0, .int .u64 9, .int .i64 0, .int .i64 0, .int .i64 0])
  (AJ Y) (fun i W W'=>AJ W W') ?a_j ?a_step ?a_fin
 case a_j=>exact AD.refl _ Y
 case a_step=>
  intro i hi o ho vals ρ W hJ hd ev;simp only [m1,m0,or_false] at hi;rcases hi with rfl | rfl | rfl
  . cases ho;intro a' K Q ha hK;subst ha;have e1:=tv (ev (.tmp 20) (by kernel_rfl));have q0:=CF.out W hJ;go_simp;exact hK _ _ ⟨kx_,hJ,SH.out _ hJ,Ap⟩
  . cases ho;intro a' K Q ha hK;subst ha;have e0:=tv (ev (.tmp 22) (by kernel_rfl));go_simp;have cc:=SH.out _ hJ;refine(Ww W A 1 2 cc.1 cc.2 (Bo lA hJ.size) (by omega)).mono ?_;rintro e w5 ⟨rfl,k5⟩;exact hK _ _ ⟨k5,hJ.then_ k5,SH.out _ (hJ.then_ k5),Ap⟩
  . cases ho;obtain⟨v0,d0⟩:=he_ hd 6;intro a' K Q ha hK;subst ha;have g0:=et ((d0 23 rfl).trans v0);go_simp;have KN:AJ Y (W.alloc (.cells #[.int .u8 111, .slice none 0 0, .int .u64 9, .int .i64 0, .int .i64 0, .int .i64 0] 62)):=hJ.alloc _;exact hK _ _ ⟨(kx_).alloc _,KN,SH.out _ KN,W.heap.size,by rw [AQ],hJ.size,AF.new W [.int .u8 111, .slice none 0 0, .int .u64 9, .int .i64 0, .int .i64 0, .int .i64 0] 62⟩
 case a_fin=>
 intro vals W hJ hV;have vl:=Jh hV 4;have vi0:=Jh hV 6;obtain⟨h,vb,hh,bh⟩:=Jh hV 7;simp only [Am,AR,dstOf,De,Bl,Bk,CM,pu,s0,s1,if_true];rw [vl,vi0,vb];clear vl vi0 vb hV;refine oA_ 8 25 (fun v wx=>∃ao c',v= .slice ao 1 c'∧wx.ownsRow Y.heap.size 62 6 (.slice ao 1 c') 1 [.int .u8 111, .slice none 0 0, .int .u64 9, .int .i64 0, .int .i64 0, .int .i64 0]∧AJ Y wx) ?a_g8 ?a_n8;case a_g8=>
  intro a' K Q ha hK;have e0:a'.eval (.tmp 21)= .slice none 0 0:=by rw [ha];rfl
  have e1:a'.eval (.tmp 24)= .slice h 1 1:=by rw [ha];rfl
  clear ha;refine wp_append_own _ (.tmp 21) (.tmp 24) 25 rfl Y.heap.size 62 i0 _ 6 64 underlying25 KI.out KZ0.out KZ1.out KZ2.out rfl (by decide) _ _ _ e0 (Gs) ⟨h,0,none⟩ 1 1 [.int .u8 111, .slice none 0 0, .int .u64 9, .int .i64 0, .int .i64 0, .int .i64 0] e1 rfl (fun j u h=>by rw [Af,Ag,bh.cell j];exact h) (by simp [Value.oneCell']) (by unfold maxLen;omega) (by omega) hJ.size ?_;intro v5 w5 own5 grow5 _;obtain⟨ao,c',hv⟩:=AI own5;subst hv;exact hK _ _ ⟨ao,c',rfl,own5,hJ.grown grow5 (fun j e _=>by cases e)⟩
 case a_n8=>
 rintro v0 w4 ⟨aa,ca,rfl,OW,KW⟩;refine⟨SH.out _ KW,?_⟩;simp only [pu,s0,s1];have hW:=SH.out _ KW;have B4:=BY.out.keep KW id;have f4:=B4.frozen 0;have g4:=(B4.cell 0).trans hx;have KKW:=Ae KW;have OW':=Ae OW;have KB4:=Ae B4;clear OW KW hJ bh B4;refine tk 9 hW ?_;refine tk 10 hW ?_;refine oN_ 11 (fun wz=>wz=w4.setCell (S 0) (.slice aa 1 ca)) ?a_g11 ?a_n11;case a_g11=>
  intro a' K Q ha hK;have e0:=te ha 27;have e1:=te ha 25;clear ha;go_simp;exact hK undef _ rfl
 case a_n11=>
 rintro w5 rfl;refine⟨⟨(FI (Aq hSA)).trans hW.1,(FI (Aq hSA)).trans hW.2⟩,?_⟩;refine⟨by kernel_rfl,?_⟩;go_wp2;go_end0;exact DH.mk (KY.out.then_ KKW.out) LS.out KB4.out (Bw OW'.out KY.out.size)
theorem Rc (w:World) (S A:Nat) (xs:List Value) (hx:xs[2]?=some (.slice none 0 0)) (b:AF w S 30 xs) (hA:A<w.heap.size) (hSA:S≠A) (c0:w.cell? (A 0)=some (.string ⟨#[114,101,115,101,116]⟩)) (c1:w.cell? (A 1)=some (.string ⟨#[48]⟩)):
 Calls prog 236 #[.pointer S, .slice A 2 2] w (DH w S 2 64 1 xs [.int .i64 0]):=by
 obtain⟨i0,KI,KZ0,KZ1,KZ2⟩:=ik_ GW;have BW:=Ae b;have LS:=Ae b.lt;clear b;go_in;go_wp2_with (go_at_call 274;refine(Fd _).mono ?_;rintro e w ⟨rfl,rfl⟩);obtain⟨Y,hY⟩:=ex w.drew;have KY:=Ae (show AJ w Y by rw [<-hY];exact(kx_).drew);have BY:=Ae (show AF Y S 30 xs by rw [<-hY];exact BW.out.drew);have SH:=Ae (show ∀W,AJ Y W->W.cell? (A 1)=some (.string ⟨#[48]⟩) from fun W kk=>((KY.out.then_ kk).cell (p:=(A 1)) hA id).trans c1);have CF:=Ae (show ∀W,AJ Y W->W.cell? (S 2)=some (.slice none 0 0) from fun W kk=>((BY.out.keep kk id).cell 2).trans hx);have lA:A<Y.heap.size:=Bo hA KY.out.size;refine rh_ (fun wz=>wz.cell? (A 1)=some (.string ⟨#[48]⟩)) (by rw [hY];exact SH.out _ (kx_)) (fun hE=>?_);rw [hY] at hE ⊢;clear hY c0 c1;refine tk 0 hE ?_;refine tk 1 hE ?_;refine tk 2 hE ?_;refine tk 3 hE ?_;refine tk 5 hE ?_;refine tk 6 hE ?_;refine tk 7 hE ?_
 refine wl_ (fuel:=4) [4,8,9,10] (fun i vals W=>match i with
  | 4=>vals 4= .slice none 0 0
  | 8=>vals 8= .int .i64 0
  | 9=>vals 9= .agg #[.int .i64 0]
  | _=>∃h,vals 10= .slice (some ⟨h,0,none⟩) 1 1∧Y.heap.size<=h∧AF W h 64 [.int .i64 0])
  (AJ Y) (fun i W W'=>AJ W W') ?b_j ?b_step ?b_fin
 case b_j=>exact AD.refl _ Y
 case b_step=>
  intro i hi o ho vals ρ W hJ hd ev;simp only [m1,m0,or_false] at hi;rcases hi with rfl | rfl | rfl | rfl
  . cases ho;intro a' K Q ha hK;subst ha;have e1:=tv (ev (.tmp 70) (by kernel_rfl));have q0:=CF.out W hJ;go_simp;exact hK _ _ ⟨kx_,hJ,SH.out _ hJ,Ap⟩
  . cases ho;intro a' K Q ha hK;subst ha;have e0:=tv (ev (.tmp 74) (by kernel_rfl));go_simp;refine mn_ (Nn _) ?_;exact hK _ _ ⟨kx_,hJ,SH.out _ hJ,Ap⟩
  . cases ho;obtain⟨v0,d0⟩:=he_ hd 8;intro a' K Q ha hK;subst ha;have g0:=et ((d0 75 rfl).trans v0);go_simp;exact hK _ _ ⟨kx_,hJ,SH.out _ hJ,Ap⟩
  . cases ho;obtain⟨v0,d0⟩:=he_ hd 9;intro a' K Q ha hK;subst ha;have g0:=et ((d0 76 rfl).trans v0);go_simp;have KN:AJ Y (W.alloc (.cells #[.int .i64 0] 64)):=hJ.alloc _;exact hK _ _ ⟨(kx_).alloc _,KN,SH.out _ KN,W.heap.size,by rw [AQ],hJ.size,AF.new W [.int .i64 0] 64⟩
 case b_fin=>
 intro vals W hJ hV;have vl:=Jh hV 4;have vi0:=Jh hV 8;have vi1:=Jh hV 9;obtain⟨h,vb,hh,bh⟩:=Jh hV 10;simp only [Am,AR,dstOf,De,Bl,Bk,CM,pu,s0,s1,if_true];rw [vl,vi0,vi1,vb];clear vl vi0 vi1 vb hV;refine oA_ 11 78 (fun v wx=>∃ao c',v= .slice ao 1 c'∧wx.ownsRow Y.heap.size 64 1 (.slice ao 1 c') 1 [.int .i64 0]∧AJ Y wx) ?b_g11 ?b_n11;case b_g11=>
  intro a' K Q ha hK;have e0:a'.eval (.tmp 71)= .slice none 0 0:=by rw [ha];rfl
  have e1:a'.eval (.tmp 77)= .slice h 1 1:=by rw [ha];rfl
  clear ha;refine wp_append_own _ (.tmp 71) (.tmp 77) 27 rfl Y.heap.size 64 i0 _ 1 8 underlying27 KI.out KZ0.out KZ1.out KZ2.out rfl (by decide) _ _ _ e0 (Gs) ⟨h,0,none⟩ 1 1 [.int .i64 0] e1 rfl (fun j u h=>by rw [Af,Ag,bh.cell j];exact h) (by simp [Value.oneCell']) (by unfold maxLen;omega) (by omega) hJ.size ?_;intro v5 w5 own5 grow5 _;obtain⟨ao,c',hv⟩:=AI own5;subst hv;exact hK _ _ ⟨ao,c',rfl,own5,hJ.grown grow5 (fun j e _=>by cases e)⟩
 case b_n11=>
 rintro v0 w4 ⟨aa,ca,rfl,OW,KW⟩;refine⟨SH.out _ KW,?_⟩;simp only [pu,s0,s1];have hW:=SH.out _ KW;have B4:=BY.out.keep KW id;have f4:=B4.frozen 2;have g4:=(B4.cell 2).trans hx;have KKW:=Ae KW;have OW':=Ae OW;have KB4:=Ae B4;clear OW KW hJ bh B4;refine tk 12 hW ?_;refine tk 13 hW ?_;refine oN_ 14 (fun wz=>wz=w4.setCell (S 2) (.slice aa 1 ca)) ?b_g14 ?b_n14;case b_g14=>
  intro a' K Q ha hK;have e0:=te ha 80;have e1:=te ha 78;clear ha;go_simp;exact hK undef _ rfl
 case b_n14=>
 rintro w5 rfl;refine⟨(FI (Aq hSA)).trans hW,?_⟩;refine⟨by kernel_rfl,?_⟩;go_wp2;go_end0;exact DH.mk (KY.out.then_ KKW.out) LS.out KB4.out (Bw OW'.out KY.out.size)
theorem PU (w:World) (S A:Nat) (xs:List Value) (hx:xs[1]?=some (.slice none 0 0)) (b:AF w S 30 xs) (hA:A<w.heap.size) (hSA:S≠A) (c0:w.cell? (A 0)=some (.string ⟨#[100,111,109,97,105,110]⟩)) (c1:w.cell? (A 1)=some (.string ⟨#[45]⟩)) (c2:w.cell? (A 2)=some (.string ⟨#[48]⟩)) (c3:w.cell? (A 3)=some (.string ⟨#[107,101,101,112]⟩)):
 Calls prog 236 #[.pointer S, .slice A 4 4] w (DH w S 1 47 3 xs [.int .i64 (-1), .int .i64 0, .bool true]):=by
 obtain⟨i0,KI,KZ0,KZ1,KZ2⟩:=ik_ Gy;have BW:=Ae b;have LS:=Ae b.lt;clear b;go_in;go_wp2_with (go_at_call 274;refine(Fd _).mono ?_;rintro e w ⟨rfl,rfl⟩);obtain⟨Y,hY⟩:=ex w.drew;have KY:=Ae (show AJ w Y by rw [<-hY];exact(kx_).drew);have BY:=Ae (show AF Y S 30 xs by rw [<-hY];exact BW.out.drew);have SH:=Ae (show ∀W,AJ Y W->W.cell? (A 2)=some (.string ⟨#[48]⟩)∧W.cell? (A 3)=some (.string ⟨#[107,101,101,112]⟩) from fun W kk=>⟨((KY.out.then_ kk).cell (p:=(A 2)) hA id).trans c2,((KY.out.then_ kk).cell (p:=(A 3)) hA id).trans c3⟩);have CF:=Ae (show ∀W,AJ Y W->W.cell? (S 1)=some (.slice none 0 0) from fun W kk=>((BY.out.keep kk id).cell 1).trans hx);have lA:A<Y.heap.size:=Bo hA KY.out.size;refine rh_ (fun wz=>wz.cell? (A 2)=some (.string ⟨#[48]⟩)∧wz.cell? (A 3)=some (.string ⟨#[107,101,101,112]⟩)) (by rw [hY];exact SH.out _ (kx_)) (fun hE=>?_);rw [hY] at hE ⊢;clear hY c0 c1 c2 c3;refine tk 0 hE ?_;refine tk 1 hE ?_;refine tk 2 hE ?_;refine tk 3 hE ?_;refine tk 5 hE ?_;refine tk 6 hE ?_;refine tk 7 hE ?_;refine tk 8 hE ?_;refine tk 10 hE ?_;refine tk 11 hE ?_;refine tk 12 hE ?_
 refine wl_ (fuel:=4) [4,9,13,14,15] (fun i vals W=>match i with
  | 4=>vals 4= .slice none 0 0
  | 9=>vals 9= .int .i64 0
  | 13=>vals 13= .bool true
  | 14=>vals 14= .agg #[.int .i64 (-1), .int .i64 0, .bool true]
  | _=>∃h,vals 15= .slice (some ⟨h,0,none⟩) 1 1∧Y.heap.size<=h∧AF W h 47 [.int .i64 (-1), .int .i64 0, .bool true])
  (AJ Y) (fun i W W'=>AJ W W') ?c_j ?c_step ?c_fin
 case c_j=>exact AD.refl _ Y
 case c_step=>
  intro i hi o ho vals ρ W hJ hd ev;simp only [m1,m0,or_false] at hi;rcases hi with rfl | rfl | rfl | rfl | rfl
  . cases ho;intro a' K Q ha hK;subst ha;have e1:=tv (ev (.tmp 45) (by kernel_rfl));have q0:=CF.out W hJ;go_simp;exact hK _ _ ⟨kx_,hJ,SH.out _ hJ,Ap⟩
  . cases ho;intro a' K Q ha hK;subst ha;have e0:=tv (ev (.tmp 50) (by kernel_rfl));go_simp;refine mn_ (Nn _) ?_;exact hK _ _ ⟨kx_,hJ,SH.out _ hJ,Ap⟩
  . cases ho;intro a' K Q ha hK;subst ha;have e0:=tv (ev (.tmp 54) (by kernel_rfl));go_simp;refine mn_ (Zk _) ?_;exact hK _ _ ⟨kx_,hJ,SH.out _ hJ,Ap⟩
  . cases ho;obtain⟨v0,d0⟩:=he_ hd 9;obtain⟨v1,d1⟩:=he_ hd 13;intro a' K Q ha hK;subst ha;have g0:=et ((d0 51 rfl).trans v0);have g1:=et ((d1 55 rfl).trans v1);have e0:=tv (ev (.tmp 47) (by kernel_rfl));go_simp;exact hK _ _ ⟨kx_,hJ,SH.out _ hJ,Ap⟩
  . cases ho;obtain⟨v0,d0⟩:=he_ hd 14;intro a' K Q ha hK;subst ha;have g0:=et ((d0 56 rfl).trans v0);go_simp;have KN:AJ Y (W.alloc (.cells #[.int .i64 (-1), .int .i64 0, .bool true] 47)):=hJ.alloc _;exact hK _ _ ⟨(kx_).alloc _,KN,SH.out _ KN,W.heap.size,by rw [AQ],hJ.size,AF.new W [.int .i64 (-1), .int .i64 0, .bool true] 47⟩
 case c_fin=>
 intro vals W hJ hV;have vl:=Jh hV 4;have vi0:=Jh hV 9;have vi1:=Jh hV 13;have vi2:=Jh hV 14;obtain⟨h,vb,hh,bh⟩:=Jh hV 15;simp only [Am,AR,dstOf,De,Bl,Bk,CM,pu,s0,s1,if_true];rw [vl,vi0,vi1,vi2,vb];clear vl vi0 vi1 vi2 vb hV;refine oA_ 16 58 (fun v wx=>∃ao c',v= .slice ao 1 c'∧wx.ownsRow Y.heap.size 47 3 (.slice ao 1 c') 1 [.int .i64 (-1), .int .i64 0, .bool true]∧AJ Y wx) ?c_g16 ?c_n16;case c_g16=>
  intro a' K Q ha hK;have e0:a'.eval (.tmp 46)= .slice none 0 0:=by rw [ha];rfl
  have e1:a'.eval (.tmp 57)= .slice h 1 1:=by rw [ha];rfl
  clear ha;refine wp_append_own _ (.tmp 46) (.tmp 57) 26 rfl Y.heap.size 47 i0 _ 3 24 underlying26 KI.out KZ0.out KZ1.out KZ2.out rfl (by decide) _ _ _ e0 (Gs) ⟨h,0,none⟩ 1 1 [.int .i64 (-1), .int .i64 0, .bool true] e1 rfl (fun j u h=>by rw [Af,Ag,bh.cell j];exact h) (by simp [Value.oneCell']) (by unfold maxLen;omega) (by omega) hJ.size ?_;intro v5 w5 own5 grow5 _;obtain⟨ao,c',hv⟩:=AI own5;subst hv;exact hK _ _ ⟨ao,c',rfl,own5,hJ.grown grow5 (fun j e _=>by cases e)⟩
 case c_n16=>
 rintro v0 w4 ⟨aa,ca,rfl,OW,KW⟩;refine⟨SH.out _ KW,?_⟩;simp only [pu,s0,s1];have hW:=SH.out _ KW;have B4:=BY.out.keep KW id;have f4:=B4.frozen 1;have g4:=(B4.cell 1).trans hx;have KKW:=Ae KW;have OW':=Ae OW;have KB4:=Ae B4;clear OW KW hJ bh B4;refine tk 17 hW ?_;refine tk 18 hW ?_;refine oN_ 19 (fun wz=>wz=w4.setCell (S 1) (.slice aa 1 ca)) ?c_g19 ?c_n19;case c_g19=>
  intro a' K Q ha hK;have e0:=te ha 60;have e1:=te ha 58;clear ha;go_simp;exact hK undef _ rfl
 case c_n19=>
 rintro w5 rfl;refine⟨⟨(FI (Aq hSA)).trans hW.1,(FI (Aq hSA)).trans hW.2⟩,?_⟩;refine⟨by kernel_rfl,?_⟩;go_wp2;go_end0;exact DH.mk (KY.out.then_ KKW.out) LS.out KB4.out (Bw OW'.out KY.out.size)
theorem PV (w:World) (S A:Nat) (xs:List Value) (hx:xs[3]?=some (.slice none 0 0)) (b:AF w S 30 xs) (hA:A<w.heap.size) (hSA:S≠A) (c0:w.cell? (A 0)=some (.string ⟨#[100,101,118,105,99,101]⟩)) (c1:w.cell? (A 1)=some (.string ⟨#[48]⟩)) (c2:w.cell? (A 2)=some (.string ⟨#[48]⟩)) (c3:w.cell? (A 3)=some (.string ⟨#[48]⟩)) (c4:w.cell? (A 4)=some (.string ⟨#[48]⟩)):
 Calls prog 236 #[.pointer S, .slice A 5 5] w (DH w S 3 40 6 xs [.int .i64 0, .int .i64 0, .int .i64 0, .int .u32 0, .slice none 0 0, .slice none 0 0]):=by
 obtain⟨i0,KI,KZ0,KZ1,KZ2⟩:=ik_ Gz;have BW:=Ae b;have LS:=Ae b.lt;clear b;go_in;go_wp2_with (go_at_call 274;refine(Fd _).mono ?_;rintro e w ⟨rfl,rfl⟩);refine(T8 w A 1 3 _ (fun i hi=>by rcases(show i=0∨i=1∨i=2 by omega) with rfl | rfl | rfl;exact c1;exact c2;exact c3) (by omega) hA).mono ?_;rintro e w1 ⟨a1,z1,rfl,k1,o1,_⟩;rw [show PD 3=Av 3 1 (fun _ _=> .int .i64 0) by kernel_rfl] at o1;obtain⟨g,hg,R1,hgw⟩:=A5 o1 (by omega);subst hg;have n0:=R1.cell 0 0 (by omega) (by omega);have n1:=R1.cell 1 0 (by omega) (by omega);have n2:=R1.cell 2 0 (by omega) (by omega);simp only [Nat.zero_mul,Nat.one_mul,Nat.mul_one,Ag,Nat.add_zero] at n0 n1 n2;have lg:=R1.lt;have hSg:S≠g:=by have:=LS.out;omega
 have KW1:=Ae k1;clear o1 R1 k1;go_wp2_with fail;obtain⟨Y,hY⟩:=ex w1.drew;have K1:=Ae (show AJ w1 Y by rw [<-hY];exact(kx_).drew);have KY:=Ae (show AJ w Y from KW1.out.then_ K1.out);have BY:=Ae (show AF Y S 30 xs by rw [<-hY];exact(BW.out.keep KW1.out id).drew);have SH:=Ae (show ∀W,AJ Y W->W.cell? (A 4)=some (.string ⟨#[48]⟩)∧W.cell? (g 0)=some (.int .i64 0)∧W.cell? (g 1)=some (.int .i64 0)∧W.cell? (g 2)=some (.int .i64 0) from fun W kk=>⟨((KY.out.then_ kk).cell (p:=(A 4)) hA id).trans c4,((K1.out.then_ kk).cell (p:=(g 0)) lg id).trans n0,((K1.out.then_ kk).cell (p:=(g 1)) lg id).trans n1,((K1.out.then_ kk).cell (p:=(g 2)) lg id).trans n2⟩);have CF:=Ae (show ∀W,AJ Y W->W.cell? (S 3)=some (.slice none 0 0) from fun W kk=>((BY.out.keep kk id).cell 3).trans hx);have lA:A<Y.heap.size:=Bo hA KY.out.size;refine rh_ (fun wz=>wz.cell? (A 4)=some (.string ⟨#[48]⟩)∧wz.cell? (g 0)=some (.int .i64 0)∧wz.cell? (g 1)=some (.int .i64 0)∧wz.cell? (g 2)=some (.int .i64 0)) (by rw [hY];exact SH.out _ (kx_)) (fun hE=>?_);rw [hY] at hE ⊢;clear hY n0 n1 n2 c0 c1 c2 c3 c4;refine tk 0 hE ?_;refine tk 1 hE ?_;refine tk 2 hE ?_;refine tk 3 hE ?_;refine tk 5 hE ?_;refine tk 6 hE ?_;refine tk 7 hE ?_;refine tk 8 hE ?_;refine tk 9 hE ?_;refine tk 10 hE ?_;refine tk 11 hE ?_;refine tk 12 hE ?_;refine tk 13 hE ?_;refine tk 14 hE ?_;refine tk 15 hE ?_;refine tk 16 hE ?_;refine tk 18 hE ?_;refine tk 19 hE ?_
 refine wl_ (fuel:=4) [4,17,20,21,22] (fun i vals W=>match i with
  | 4=>vals 4= .slice none 0 0
  | 17=>vals 17= .int .u32 0
  | 20=>vals 20= .slice none 0 0
  | 21=>vals 21= .agg #[.int .i64 0, .int .i64 0, .int .i64 0, .int .u32 0, .slice none 0 0, .slice none 0 0]
  | _=>∃h,vals 22= .slice (some ⟨h,0,none⟩) 1 1∧Y.heap.size<=h∧AF W h 40 [.int .i64 0, .int .i64 0, .int .i64 0, .int .u32 0, .slice none 0 0, .slice none 0 0])
  (AJ Y) (fun i W W'=>AJ W W') ?d_j ?d_step ?d_fin
 case d_j=>exact AD.refl _ Y
 case d_step=>
  intro i hi o ho vals ρ W hJ hd ev;simp only [m1,m0,or_false] at hi;rcases hi with rfl | rfl | rfl | rfl | rfl
  . cases ho;intro a' K Q ha hK;subst ha;have e1:=tv (ev (.tmp 93) (by kernel_rfl));have q0:=CF.out W hJ;go_simp;exact hK _ _ ⟨kx_,hJ,SH.out _ hJ,Ap⟩
  . cases ho;intro a' K Q ha hK;subst ha;have e0:=tv (ev (.tmp 106) (by kernel_rfl));go_simp;refine mn_ (Wv _) ?_;exact hK _ _ ⟨kx_,hJ,SH.out _ hJ,Ap⟩
  . cases ho;intro a' K Q ha hK;subst ha;have e0:=tv (ev (.tmp 109) (by kernel_rfl));go_simp;refine(T8 W A 1 0 0 (fun i hi=>by omega) (by omega) (Bo lA hJ.size)).mono ?_;rintro e w5 ⟨aa,cc,rfl,k5,_,nil⟩;obtain⟨rfl,rfl⟩:=nil rfl;exact hK _ _ ⟨k5,hJ.then_ k5,SH.out _ (hJ.then_ k5),Ap⟩
  . cases ho;obtain⟨v0,d0⟩:=he_ hd 17;obtain⟨v1,d1⟩:=he_ hd 20;intro a' K Q ha hK;subst ha;have g0:=et ((d0 107 rfl).trans v0);have g1:=et ((d1 110 rfl).trans v1);have e0:=tv (ev (.tmp 97) (by kernel_rfl));have e1:=tv (ev (.tmp 100) (by kernel_rfl));have e2:=tv (ev (.tmp 103) (by kernel_rfl));go_simp;exact hK _ _ ⟨kx_,hJ,SH.out _ hJ,Ap⟩
  . cases ho;obtain⟨v0,d0⟩:=he_ hd 21;intro a' K Q ha hK;subst ha;have g0:=et ((d0 111 rfl).trans v0);go_simp;have KN:AJ Y (W.alloc (.cells #[.int .i64 0, .int .i64 0, .int .i64 0, .int .u32 0, .slice none 0 0, .slice none 0 0] 40)):=hJ.alloc _;exact hK _ _ ⟨(kx_).alloc _,KN,SH.out _ KN,W.heap.size,by rw [AQ],hJ.size,AF.new W [.int .i64 0, .int .i64 0, .int .i64 0, .int .u32 0, .slice none 0 0, .slice none 0 0] 40⟩
 case d_fin=>
 intro vals W hJ hV;have vl:=Jh hV 4;have vi0:=Jh hV 17;have vi1:=Jh hV 20;have vi2:=Jh hV 21;obtain⟨h,vb,hh,bh⟩:=Jh hV 22;simp only [Am,AR,dstOf,De,Bl,Bk,CM,pu,s0,s1,if_true];rw [vl,vi0,vi1,vi2,vb];clear vl vi0 vi1 vi2 vb hV;refine oA_ 23 113 (fun v wx=>∃ao c',v= .slice ao 1 c'∧wx.ownsRow Y.heap.size 40 6 (.slice ao 1 c') 1 [.int .i64 0, .int .i64 0, .int .i64 0, .int .u32 0, .slice none 0 0, .slice none 0 0]∧AJ Y wx) ?d_g23 ?d_n23;case d_g23=>
  intro a' K Q ha hK;have e0:a'.eval (.tmp 94)= .slice none 0 0:=by rw [ha];rfl
  have e1:a'.eval (.tmp 112)= .slice h 1 1:=by rw [ha];rfl
  clear ha;refine wp_append_own _ (.tmp 94) (.tmp 112) 28 rfl Y.heap.size 40 i0 _ 6 80 underlying28 KI.out KZ0.out KZ1.out KZ2.out rfl (by decide) _ _ _ e0 (Gs) ⟨h,0,none⟩ 1 1 [.int .i64 0, .int .i64 0, .int .i64 0, .int .u32 0, .slice none 0 0, .slice none 0 0] e1 rfl (fun j u h=>by rw [Af,Ag,bh.cell j];exact h) (by simp [Value.oneCell']) (by unfold maxLen;omega) (by omega) hJ.size ?_;intro v5 w5 own5 grow5 _;obtain⟨ao,c',hv⟩:=AI own5;subst hv;exact hK _ _ ⟨ao,c',rfl,own5,hJ.grown grow5 (fun j e _=>by cases e)⟩
 case d_n23=>
 rintro v0 w4 ⟨aa,ca,rfl,OW,KW⟩;refine⟨SH.out _ KW,?_⟩;simp only [pu,s0,s1];have hW:=SH.out _ KW;have B4:=BY.out.keep KW id;have f4:=B4.frozen 3;have g4:=(B4.cell 3).trans hx;have KKW:=Ae KW;have OW':=Ae OW;have KB4:=Ae B4;clear OW KW hJ bh B4;refine tk 24 hW ?_;refine tk 25 hW ?_;refine oN_ 26 (fun wz=>wz=w4.setCell (S 3) (.slice aa 1 ca)) ?d_g26 ?d_n26;case d_g26=>
  intro a' K Q ha hK;have e0:=te ha 115;have e1:=te ha 113;clear ha;go_simp;exact hK undef _ rfl
 case d_n26=>
 rintro w5 rfl;refine⟨⟨(FI (Aq hSA)).trans hW.1,(FI (Aq hSg)).trans hW.2.1,(FI (Aq hSg)).trans hW.2.2.1,(FI (Aq hSg)).trans hW.2.2.2⟩,?_⟩;refine⟨by kernel_rfl,?_⟩;go_wp2;go_end0;exact DH.mk (KY.out.then_ KKW.out) LS.out KB4.out (Bw OW'.out KY.out.size)
end Go.Proofs.YtpekoejdnhaohaaGreatDoor
