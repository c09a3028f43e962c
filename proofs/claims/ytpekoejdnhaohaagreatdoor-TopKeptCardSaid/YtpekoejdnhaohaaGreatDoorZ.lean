/- What Parse, the building, the telling and awake compute: awake answers true. -/
import Derived.Test.YtpekoejdnhaohaaGreatDoorY
namespace Go.Proofs.YtpekoejdnhaohaaGreatDoor
open Go.RowKit Tryz
set_option maxRecDepth 100000
set_option maxHeartbeats 40000000
set_option linter.all false
variable {m:Int} {R RW S T k:Nat} {b c:Nat->Nat} {a:Nat->Option Addr} {tv:Nat->Value} {W W' w w0:World}
def IG:ByteArray:=⟨#[99,108,111,99,107,32,111,32,57,10,100,111,109,97,105,110,32,45,32,48,32,107,101,101,112,10,114,101,115,101,116,32,48,10,100,101,118,105,99,101,32,48,32,48,32,48,32,48,10]⟩
def Kz:ByteArray:=⟨#[100,111,109,97,105,110,32,45,32,48,32,107,101,101,112,10,114,101,115,101,116,32,48,10,100,101,118,105,99,101,32,48,32,48,32,48,32,48,10]⟩
def Ky:ByteArray:=⟨#[114,101,115,101,116,32,48,10,100,101,118,105,99,101,32,48,32,48,32,48,32,48,10]⟩
def Kx:ByteArray:=⟨#[100,101,118,105,99,101,32,48,32,48,32,48,32,48,10]⟩
def Tf:ByteArray:=⟨#[]⟩
def My:ByteArray:=⟨#[99,108,111,99,107,32,111,32,57]⟩
def Mx:ByteArray:=⟨#[100,111,109,97,105,110,32,45,32,48,32,107,101,101,112]⟩
def Mw:ByteArray:=⟨#[114,101,115,101,116,32,48]⟩
def Mv:ByteArray:=⟨#[100,101,118,105,99,101,32,48,32,48,32,48,32,48]⟩
theorem yG:Lib.cut IG.data.toList (⟨#[10]⟩:ByteArray).data.toList=(My.data.toList,Kz.data.toList,true):=by kernel_rfl
theorem cut_0 (w:World) (m:Int) (hm:w.cell? ⟨0,0,none⟩=some (.int .i64 m)):
 Calls prog 235 #[.string IG, .string ⟨#[10]⟩] w fun e w'=>e= .returned (.tuple #[.string My, .string Kz, .bool true])∧∃n,w'=w.drewN n:=by
 have h:=strings_Cut IG ⟨#[10]⟩ m w (by decide) hm;rw [yG] at h;exact h
theorem XG:Lib.countB My ⟨#[32]⟩=2:=by kernel_rfl
theorem Uk:Lib.splitB ⟨#[32]⟩ 0 2 My=[⟨#[99,108,111,99,107]⟩,⟨#[111]⟩,⟨#[57]⟩]:=by kernel_rfl
theorem Zq (w:World) (m:Int) (hm:w.cell? ⟨0,0,none⟩=some (.int .i64 m)):
 Calls prog 44 #[.string My, .string ⟨#[32]⟩] w fun e w'=>e= .returned (.slice w.heap.size 3 3)∧w'=w.alloc (.cells #[.string ⟨#[99,108,111,99,107]⟩, .string ⟨#[111]⟩, .string ⟨#[57]⟩] 9):=by
 have h:=strings_Split My ⟨#[32]⟩ m w (by decide) hm (by decide);rw [XG,Uk] at h;exact h
theorem yF:Lib.cut Kz.data.toList (⟨#[10]⟩:ByteArray).data.toList=(Mx.data.toList,Ky.data.toList,true):=by kernel_rfl
theorem cut_1 (w:World) (m:Int) (hm:w.cell? ⟨0,0,none⟩=some (.int .i64 m)):
 Calls prog 235 #[.string Kz, .string ⟨#[10]⟩] w fun e w'=>e= .returned (.tuple #[.string Mx, .string Ky, .bool true])∧∃n,w'=w.drewN n:=by
 have h:=strings_Cut Kz ⟨#[10]⟩ m w (by decide) hm;rw [yF] at h;exact h
theorem XF:Lib.countB Mx ⟨#[32]⟩=3:=by kernel_rfl
theorem Uj:Lib.splitB ⟨#[32]⟩ 0 3 Mx=[⟨#[100,111,109,97,105,110]⟩,⟨#[45]⟩,⟨#[48]⟩,⟨#[107,101,101,112]⟩]:=by kernel_rfl
theorem Zp (w:World) (m:Int) (hm:w.cell? ⟨0,0,none⟩=some (.int .i64 m)):
 Calls prog 44 #[.string Mx, .string ⟨#[32]⟩] w fun e w'=>e= .returned (.slice w.heap.size 4 4)∧w'=w.alloc (.cells #[.string ⟨#[100,111,109,97,105,110]⟩, .string ⟨#[45]⟩, .string ⟨#[48]⟩, .string ⟨#[107,101,101,112]⟩] 9):=by
 have h:=strings_Split Mx ⟨#[32]⟩ m w (by decide) hm (by decide);rw [XF,Uj] at h;exact h
theorem yE:Lib.cut Ky.data.toList (⟨#[10]⟩:ByteArray).data.toList=(Mw.data.toList,Kx.data.toList,true):=by kernel_rfl
theorem cut_2 (w:World) (m:Int) (hm:w.cell? ⟨0,0,none⟩=some (.int .i64 m)):
 Calls prog 235 #[.string Ky, .string ⟨#[10]⟩] w fun e w'=>e= .returned (.tuple #[.string Mw, .string Kx, .bool true])∧∃n,w'=w.drewN n:=by
 have h:=strings_Cut Ky ⟨#[10]⟩ m w (by decide) hm;rw [yE] at h;exact h
theorem XE:Lib.countB Mw ⟨#[32]⟩=1:=by kernel_rfl
theorem Ui:Lib.splitB ⟨#[32]⟩ 0 1 Mw=[⟨#[114,101,115,101,116]⟩,⟨#[48]⟩]:=by kernel_rfl
theorem Zo (w:World) (m:Int) (hm:w.cell? ⟨0,0,none⟩=some (.int .i64 m)):
 Calls prog 44 #[.string Mw, .string ⟨#[32]⟩] w fun e w'=>e= .returned (.slice w.heap.size 2 2)∧w'=w.alloc (.cells #[.string ⟨#[114,101,115,101,116]⟩, .string ⟨#[48]⟩] 9):=by
 have h:=strings_Split Mw ⟨#[32]⟩ m w (by decide) hm (by decide);rw [XE,Ui] at h;exact h
theorem yD:Lib.cut Kx.data.toList (⟨#[10]⟩:ByteArray).data.toList=(Mv.data.toList,Tf.data.toList,true):=by kernel_rfl
theorem cut_3 (w:World) (m:Int) (hm:w.cell? ⟨0,0,none⟩=some (.int .i64 m)):
 Calls prog 235 #[.string Kx, .string ⟨#[10]⟩] w fun e w'=>e= .returned (.tuple #[.string Mv, .string Tf, .bool true])∧∃n,w'=w.drewN n:=by
 have h:=strings_Cut Kx ⟨#[10]⟩ m w (by decide) hm;rw [yD] at h;exact h
theorem XD:Lib.countB Mv ⟨#[32]⟩=4:=by kernel_rfl
theorem Uh:Lib.splitB ⟨#[32]⟩ 0 4 Mv=[⟨#[100,101,118,105,99,101]⟩,⟨#[48]⟩,⟨#[48]⟩,⟨#[48]⟩,⟨#[48]⟩]:=by kernel_rfl
theorem Zn (w:World) (m:Int) (hm:w.cell? ⟨0,0,none⟩=some (.int .i64 m)):
 Calls prog 44 #[.string Mv, .string ⟨#[32]⟩] w fun e w'=>e= .returned (.slice w.heap.size 5 5)∧w'=w.alloc (.cells #[.string ⟨#[100,101,118,105,99,101]⟩, .string ⟨#[48]⟩, .string ⟨#[48]⟩, .string ⟨#[48]⟩, .string ⟨#[48]⟩] 9):=by
 have h:=strings_Split Mv ⟨#[32]⟩ m w (by decide) hm (by decide);rw [XD,Uh] at h;exact h
def pTy:Nat->Nat | 0=>62 | 1=>47 | 2=>64 | _=>40
def pSz:Nat->Nat | 0=>6 | 1=>3 | 2=>1 | _=>6
def pCs:Nat->List Value
 | 0=>[.int .u8 111, .slice none 0 0, .int .u64 9, .int .i64 0, .int .i64 0, .int .i64 0]
 | 1=>[.int .i64 (-1), .int .i64 0, .bool true]
 | 2=>[.int .i64 0]
 | _=>[.int .i64 0, .int .i64 0, .int .i64 0, .int .u32 0, .slice none 0 0, .slice none 0 0]
def pV (a:Nat->Option Addr) (c:Nat->Nat) (k i:Nat):Value:=if i<k then .slice (a i) 1 (c i) else .slice none 0 0
abbrev E3 (a:Nat->Option Addr) (c:Nat->Nat) (k:Nat):List Value:=[pV a c k 0,pV a c k 1,pV a c k 2,pV a c k 3]
theorem Rx (a:Nat->Option Addr) (c:Nat->Nat) (k:Nat) (hk:k<4) (x:Option Addr) (y:Nat):(E3 a c k).set k (.slice x 1 y)=E3 (upd a k x) (upd c k y) (k+1):=by
 rcases(show k=0∨k=1∨k=2∨k=3 by omega) with rfl | rfl | rfl | rfl <;> simp [E3,pV,upd]
structure PSt (S:Nat) (a:Nat->Option Addr) (c b:Nat->Nat) (k:Nat) (W:World):Prop where
 bx:AF W S 30 (E3 a c k)
 own:∀i,i<k->S<b i∧W.ownsRow (b i) (pTy i) (pSz i) (.slice (a i) 1 (c i)) 1 (pCs i)
theorem PSt.step {e:Ending} (h:PSt S a c b k W) (hk:k<4) (t:DH W S k (pTy k) (pSz k) (E3 a c k) (pCs k) e W'):
 e= .returned (.tuple #[])∧AD (· =S) W W'∧∃a' c' b',PSt S a' c' b' (k+1) W':=by
 obtain⟨a0,c0,rfl,kk,bx,ow⟩:=t;refine⟨rfl,kk,upd a k a0,upd c k c0,upd b k W.heap.size,by rw [Rx a c k hk] at bx;exact bx,fun i hi=>?_⟩;by_cases e:i=k
 . subst e;simp only [upd_same];exact⟨h.bx.lt,ow⟩
 . rw [uo_ e,uo_ e,uo_ e];have g:=h.own i (by omega);exact⟨g.1,AW g.2 kk fun q hq e=>by have:=(g.2.lt q hq).1;rw [show q=S from e] at this;omega⟩
theorem PSt.new (h:PSt S a c b k W) (n:AJ W W'):PSt S a c b k W':=
 ⟨h.bx.keep n id,fun i hi=>⟨(h.own i hi).1,AW (h.own i hi).2 n fun _ _=>id⟩⟩
theorem Rw (p q:Addr) (w:World):
 CallsD prog 234 #[.pointer (some p), .pointer (some q)] .returning w fun e u' w'=>e= .returned (.tuple #[])∧u'= .returning∧w'=w:=by
 refine callsD_of_wpS func234 rfl fun c₀ cs hu=>?_;apply wpS_seq;apply wpS_region;simp [wpOpsS,go_sem,recoverD,hu,ntmps234,Exit.thenS];refine wpS_cond (t:=false) (by simp [Act.eval,Array.replicate]) ?_;simp only [Bool.false_eq_true,if_false];refine wpS_of_wp (wp_skip ?_);cases c₀
 simp_all [bodyPostS,results,results234]
def Kq:Value->Nat | .string b=>b.size | _=>0
def MO:Nat->ByteArray | 0=>IG | 1=>Kz | 2=>Ky | 3=>Kx | _=>Tf
theorem Xd (w:World) (m:Int) (hm:w.cell? ⟨0,0,none⟩=some (.int .i64 m)):
 Calls prog 168 #[.string IG] w fun e w'=>∃v,e= .returned (.tuple #[Kv AM v, .int .i64 0])∧AJ w w'∧A6 w' v AM:=by
 have hmf:=mf (P:=prog);have HM:=Ae hm;have lm:0<w.heap.size:=by
  apply Classical.byContradiction;intro c;rw [World.cell?,Array.getElem?_eq_none (by omega)] at hm;cases hm
 obtain⟨RB,hRB⟩:=ex w.heap.size;have hs0:IG.size=49:=by decide
 clear hm;go_enter_defers func168,ntmps168;go_wp2_with fail;have k3:AJ w (((w.alloc (.cells #[.slice none 0 0, .slice none 0 0, .slice none 0 0, .slice none 0 0] 30)).alloc (.cells #[.int .i64 0] 33)).alloc (.cells #[.slice none 0 0, .slice none 0 0, .slice none 0 0, .slice none 0 0] 30)):=(((kx_).alloc _).alloc _).alloc _;have b0:=((AF.new w [.slice none 0 0, .slice none 0 0, .slice none 0 0, .slice none 0 0] 30).alloc (.cells #[.int .i64 0] 33)).alloc (.cells #[.slice none 0 0, .slice none 0 0, .slice none 0 0, .slice none 0 0] 30);have b1:=(AF.new (w.alloc (.cells #[.slice none 0 0, .slice none 0 0, .slice none 0 0, .slice none 0 0] 30)) [.int .i64 0] 33).alloc (.cells #[.slice none 0 0, .slice none 0 0, .slice none 0 0, .slice none 0 0] 30);have b2:=AF.new ((w.alloc (.cells #[.slice none 0 0, .slice none 0 0, .slice none 0 0, .slice none 0 0] 30)).alloc (.cells #[.int .i64 0] 33)) [.slice none 0 0, .slice none 0 0, .slice none 0 0, .slice none 0 0] 30;rw [Ay] at b1;rw [Ay,Ay] at b2;obtain⟨W3,hW3⟩:=ex (((w.alloc (.cells #[.slice none 0 0, .slice none 0 0, .slice none 0 0, .slice none 0 0] 30)).alloc (.cells #[.int .i64 0] 33)).alloc (.cells #[.slice none 0 0, .slice none 0 0, .slice none 0 0, .slice none 0 0] 30));have B0:AG (AF W3 RB 30 [.slice none 0 0, .slice none 0 0, .slice none 0 0, .slice none 0 0]):=⟨by rw [<-hW3, <-hRB];exact b0⟩;have B1:AG (AF W3 (RB+1) 33 [.int .i64 0]):=⟨by rw [<-hW3, <-hRB];exact b1⟩;have S0:AG (PSt (RB+1+1) (fun _=>none) (fun _=>0) (fun _=>0) 0 W3):=⟨⟨by rw [<-hW3, <-hRB];exact b2,fun i hi=>absurd hi (Nat.not_lt_zero _)⟩⟩;have K3:AG (AJ w W3):=⟨by rw [<-hW3];exact k3⟩;obtain⟨SB,hSB⟩:=ex (RB+1+1);rw [hW3,hSB];rw [hSB] at S0;clear hW3 k3 b0 b1 b2;go_loopw [0] (fun s wr=>∃k,k<=4∧s= .string (MO k)∧AJ w wr∧AF wr RB 30 [.slice none 0 0, .slice none 0 0, .slice none 0 0, .slice none 0 0]∧AF wr (RB+1) 33 [.int .i64 0]∧∃a c b,PSt (SB) a c b k wr) (fun s _=>Kq s);case atStart=>exact⟨0,by omega,rfl,K3.out,B0.out,B1.out,_,_,_,S0.out⟩
 case round=>
  clear K3 B0 B1 S0;obtain⟨k,hk,rfl,kw,b0,b1,a,c,b,ps⟩:=hrel;have KW:=Ae kw;have B0:=Ae b0;have B1:=Ae b1;have PS:=Ae ps;have m1:=(kw.cell (p:=⟨0,0,none⟩) lm id).trans HM.out;clear kw b0 b1 ps;rcases(show k=0∨k=1∨k=2∨k=3∨k=4 by omega) with rfl | rfl | rfl | rfl | rfl
  . have hne:IG.toList.isEmpty=false:=by kernel_rfl
    dsimp only [MO];go_wp2_with fail;refine(cut_0 wr m m1).mono ?_;rintro e w2 ⟨rfl,nq,rfl⟩;have kd:AJ wr (wr.drewN nq):=(kx_).drewN nq;have m2:=(kd.cell (p:=⟨0,0,none⟩) (Bo lm KW.out.size) id).trans m1;have KD:=Ae kd;clear kd;go_wp2_with fail;refine mn_ (Zq (wr.drewN nq) m m2) ?_;have bk:=AF.new (wr.drewN nq) [.string ⟨#[99,108,111,99,107]⟩, .string ⟨#[111]⟩, .string ⟨#[57]⟩] 9;have kk:AJ wr ((wr.drewN nq).alloc (.cells #[.string ⟨#[99,108,111,99,107]⟩, .string ⟨#[111]⟩, .string ⟨#[57]⟩] 9)):=KD.out.alloc _;obtain⟨A,hA⟩:=ex ((wr.drewN nq).heap.size);obtain⟨W4,hW4⟩:=ex ((wr.drewN nq).alloc (.cells #[.string ⟨#[99,108,111,99,107]⟩, .string ⟨#[111]⟩, .string ⟨#[57]⟩] 9));have bk:AF W4 A 9 [.string ⟨#[99,108,111,99,107]⟩, .string ⟨#[111]⟩, .string ⟨#[57]⟩]:=by rw [<-hW4, <-hA];exact bk
    have lA:=bk.lt;have sA:SB≠A:=by have:=PS.out.bx.lt;have:=KD.out.size;omega
    rw [hW4] at kk ⊢;rw [hA];have KK:=Ae kk;have BK:=Ae bk;clear hW4 bk kk KD m2;have PS4:=Ae (PS.out.new KK.out);go_wp2_with fail;refine(Rd W4 (SB) A (E3 a c 0) (by simp [E3,pV]) PS4.out.bx lA sA (BK.out.cell 0) (BK.out.cell 1) (BK.out.cell 2)).mono ?_;rintro e w5 tk5;obtain⟨rfl,k5,a',c',b',ps5⟩:=PS4.out.step (by omega) tk5;have K5:=Ae (show AJ w w5 from(KW.out.then_ KK.out).trans k5 fun j hj e=>absurd (show j=SB from e) (by omega));have B05:=Ae ((B0.out.keep KK.out id).keep k5 (by omega));have B15:=Ae ((B1.out.keep KK.out id).keep k5 (by omega));have P5:=Ae ps5;clear tk5 k5 ps5;go_wp2;go_roundw;case rel=>exact⟨1,by omega,rfl,K5.out,B05.out,B15.out,_,_,_,P5.out⟩
    case measure=>simp [Kq,MO];decide
  . have hne:Kz.toList.isEmpty=false:=by kernel_rfl
    dsimp only [MO];go_wp2_with fail;refine(cut_1 wr m m1).mono ?_;rintro e w2 ⟨rfl,nq,rfl⟩;have kd:AJ wr (wr.drewN nq):=(kx_).drewN nq;have m2:=(kd.cell (p:=⟨0,0,none⟩) (Bo lm KW.out.size) id).trans m1;have KD:=Ae kd;clear kd;go_wp2_with fail;refine mn_ (Zp (wr.drewN nq) m m2) ?_;have bk:=AF.new (wr.drewN nq) [.string ⟨#[100,111,109,97,105,110]⟩, .string ⟨#[45]⟩, .string ⟨#[48]⟩, .string ⟨#[107,101,101,112]⟩] 9;have kk:AJ wr ((wr.drewN nq).alloc (.cells #[.string ⟨#[100,111,109,97,105,110]⟩, .string ⟨#[45]⟩, .string ⟨#[48]⟩, .string ⟨#[107,101,101,112]⟩] 9)):=KD.out.alloc _;obtain⟨A,hA⟩:=ex ((wr.drewN nq).heap.size);obtain⟨W4,hW4⟩:=ex ((wr.drewN nq).alloc (.cells #[.string ⟨#[100,111,109,97,105,110]⟩, .string ⟨#[45]⟩, .string ⟨#[48]⟩, .string ⟨#[107,101,101,112]⟩] 9));have bk:AF W4 A 9 [.string ⟨#[100,111,109,97,105,110]⟩, .string ⟨#[45]⟩, .string ⟨#[48]⟩, .string ⟨#[107,101,101,112]⟩]:=by rw [<-hW4, <-hA];exact bk
    have lA:=bk.lt;have sA:SB≠A:=by have:=PS.out.bx.lt;have:=KD.out.size;omega
    rw [hW4] at kk ⊢;rw [hA];have KK:=Ae kk;have BK:=Ae bk;clear hW4 bk kk KD m2;have PS4:=Ae (PS.out.new KK.out);go_wp2_with fail;refine(PU W4 (SB) A (E3 a c 1) (by simp [E3,pV]) PS4.out.bx lA sA (BK.out.cell 0) (BK.out.cell 1) (BK.out.cell 2) (BK.out.cell 3)).mono ?_;rintro e w5 tk5;obtain⟨rfl,k5,a',c',b',ps5⟩:=PS4.out.step (by omega) tk5;have K5:=Ae (show AJ w w5 from(KW.out.then_ KK.out).trans k5 fun j hj e=>absurd (show j=SB from e) (by omega));have B05:=Ae ((B0.out.keep KK.out id).keep k5 (by omega));have B15:=Ae ((B1.out.keep KK.out id).keep k5 (by omega));have P5:=Ae ps5;clear tk5 k5 ps5;go_wp2;go_roundw;case rel=>exact⟨2,by omega,rfl,K5.out,B05.out,B15.out,_,_,_,P5.out⟩
    case measure=>simp [Kq,MO];decide
  . have hne:Ky.toList.isEmpty=false:=by kernel_rfl
    dsimp only [MO];go_wp2_with fail;refine(cut_2 wr m m1).mono ?_;rintro e w2 ⟨rfl,nq,rfl⟩;have kd:AJ wr (wr.drewN nq):=(kx_).drewN nq;have m2:=(kd.cell (p:=⟨0,0,none⟩) (Bo lm KW.out.size) id).trans m1;have KD:=Ae kd;clear kd;go_wp2_with fail;refine mn_ (Zo (wr.drewN nq) m m2) ?_;have bk:=AF.new (wr.drewN nq) [.string ⟨#[114,101,115,101,116]⟩, .string ⟨#[48]⟩] 9;have kk:AJ wr ((wr.drewN nq).alloc (.cells #[.string ⟨#[114,101,115,101,116]⟩, .string ⟨#[48]⟩] 9)):=KD.out.alloc _;obtain⟨A,hA⟩:=ex ((wr.drewN nq).heap.size);obtain⟨W4,hW4⟩:=ex ((wr.drewN nq).alloc (.cells #[.string ⟨#[114,101,115,101,116]⟩, .string ⟨#[48]⟩] 9));have bk:AF W4 A 9 [.string ⟨#[114,101,115,101,116]⟩, .string ⟨#[48]⟩]:=by rw [<-hW4, <-hA];exact bk
    have lA:=bk.lt;have sA:SB≠A:=by have:=PS.out.bx.lt;have:=KD.out.size;omega
    rw [hW4] at kk ⊢;rw [hA];have KK:=Ae kk;have BK:=Ae bk;clear hW4 bk kk KD m2;have PS4:=Ae (PS.out.new KK.out);go_wp2_with fail;refine(Rc W4 (SB) A (E3 a c 2) (by simp [E3,pV]) PS4.out.bx lA sA (BK.out.cell 0) (BK.out.cell 1)).mono ?_;rintro e w5 tk5;obtain⟨rfl,k5,a',c',b',ps5⟩:=PS4.out.step (by omega) tk5;have K5:=Ae (show AJ w w5 from(KW.out.then_ KK.out).trans k5 fun j hj e=>absurd (show j=SB from e) (by omega));have B05:=Ae ((B0.out.keep KK.out id).keep k5 (by omega));have B15:=Ae ((B1.out.keep KK.out id).keep k5 (by omega));have P5:=Ae ps5;clear tk5 k5 ps5;go_wp2;go_roundw;case rel=>exact⟨3,by omega,rfl,K5.out,B05.out,B15.out,_,_,_,P5.out⟩
    case measure=>simp [Kq,MO];decide
  . have hne:Kx.toList.isEmpty=false:=by kernel_rfl
    dsimp only [MO];go_wp2_with fail;refine(cut_3 wr m m1).mono ?_;rintro e w2 ⟨rfl,nq,rfl⟩;have kd:AJ wr (wr.drewN nq):=(kx_).drewN nq;have m2:=(kd.cell (p:=⟨0,0,none⟩) (Bo lm KW.out.size) id).trans m1;have KD:=Ae kd;clear kd;go_wp2_with fail;refine mn_ (Zn (wr.drewN nq) m m2) ?_;have bk:=AF.new (wr.drewN nq) [.string ⟨#[100,101,118,105,99,101]⟩, .string ⟨#[48]⟩, .string ⟨#[48]⟩, .string ⟨#[48]⟩, .string ⟨#[48]⟩] 9;have kk:AJ wr ((wr.drewN nq).alloc (.cells #[.string ⟨#[100,101,118,105,99,101]⟩, .string ⟨#[48]⟩, .string ⟨#[48]⟩, .string ⟨#[48]⟩, .string ⟨#[48]⟩] 9)):=KD.out.alloc _;obtain⟨A,hA⟩:=ex ((wr.drewN nq).heap.size);obtain⟨W4,hW4⟩:=ex ((wr.drewN nq).alloc (.cells #[.string ⟨#[100,101,118,105,99,101]⟩, .string ⟨#[48]⟩, .string ⟨#[48]⟩, .string ⟨#[48]⟩, .string ⟨#[48]⟩] 9));have bk:AF W4 A 9 [.string ⟨#[100,101,118,105,99,101]⟩, .string ⟨#[48]⟩, .string ⟨#[48]⟩, .string ⟨#[48]⟩, .string ⟨#[48]⟩]:=by rw [<-hW4, <-hA];exact bk
    have lA:=bk.lt;have sA:SB≠A:=by have:=PS.out.bx.lt;have:=KD.out.size;omega
    rw [hW4] at kk ⊢;rw [hA];have KK:=Ae kk;have BK:=Ae bk;clear hW4 bk kk KD m2;have PS4:=Ae (PS.out.new KK.out);go_wp2_with fail;refine(PV W4 (SB) A (E3 a c 3) (by simp [E3,pV]) PS4.out.bx lA sA (BK.out.cell 0) (BK.out.cell 1) (BK.out.cell 2) (BK.out.cell 3) (BK.out.cell 4)).mono ?_;rintro e w5 tk5;obtain⟨rfl,k5,a',c',b',ps5⟩:=PS4.out.step (by omega) tk5;have K5:=Ae (show AJ w w5 from(KW.out.then_ KK.out).trans k5 fun j hj e=>absurd (show j=SB from e) (by omega));have B05:=Ae ((B0.out.keep KK.out id).keep k5 (by omega));have B15:=Ae ((B1.out.keep KK.out id).keep k5 (by omega));have P5:=Ae ps5;clear tk5 k5 ps5;go_wp2;go_roundw;case rel=>exact⟨4,by omega,rfl,K5.out,B05.out,B15.out,_,_,_,P5.out⟩
    case measure=>simp [Kq,MO];decide
  . have hne:Tf.toList.isEmpty=true:=by kernel_rfl
    dsimp only [MO];obtain⟨v,ea0,ec0,ea1,ec1,ea2,ec2,ea3,ec3,soc⟩:=XM (PS.out.own 0 (by omega)).2 (PS.out.own 1 (by omega)).2 (PS.out.own 2 (by omega)).2 (PS.out.own 3 (by omega)).2;have SO:=Ae soc;have x0:wr.cell? (SB 0)=some (.slice (some (v.cb 0)) 1 v.cc):=by rw [<-ea0, <-ec0];exact PS.out.bx.cell 0
    have x1:wr.cell? (SB 1)=some (.slice (some (v.db 0)) 1 v.dc):=by rw [<-ea1, <-ec1];exact PS.out.bx.cell 1
    have x2:wr.cell? (SB 2)=some (.slice (some (v.rb 0)) 1 v.rc):=by rw [<-ea2, <-ec2];exact PS.out.bx.cell 2
    have x3:wr.cell? (SB 3)=some (.slice (some (v.vb 0)) 1 v.vc):=by rw [<-ea3, <-ec3];exact PS.out.bx.cell 3
    clear soc ea0 ec0 ea1 ec1 ea2 ec2 ea3 ec3;go_wp2_with fail;refine(CP (s:=AM) ER SO.out).mono ?_;rintro e w2 ⟨rfl,k2⟩;have y0:=(k2.cell (p:=(SB 0)) PS.out.bx.lt id).trans x0;have y1:=(k2.cell (p:=(SB 1)) PS.out.bx.lt id).trans x1;have y2:=(k2.cell (p:=(SB 2)) PS.out.bx.lt id).trans x2;have y3:=(k2.cell (p:=(SB 3)) PS.out.bx.lt id).trans x3;have B02:=Ae (B0.out.keep k2 id);have B12:=Ae (B1.out.keep k2 id);have SO2:=Ae (SO.out.new k2);have K2:=Ae (KW.out.then_ k2);have z0:=fun i=>B02.out.frozen i;have z1:=fun i=>B12.out.frozen i;have r0:=B02.out.z 0;have r1:=B02.out.z 1;have r2:=B02.out.z 2;have r3:=B02.out.z 3;have r4:=B12.out.z 0;clear k2 x0 x1 x2 x3 m1;go_wp2_with fail;have kq:AD (fun j=>j=RB∨j=RB+1) w2 (((((w2.setCell (RB 0) (.slice v.cb 1 v.cc)).setCell (RB 1) (.slice v.db 1 v.dc)).setCell (RB 2) (.slice v.rb 1 v.rc)).setCell (RB 3) (.slice v.vb 1 v.vc)).setCell ((RB+1) 0) (.int .i64 0)):=((((keeps_set _).trans (keeps_set _) fun _ _ e=>e).trans (keeps_set _) fun _ _ e=>e).trans (keeps_set _) fun _ _ e=>e).mono (fun _ e=> .inl e) |>.trans (keeps_set _) fun _ _ e=> .inr e
    have bl:=((((B02.out.set 0 (.slice v.cb 1 v.cc)).set 1 (.slice v.db 1 v.dc)).set 2 (.slice v.rb 1 v.rc)).set 3 (.slice v.vb 1 v.vc)).far (p:=((RB+1) 0)) (by show RB+1≠RB;omega) (.int .i64 0);simp only [List.set_cons_zero,List.set_cons_succ] at bl;have bm:=((B12.out.keep ((((keeps_set (b:=RB) (o:=0) (.slice v.cb 1 v.cc)).trans (keeps_set (o:=1) (.slice v.db 1 v.dc)) fun _ _ e=>e).trans (keeps_set (o:=2) (.slice v.rb 1 v.rc)) fun _ _ e=>e).trans (keeps_set (o:=3) (.slice v.vb 1 v.vc)) fun _ _ e=>e) (by show¬RB+1=RB;omega)).set 0 (.int .i64 0)).cell 0;generalize (((((w2.setCell (RB 0) (.slice v.cb 1 v.cc)).setCell (RB 1) (.slice v.db 1 v.dc)).setCell (RB 2) (.slice v.rb 1 v.rc)).setCell (RB 3) (.slice v.vb 1 v.vc)).setCell ((RB+1) 0) (.int .i64 0))=WF at kq bl bm ⊢;refine leaves_cons (f:=234) (args:= #[.pointer RB, .pointer (some ((RB+1) 0))]) (by simp) (by simp [go_sem]) ?_;refine(Rw _ _ _).mono ?_;rintro e u' w'' ⟨rfl,rfl,rfl⟩;have q0:=bl.cell 0;have q1:=bl.cell 1;have q2:=bl.cell 2;have q3:=bl.cell 3;simp only [Bk,Bl] at q0 q1 q2 q3;have bm':=cv_ (.int .i64 0) bm;refine⟨.tuple #[.agg #[.slice v.cb 1 v.cc, .slice v.db 1 v.dc, .slice v.rb 1 v.rc, .slice v.vb 1 v.vc], .int .i64 0],by simp [results,results168,go_sem,q0,q1,q2,q3,bm'],v,rfl,K2.out.trans kq fun j hj e=>?_,SO2.out.keep kq fun j hj e=>?_⟩
    . rcases e with e | e <;> omega
    . rcases e with e | e
      . exact F7 SO2.out B02.out.ty (by decide) j hj e
      . exact F7 SO2.out B12.out.ty (by decide) j hj e
section
attribute [local go_sem] BI Fx
theorem WN (h:Fh w0 w IG R T RW tv) (L:Ai w0) (hm:w0.cell? ⟨0,0,none⟩=some (.int .i64 m)) {RB:Nat} (rb:AF w RB 148 [.pointer R]):
 Calls prog 167 #[.pointer RB] w fun e w'=>∃a n c,e= .returned (.slice a n c)∧∃lab B v fb fc,RunAt w0 w' lab B (St.new AM fb fc) v R T RW tv:=by
 have l1:=L.lt;have LL:=Ae L;have HM:=Ae hm;have lm:0<w0.heap.size:=by omega
 have rr:=rb.ty.ne h.r.ty (by decide);have p0:=rb.z 0;have p1:=h.r.z 0;have f1:=h.r.frozen 0;have H:=Ae (h.text ⟨#[]⟩);have RBw:=Ae (show AF (w.setCell ⟨R,0,none⟩ (.string ⟨#[]⟩)) RB 148 [.pointer R] from rb.keep (keeps_set _) rr);clear L hm h;go_in;go_wp2_with fail;obtain⟨W1,hW1⟩:=ex (w.setCell ⟨R,0,none⟩ (.string ⟨#[]⟩));rw [hW1] at H RBw ⊢;clear hW1;have m1:=(H.out.k.cell (p:=⟨0,0,none⟩) lm id).trans HM.out;refine(Xd W1 m m1).mono ?_;rintro e w2 ⟨v,rfl,k2,soc⟩;have H2:=Ae (H.out.new k2);have RB2:=Ae (RBw.out.keep k2 id);have S2:=Ae soc;clear p0 p1 f1 k2 soc m1;unfold Kv;go_wp2_with fail;obtain⟨SB,hSB⟩:=ex w2.heap.size;have k3:=(nr w2).alloc (.cells (BI v AM) 30);have b3:=AF.new w2 (Fx v AM) 30;obtain⟨W3,hW3⟩:=ex (w2.alloc (.cells (BI v AM) 30));have b3:AF W3 SB 30 (Fx v AM):=by rw [<-hW3, <-hSB];exact b3
 rw [hW3] at k3;rw [hW3,hSB];have H3:=Ae (H2.out.new k3);have RB3:=Ae (RB2.out.keep k3 id);have S3:=Ae (S2.out.new k3);have B3:=Ae b3;clear hW3 k3 b3;refine(Mq ER S3.out (LL.out.keep H3.out.k id)).mono ?_;rintro e w4 ⟨lab,B,fb,fc,rfl,k4,wa,lo⟩;have H4:=Ae (H3.out.new k4);have RB4:=Ae (RB3.out.keep k4 id);have S4:=Ae (S3.out.new k4);have B4:=Ae (B3.out.keep k4 id);have lR:=lo R H3.out.r.lt;have lT:=lo T H3.out.t.lt;have RT:=H4.out.r.ty.ne H4.out.t.ty (by decide);have WA:=Ae (wa.own H4.out.r.ty (by decide) lR (by have:=H4.out.l;omega) H4.out.r.lt rfl rfl);have WA:=Ae (WA.out.own H4.out.t.ty (by decide) ((uo_ (Ne.symm RT)).trans lT) (by have:=H4.out.l;omega) H4.out.t.lt rfl rfl);have LO:=Ae lo;obtain⟨lab2,hl2⟩:∃l,upd (upd lab R (.obj 20)) T (.obj 20)=l:=⟨_,rfl⟩;rw [hl2] at WA;have HL:=Ae hl2;clear k4 wa lo hl2 lR lT;go_wp2_with fail;obtain⟨Y,hY⟩:=ex w4.drew;have kd:AJ w4 Y:=by rw [<-hY];exact(kx_).drew
 have H5:=Ae (H4.out.new kd);have RB5:=Ae (RB4.out.keep kd id);have S5:=Ae (S4.out.new kd);have B5:=Ae (B4.out.keep kd id);have WA5:=Ae (WA.out.new kd);have rs:=B5.out.ty.ne H5.out.r.ty (by decide);have SH:=Ae (show ∀W,AD (· =R) Y W->(W.cell? ⟨RB,0,none⟩=some (.pointer R)∧W.cell? ⟨SB,0,none⟩=some (.slice v.cb AM.nc v.cc)∧W.cell? ⟨SB,1,none⟩=some (.slice v.db AM.nd v.dc)∧W.cell? ⟨SB,2,none⟩=some (.slice v.rb AM.nr v.rc)∧W.cell? ⟨SB,3,none⟩=some (.slice v.vb AM.nv v.vc)) from fun W k=>⟨(RB5.out.keep k rr).cell 0,(B5.out.keep k rs).cell 0,(B5.out.keep k rs).cell 1,(B5.out.keep k rs).cell 2,(B5.out.keep k rs).cell 3⟩);refine rh_ (fun wz=>wz.cell? ⟨RB,0,none⟩=some (.pointer R)∧wz.cell? ⟨SB,0,none⟩=some (.slice v.cb AM.nc v.cc)∧wz.cell? ⟨SB,1,none⟩=some (.slice v.db AM.nd v.dc)∧wz.cell? ⟨SB,2,none⟩=some (.slice v.rb AM.nr v.rc)∧wz.cell? ⟨SB,3,none⟩=some (.slice v.vb AM.nv v.vc)) (by rw [hY];exact SH.out _ (kx_)) (fun hE=>?_);rw [hY] at hE ⊢;clear hY kd;refine tk 0 hE ?_;refine tk 1 hE ?_;refine tk 2 hE ?_;refine tk 3 hE ?_;refine tk 4 hE ?_;refine tk 5 hE ?_;refine tk 6 hE ?_;refine oN_ 7 (fun wz=>AD (· =R) Y wz∧AF wz R 88 [.string ⟨#[]⟩, .slice v.cb AM.nc v.cc, .slice v.db AM.nd v.dc, .slice v.rb AM.nr v.rc, .slice v.vb AM.nv v.vc, .pointer none, .int .i64 0]) ?a_g7 ?a_n7;case a_g7=>
  intro a' K Q ha hK;have e0:=te ha 37;have e1:=te ha 34;clear ha;have f0:=fun i=>H5.out.r.frozen i;have c1:=H5.out.r.cell 1;have c2:=H5.out.r.cell 2;have c3:=H5.out.r.cell 3;have c4:=H5.out.r.cell 4;simp only [Bk,Bl] at c1 c2 c3 c4;go_simp;exact hK undef _ ⟨(((keeps_set _).trans (keeps_set _) fun _ _ e=>e).trans (keeps_set _) fun _ _ e=>e).trans (keeps_set _) fun _ _ e=>e,(((H5.out.r.set 1 _).set 2 _).set 3 _).set 4 _⟩
 case a_n7=>
 rintro w6 ⟨k6,b6⟩;refine⟨SH.out _ k6,?_⟩;have hW:=SH.out _ k6;have K6:=Ae k6;have B6:=Ae b6;clear k6 b6;refine tk 8 hW ?_;refine tk 9 hW ?_;refine oN_ 10 (fun wz=>AD (· =R) Y wz∧AF wz R 88 [.string ⟨#[]⟩, .slice v.cb AM.nc v.cc, .slice v.db AM.nd v.dc, .slice v.rb AM.nr v.rc, .slice v.vb AM.nv v.vc, .pointer B.W, .int .i64 0]) ?a_g10 ?a_n10;case a_g10=>
  intro a' K Q ha hK;have e0:=te ha 39;have e1:=te ha 35;clear ha;have f0:=B6.out.frozen 5;have c5:=B6.out.cell 5;simp only [Bk,Bl] at c5;go_simp;exact hK undef _ ⟨K6.out.trans (keeps_set _) fun _ _ e=>e,B6.out.set 5 _⟩
 case a_n10=>
 rintro w7 ⟨k7,b7⟩;refine⟨SH.out _ k7,?_⟩;have hW:=SH.out _ k7;have K7:=Ae k7;have B7:=Ae b7;clear k7 b7;refine tk 11 hW ?_;refine tk 12 hW ?_;refine oN_ 13 (fun wz=>AD (· =R) Y wz∧AF wz R 88 [.string ⟨#[]⟩, .slice v.cb AM.nc v.cc, .slice v.db AM.nd v.dc, .slice v.rb AM.nr v.rc, .slice v.vb AM.nv v.vc, .pointer B.W, .int .i64 0]) ?a_g13 ?a_n13;case a_g13=>
  intro a' K Q ha hK;have e0:=te ha 41;clear ha;have f0:=B7.out.frozen 6;have c6:=B7.out.cell 6;simp only [Bk,Bl] at c6;go_simp;exact hK undef _ ⟨K7.out.trans (keeps_set _) fun _ _ e=>e,B7.out.set 6 _⟩
 case a_n13=>
 rintro w8 ⟨k8,b8⟩;refine⟨SH.out _ k8,?_⟩;have K8:=Ae k8;have B8:=Ae b8;clear k8 b8;refine⟨by kernel_rfl,?_⟩;go_wp2;go_ret;have R20:lab2 R= .obj 20:=by rw [<-HL.out,uo_ RT,upd_same]
 have T20:lab2 T= .obj 20:=by rw [<-HL.out,upd_same]
 have o:∀j,j<W3.heap.size->j≠R->j≠T->lab2 j= .obj 0:=fun j hj h1 h2=>by rw [<-HL.out,UX _ _ h2,UX _ _ h1];exact LO.out j hj
 have z3:=H3.out.k.size;have ll:=H3.out.l;have lv:∀j,v.In AM j->j<W3.heap.size:=fun j hj=>by
  have g:=S3.out;rcases hj with e | e | e | e | ⟨i,hi,hm,e⟩ | ⟨i,hi,hm,e⟩ | ⟨i,hi,hm,e⟩
  . rw [e];exact g.ck.lt
  . rw [e];exact g.dm.lt
  . rw [e];exact g.rs.lt
  . rw [e];exact g.dv.lt
  . rw [e];exact(g.src i hi hm).lt
  . rw [e];exact(g.reg i hi hm).lt
  . rw [e];exact(g.need i hi hm).lt
 refine⟨_,_,_,rfl,lab2,B,v,fb,fc,RunAt.new ⟨H5.out.k.trans K8.out fun j hj e=>?_,fun j hj=>o j (by omega) (by omega) (by omega),WA5.out.mine R20 K8.out,B8.out,H5.out.t.keep K8.out (Ne.symm RT),H5.out.rows.keep K8.out (H5.out.rows.ty.ne H5.out.r.ty (by decide)),S5.out.keep K8.out fun j hj e=>F7 S5.out H5.out.r.ty (by decide) j hj e,R20,T20,o RW H3.out.rows.lt (H5.out.rows.ty.ne H5.out.r.ty (by decide)) (H5.out.rows.ty.ne H5.out.t.ty (by decide)),fun j hj=>o j (lv j hj) (F7 S5.out H5.out.r.ty (by decide) j hj) (F7 S5.out H5.out.t.ty (by decide) j hj)⟩ ((kr_ _ _).alloc _)⟩;rw [show j=R from e] at hj;omega
end
section
theorem YF (h):(({ data:= #[98,117,105,108,100] }:ByteArray)[0]'h).toNat=98:=rfl
theorem zZ (h):(({ data:= #[99,97,108,108] }:ByteArray)[0]'h).toNat=99:=rfl
theorem zX (h):(({ data:= #[114,101,115,116] }:ByteArray)[0]'h).toNat=114:=rfl
theorem YG (h):(({ data:= #[97,108,105,118,101] }:ByteArray)[0]'h).toNat=97:=rfl
theorem YE (h):(({ data:= #[99,104,101,99,107] }:ByteArray)[0]'h).toNat=99:=rfl
theorem NT (f:Fn) (a c:Array Value) (w:World):(binOp .eql 149 (.func f a c) .nilFunc).run prog w= .ok (.bool false) w:=by
 have h:∀d:Nat,(Op.equalIn (d+1) 149 (.func f a c) .nilFunc).run prog w= .ok false w:=fun d=>by
  simp [Op.equalIn,run_underlying underlying149]
 simp only [binOp];simp [Op.equal,Op.maxDepth,h 9999]
theorem NS (f:Fn) (a c:Array Value) (w:World):(binOp .eql 151 (.func f a c) .nilFunc).run prog w= .ok (.bool false) w:=by
 have h:∀d:Nat,(Op.equalIn (d+1) 151 (.func f a c) .nilFunc).run prog w= .ok false w:=fun d=>by
  simp [Op.equalIn,run_underlying underlying151]
 simp only [binOp];simp [Op.equal,Op.maxDepth,h 9999]
attribute [local go_sem] NT NS YF zZ zX YG YE
theorem Y6 (h:Fh w0 w IG R T RW tv) (L:Ai w0) (hm:w0.cell? ⟨0,0,none⟩=some (.int .i64 m)):
 Calls prog 21 #[.pointer R, .string Zu] w fun e w'=>∃a n c,e= .returned (.slice a n c)∧∃lab B v fb fc,RunAt w0 w' lab B (St.new AM fb fc) v R T RW tv:=by
 have H:=Ae h;have LM:=Ae (And.intro L hm);clear h L hm;go_in;go_wp2_with fail;refine(DQ w Zu (by decide) [⟨#[98,117,105,108,100]⟩] (by kernel_rfl) (by decide)).mono ?_;rintro e w2 ⟨A,rfl,k2,hA,row2⟩;have c0:w2.cell? (A 0)=some (.string ⟨#[98,117,105,108,100]⟩):=row2.cell (i:=0) (by decide);have lA:A<w2.heap.size:=row2.lt;have H2:=Ae (H.out.new k2);simp only [Dy,Ek,Ag,Nat.reduceAdd];clear k2 row2;go_wp2_with fail;refine(Me _ _).mono ?_;rintro e w3 ⟨rfl,rfl⟩;go_wp2_with fail;refine mn_ (TD _ _ _ _) ?_;have k4:=(nr w3).alloc (.cells #[.pointer R] 148);have H4:=Ae (H2.out.new k4);have rb:=Ae (AF.new w3 [.pointer R] 148);have q0:=(k4.cell (p:=(A 0)) lA id).trans c0;have r5:=H4.out.r.z 5;clear k4 c0;go_wp2_with fail;refine(WN H4.out LM.out.1 LM.out.2 rb.out).mono ?_;rintro e w5 ⟨a,n,c,rfl,lab,B,v,fb,fc,run⟩;have RU:=Ae run;go_wp2;go_ret;exact⟨a,n,c,rfl,lab,B,v,fb,fc,RU.out⟩
section
variable {w0 w:World} {lab:Nat->Lb} {B:Wb} {X:St} {v:Bx} {R T RW:Nat} {tv:Nat->Value}
theorem Y5 (h:RunAt w0 w lab B X v R T RW tv) (h0:(X.rm.tk 0).st=0):
 Calls prog 21 #[.pointer R, .string Zt] w fun e w'=>∃a n c,e= .returned (.slice a n c)∧∃lab' B',RunAt w0 w' lab' B' (X.called 0 ⟨103,0,0,0⟩) v R T RW tv:=by
 have H:=Ae h;have H0:=Ae h0;clear h h0;go_in;go_wp2_with fail;refine(DQ w Zt (by decide) [⟨#[99,97,108,108]⟩,⟨#[48]⟩,⟨#[103,101,116]⟩,⟨#[48]⟩] (by kernel_rfl) (by decide)).mono ?_;rintro e w2 ⟨A,rfl,k2,hA,row2⟩;have c0:w2.cell? (A 0)=some (.string ⟨#[99,97,108,108]⟩):=row2.cell (i:=0) (by decide);have c1:w2.cell? (A 1)=some (.string ⟨#[48]⟩):=row2.cell (i:=1) (by decide);have c2:w2.cell? (A 2)=some (.string ⟨#[103,101,116]⟩):=row2.cell (i:=2) (by decide);have c3:w2.cell? (A 3)=some (.string ⟨#[48]⟩):=row2.cell (i:=3) (by decide);have lA:A<w2.heap.size:=row2.lt;have H2:=Ae (H.out.new k2);simp only [Dy,Ek,Ag,Nat.reduceAdd];clear k2 row2;go_wp2_with fail;refine(Oi _ _).mono ?_;rintro e w3 ⟨rfl,rfl⟩;go_wp2_with fail;refine(WK w3 R A 1 3 c1 c2 c3 lA (by omega) (fun W=>Im W) (fun W=>YC W)).mono ?_;rintro e w4 ⟨RB,PB,rfl,cl⟩;have CL:=Ae cl;have H4:=Ae (H2.out.new cl.k);have q0:=(cl.k.cell (p:=(A 0)) lA id).trans c0;have r5:=H4.out.r.z 5;clear cl c0;go_wp2_with fail;refine(Yq H4.out H0.out CL.out.r CL.out.p (H2.out.h.fr _ CL.out.l.1) (H2.out.h.fr _ CL.out.l.2)).mono ?_;rintro e w5 ⟨a,n,c,rfl,lab',B',run⟩;have RU:=Ae run;go_wp2;go_ret;exact⟨a,n,c,rfl,lab',B',RU.out⟩
theorem xW (h:RunAt w0 w lab B X v R T RW tv) {X':St} (k98:k<=98) (rr:Bp AM k X X') {cw:Nat->Nat->Bool} (re:IB AM X' cw):
 Calls prog 21 #[.pointer R, .string Zs] w fun e w'=>∃a n c,e= .returned (.slice a n c)∧∃lab' B',RunAt w0 w' lab' B' X' v R T RW tv:=by
 have H:=Ae h;have RR:=Ae rr;have RE:=Ae re;clear h rr re;go_in;go_wp2_with fail;refine(DQ w Zs (by decide) [⟨#[114,101,115,116]⟩,⟨#[57,57]⟩] (by kernel_rfl) (by decide)).mono ?_;rintro e w2 ⟨A,rfl,k2,hA,row2⟩;have c0:w2.cell? (A 0)=some (.string ⟨#[114,101,115,116]⟩):=row2.cell (i:=0) (by decide);have c1:w2.cell? (A 1)=some (.string ⟨#[57,57]⟩):=row2.cell (i:=1) (by decide);have lA:A<w2.heap.size:=row2.lt;have H2:=Ae (H.out.new k2);simp only [Dy,Ek,Ag,Nat.reduceAdd];clear k2 row2;go_wp2_with fail;refine(Oh _ _).mono ?_;rintro e w3 ⟨rfl,rfl⟩;go_wp2_with fail;refine(Ur w3 R A 1 1 _ 99 (by omega) c1 lA (fun W=>VB W)).mono ?_;rintro e w4 ⟨RB,NB,gb,rfl,cl⟩;have CL:=Ae cl;have H4:=Ae (H2.out.new cl.k);have q0:=(cl.k.cell (p:=(A 0)) lA id).trans c0;have r5:=H4.out.r.z 5;clear cl c0;go_wp2_with fail;refine(XV H4.out k98 RR.out RE.out CL.out.r CL.out.n CL.out.g (H2.out.h.fr _ CL.out.l.1)).mono ?_;rintro e w5 ⟨a,n,c,lab',B',rfl,run⟩;have RU:=Ae run;go_wp2;go_ret;exact⟨a,n,c,rfl,lab',B',RU.out⟩
theorem Y7 (h:RunAt w0 w lab B X v R T RW tv) (go:Ez AM 179 (fun B=> #[.pointer B.W, .int .i64 0]) (.bool true) X X):
 Calls prog 21 #[.pointer R, .string Zr] w fun e w'=>∃g lab' B',e= .returned (.slice (some ⟨g,0,none⟩) 1 1)∧RunAt w0 w' lab' B' X v R T RW tv∧AF w' g 9 [.string ⟨#[121,101,115]⟩]∧lab' g= .obj 0:=by
 have H:=Ae h;have GO:=Ae go;clear h go;go_in;go_wp2_with fail;refine(DQ w Zr (by decide) [⟨#[97,108,105,118,101]⟩,⟨#[48]⟩] (by kernel_rfl) (by decide)).mono ?_;rintro e w2 ⟨A,rfl,k2,hA,row2⟩;have c0:w2.cell? (A 0)=some (.string ⟨#[97,108,105,118,101]⟩):=row2.cell (i:=0) (by decide);have c1:w2.cell? (A 1)=some (.string ⟨#[48]⟩):=row2.cell (i:=1) (by decide);have lA:A<w2.heap.size:=row2.lt;have H2:=Ae (H.out.new k2);simp only [Dy,Ek,Ag,Nat.reduceAdd];clear k2 row2;go_wp2_with fail;refine(Mf _ _).mono ?_;rintro e w3 ⟨rfl,rfl⟩;go_wp2_with fail;refine(TH w3 R A 1 1 _ 0 (by omega) c1 lA (fun W=>Im W)).mono ?_;rintro e w4 ⟨RB,NB,gb,rfl,cl⟩;have CL:=Ae cl;have H4:=Ae (H2.out.new cl.k);have q0:=(cl.k.cell (p:=(A 0)) lA id).trans c0;have r5:=H4.out.r.z 5;clear cl c0;go_wp2_with fail;refine(WS H4.out GO.out CL.out.r CL.out.n CL.out.g (H2.out.h.fr _ CL.out.l.1) (H2.out.h.fr _ CL.out.l.2.1) (H2.out.h.fr _ CL.out.l.2.2)).mono ?_;rintro e w5 ⟨g,lab',B',rfl,run,bg,lg⟩;have RU:=Ae (And.intro run (And.intro bg lg));clear run bg lg;go_wp2;go_ret;exact⟨g,lab',B',rfl,RU.out.1,RU.out.2.1,RU.out.2.2⟩
end
end
section
theorem VP (h):(({ data:= #[99,104,101,99,107] }:ByteArray)[0]'h).toNat=99:=rfl
attribute [local go_sem] NT NS VP
theorem Y4 {lab:Nat->Lb} {B:Wb} {X:St} {v:Bx} (h:RunAt w0 w lab B X v R T RW tv) (hev:X.ev=[CJ 0 ⟨103,0,0,0⟩,Bm 0 ⟨103,0,0,0⟩ 0 0]):
 Calls prog 21 #[.pointer R, .string XN] w fun e w'=>∃g,e= .returned (.slice (some ⟨g,0,none⟩) 1 1)∧RunAt w0 w' lab B X v R T RW tv∧AF w' g 9 [.string ⟨#[102,105,110,101]⟩]∧lab g= .obj 0∧AJ w w':=by
 have H:=Ae h;have HE:=Ae hev;clear h hev;go_in;go_wp2_with fail;refine(DQ w XN (by decide) [⟨#[99,104,101,99,107]⟩] (by kernel_rfl) (by decide)).mono ?_;rintro e w2 ⟨A,rfl,k2,hA,row2⟩;have c0:w2.cell? (A 0)=some (.string ⟨#[99,104,101,99,107]⟩):=row2.cell (i:=0) (by decide);have lA:A<w2.heap.size:=row2.lt;have H2:=Ae (H.out.new k2);simp only [Dy,Ek,Ag,Nat.reduceAdd];have K2:=Ae k2;clear k2 row2;go_wp2_with fail;refine(Md _ _).mono ?_;rintro e w3 ⟨rfl,rfl⟩;go_wp2_with fail;refine mn_ (Sy _ _ _ _) ?_;have k4:=(nr w3).alloc (.cells #[.pointer R] 148);have H4:=Ae (H2.out.new k4);have K4:=Ae (K2.out.then_ k4);have rb:=Ae (AF.new w3 [.pointer R] 148);have q0:=(k4.cell (p:=(A 0)) lA id).trans c0;have r5:=H4.out.r.z 5;clear k4 c0;go_wp2_with fail;refine(WB H4.out HE.out rb.out).mono ?_;rintro e w5 ⟨g,rfl,run,bg,lg,k5⟩;have RU:=Ae (And.intro run (And.intro bg (And.intro lg (K4.out.then_ k5))));clear run bg lg k5;go_wp2;go_ret;exact⟨g,rfl,RU.out.1,RU.out.2.1,RU.out.2.2.1,RU.out.2.2.2⟩
def txtK:Nat->ByteArray | 0=>⟨#[]⟩ | 1=>⟨#[99,108,111,99,107,32,111,32,57,10]⟩ | 2=>⟨#[99,108,111,99,107,32,111,32,57,10,100,111,109,97,105,110,32,45,32,48,32,107,101,101,112,10]⟩ | 3=>⟨#[99,108,111,99,107,32,111,32,57,10,100,111,109,97,105,110,32,45,32,48,32,107,101,101,112,10,114,101,115,101,116,32,48,10]⟩ | _=>IG
def rowK:Nat->ByteArray | 0=>scr0 | 1=>scr1 | 2=>scr2 | 3=>scr3 | 4=>Zu | 5=>Zt | 6=>Zs | 7=>Zr | _=>XN
structure Late (w0 w:World) (R T RW k:Nat) (lab:Nat->Lb) (B:Wb) (X:St) (v:Bx) (tv:Nat->Value):Prop where
 run:RunAt w0 w lab B X v R T RW tv
 x5:k=5->∃fb fc,X=St.new AM fb fc
 x6:k=6->∃fb fc,X=(St.new AM fb fc).called 0 ⟨103,0,0,0⟩
 x7:7<=k->X.ev=[CJ 0 ⟨103,0,0,0⟩,Bm 0 ⟨103,0,0,0⟩ 0 0]∧Ez AM 179 (fun B=> #[.pointer B.W, .int .i64 0]) (.bool true) X X
 x8:8<=k->∃g,tv 7= .slice (some ⟨g,0,none⟩) 1 1∧AF w g 9 [.string ⟨#[121,101,115]⟩]∧lab g= .obj 0
 x9:9<=k->∃g,tv 8= .slice (some ⟨g,0,none⟩) 1 1∧AF w g 9 [.string ⟨#[102,105,110,101]⟩]∧lab g= .obj 0
def Sc (w0:World) (R T RW k:Nat) (w:World):Prop:=
 (k<=4∧∃tv,Fh w0 w (txtK k) R T RW tv)∨(5<=k∧∃lab B X v tv,Late w0 w R T RW k lab B X v tv)
theorem Sc.facts (h:Sc w0 R T RW k w):AF w RW 9 (LH.map Value.string)∧∃tv,Row w T 59 9 tv:=by
 rcases h with⟨_,tv,p⟩ | ⟨_,lab,B,X,v,tv,l⟩
 . exact⟨p.rows,tv,p.t⟩
 . exact⟨l.run.rows,tv,l.run.t⟩
theorem Sc.row (h:Sc w0 R T RW k w) (hk:k<9):w.cell? (RW k)=some (.string (rowK k)):=by
 rw [h.facts.1.cell k];rcases(show k=0∨k=1∨k=2∨k=3∨k=4∨k=5∨k=6∨k=7∨k=8 by omega) with rfl | rfl | rfl | rfl | rfl | rfl | rfl | rfl | rfl <;> rfl
def ZG (w0:World) (R T RW k:Nat) (e:Ending) (w':World):Prop:=
 ∃a n c,e= .returned (.slice a n c)∧(∃tv,Row w' T 59 9 tv)∧Sc w0 R T RW (k+1) (w'.setCell (T k) (.slice a n c))
theorem GQ (hk:k<4) {row t u:ByteArray} {ws:List ByteArray} {n:Nat} (h:Fh w0 w t R T RW tv) (hu:u=txtK (k+1)) (hw:Lib.goFieldsP I2 row=⟨#[124]⟩::ws) (hi:Lib.indexByte row.data.toList 124=0) (hs:row.size=n+2) (hn:n<900) (ht:t.size<1000) (he:(row.extract 1 (n+2)).toList.isEmpty=false) (e:t++((row.extract 1 (n+2)).extract 1 (n+1)++⟨#[10]⟩)=u):
 Calls prog 21 #[.pointer R, .string row] w (ZG w0 R T RW k):=by
 refine(Y3 h row ws n hw hi hs hn ht he).mono ?_;rintro e w' ⟨rfl,p⟩;rw [e,hu] at p;exact⟨none,0,0,rfl,⟨tv,p.t⟩, .inl ⟨by omega,_,p.store k _⟩⟩
theorem U8 (L:Ai w0) (hm:w0.cell? ⟨0,0,none⟩=some (.int .i64 m)) (h:Sc w0 R T RW k w) (hk:k<9):
 Calls prog 21 #[.pointer R, .string (rowK k)] w (ZG w0 R T RW k):=by
 rcases(show k=0∨k=1∨k=2∨k=3∨k=4∨k=5∨k=6∨k=7∨k=8 by omega) with rfl | rfl | rfl | rfl | rfl | rfl | rfl | rfl | rfl
 . rcases h with⟨_,tv,p⟩ | ⟨h,_⟩
   . exact GQ (ws:=[⟨#[99,108,111,99,107]⟩,⟨#[111]⟩,⟨#[57]⟩]) (n:=9) (by omega) p rfl (by kernel_rfl) (by kernel_rfl) (by decide) (by omega) (by decide) (by kernel_rfl) (by kernel_rfl)
   . omega
 . rcases h with⟨_,tv,p⟩ | ⟨h,_⟩
   . exact GQ (ws:=[⟨#[100,111,109,97,105,110]⟩,⟨#[45]⟩,⟨#[48]⟩,⟨#[107,101,101,112]⟩]) (n:=15) (by omega) p rfl (by kernel_rfl) (by kernel_rfl) (by decide) (by omega) (by decide) (by kernel_rfl) (by kernel_rfl)
   . omega
 . rcases h with⟨_,tv,p⟩ | ⟨h,_⟩
   . exact GQ (ws:=[⟨#[114,101,115,101,116]⟩,⟨#[48]⟩]) (n:=7) (by omega) p rfl (by kernel_rfl) (by kernel_rfl) (by decide) (by omega) (by decide) (by kernel_rfl) (by kernel_rfl)
   . omega
 . rcases h with⟨_,tv,p⟩ | ⟨h,_⟩
   . exact GQ (ws:=[⟨#[100,101,118,105,99,101]⟩,⟨#[48]⟩,⟨#[48]⟩,⟨#[48]⟩,⟨#[48]⟩]) (n:=14) (by omega) p rfl (by kernel_rfl) (by kernel_rfl) (by decide) (by omega) (by decide) (by kernel_rfl) (by kernel_rfl)
   . omega
 . rcases h with⟨_,tv,p⟩ | ⟨h,_⟩
   . refine(Y6 p L hm).mono ?_;rintro e w' ⟨a,n,c,rfl,lab,B,v,fb,fc,r⟩;exact⟨a,n,c,rfl,⟨tv,r.t⟩, .inr ⟨by omega,lab,B,_,v,_,r.store 4 _,fun _=>⟨fb,fc,rfl⟩,fun h=>by omega,fun h=>by omega,fun h=>by omega,fun h=>by omega⟩⟩
   . omega
 . rcases h with⟨h,_⟩ | ⟨_,lab,B,X,v,tv,l⟩
   . omega
   . obtain⟨fb,fc,rfl⟩:=l.x5 rfl;refine(Y5 l.run rfl).mono ?_;rintro e w' ⟨a,n,c,rfl,lab',B',r⟩;exact⟨a,n,c,rfl,⟨tv,r.t⟩, .inr ⟨by omega,lab',B',_,v,_,r.store 5 _,fun h=>by omega,fun _=>⟨fb,fc,rfl⟩,fun h=>by omega,fun h=>by omega,fun h=>by omega⟩⟩
 . rcases h with⟨h,_⟩ | ⟨_,lab,B,X,v,tv,l⟩
   . omega
   . obtain⟨fb,fc,rfl⟩:=l.x6 rfl;obtain⟨k,X',tw,cw,hk,rr,re,al,ev⟩:=xJ ER (t:=0) (d:=0) (.inl rfl) (by decide) fb fc;have st:=Ud AM (fun _ _=>false) tw;have st:(Ax AM (fun _ _=>false) tw).length<=6:=st;refine(xW l.run (k:=k) (by omega) rr re).mono ?_;rintro e w' ⟨a,n,c,rfl,lab',B',r⟩;exact⟨a,n,c,rfl,⟨tv,r.t⟩, .inr ⟨by omega,lab',B',_,v,_,r.store 6 _,fun h=>by omega,fun h=>by omega,fun _=>⟨ev,PH ER 0 (by decide) (re.hw.fine ER).hm al⟩,fun h=>by omega,fun h=>by omega⟩⟩
 . rcases h with⟨h,_⟩ | ⟨_,lab,B,X,v,tv,l⟩
   . omega
   . obtain⟨ev,go⟩:=l.x7 (by omega);refine(Y7 l.run go).mono ?_;rintro e w' ⟨g,lab',B',rfl,r,bg,lg⟩;exact⟨_,_,_,rfl,⟨tv,r.t⟩, .inr ⟨by omega,lab',B',_,v,_,r.store 7 _,fun h=>by omega,fun h=>by omega,fun _=>⟨ev,go⟩,fun _=>⟨g,if_pos rfl,bg.keep (keeps_set _) (fun e=>bg.ty.ne r.t.ty (by decide) e),lg⟩,fun h=>by omega⟩⟩
 . rcases h with⟨h,_⟩ | ⟨_,lab,B,X,v,tv,l⟩
   . omega
   . obtain⟨ev,go⟩:=l.x7 (by omega);obtain⟨g7,e7,b7,l7⟩:=l.x8 (by omega);refine(Y4 l.run ev).mono ?_;rintro e w' ⟨g,rfl,r,bg,lg,k7⟩;exact⟨_,_,_,rfl,⟨tv,r.t⟩, .inr ⟨by omega,lab,B,_,v,_,r.store 8 _,fun h=>by omega,fun h=>by omega,fun _=>⟨ev,go⟩,fun _=>⟨g7,by rw [if_neg (by omega)];exact e7,(b7.keep k7 id).keep (keeps_set _) (fun e=>(b7.keep k7 id).ty.ne r.t.ty (by decide) e),l7⟩,fun _=>⟨g,if_pos rfl,bg.keep (keeps_set _) (fun e=>bg.ty.ne r.t.ty (by decide) e),lg⟩⟩⟩
end
theorem info59:inf_ prog 59=some (some (.slice none 0 0),1,24):=by kernel_rfl
def ToldP (w:World) (e:Ending) (w':World):Prop:=
 ∃T g7 g8,e= .returned (.slice (some ⟨T,0,none⟩) 9 9)∧AJ w w'∧w'.cell? ⟨T,7,none⟩=some (.slice (some ⟨g7,0,none⟩) 1 1)∧w'.cell? ⟨T,8,none⟩=some (.slice (some ⟨g8,0,none⟩) 1 1)∧
  w'.cell? (g7 0)=some (.string ⟨#[121,101,115]⟩)∧w'.cell? (g8 0)=some (.string ⟨#[102,105,110,101]⟩)
theorem Zj (w:World) (L:Ai w) (hm:w.cell? ⟨0,0,none⟩=some (.int .i64 m)):Calls prog 10 #[.string scr] w (ToldP w):=by
 have hmk:∀W:World,(Instr.makeSlice 57 (.int .i64 9) (.int .i64 9)).run prog W= .ok (.slice W.heap.size 9 9) (W.alloc (.cells (madeCells #[.slice none 0 0] 9) 59)):=fun W=>run_make_row' (P:=prog) 57 59 (.slice none 0 0) 24 underlying57 info59 rfl .i64 .i64 9 (by omega) (by omega) W;have LM:=Ae (And.intro L hm);have RO:=Ae (Pb w m hm);clear L hm;go_in;go_wp2_with fail;refine mn_ RO.out ?_;go_wp2_with fail;have k1:AJ w (((w.alloc (.cells (List.map Value.string LH).toArray 9)).alloc (.cells #[.string ⟨#[]⟩, .slice none 0 0, .slice none 0 0, .slice none 0 0, .slice none 0 0, .pointer none, .int .i64 0] 88)).alloc (.cells (madeCells #[.slice none 0 0] 9) 59)):=(((kx_).alloc _).alloc _).alloc _;have b1:=((AF.new w (LH.map Value.string) 9).alloc (.cells #[.string ⟨#[]⟩, .slice none 0 0, .slice none 0 0, .slice none 0 0, .slice none 0 0, .pointer none, .int .i64 0] 88)).alloc (.cells (madeCells #[.slice none 0 0] 9) 59);have b2:=(AF.new (w.alloc (.cells (LH.map Value.string).toArray 9)) [.string ⟨#[]⟩, .slice none 0 0, .slice none 0 0, .slice none 0 0, .slice none 0 0, .pointer none, .int .i64 0] 88).alloc (.cells (madeCells #[.slice none 0 0] 9) 59);have b3:=CV ((w.alloc (.cells (LH.map Value.string).toArray 9)).alloc (.cells #[.string ⟨#[]⟩, .slice none 0 0, .slice none 0 0, .slice none 0 0, .slice none 0 0, .pointer none, .int .i64 0] 88)) (.slice none 0 0) 9 59;rw [Ay] at b2;rw [Ay,Ay] at b3;obtain⟨RW,hRW⟩:=ex w.heap.size;obtain⟨T,hT⟩:=ex (RW+1+1);rw [hRW] at b1 b2 b3;rw [hT] at b3;have S0:=Ae (show Sc w (RW+1) T RW 0 (((w.alloc (.cells (List.map Value.string LH).toArray 9)).alloc (.cells #[.string ⟨#[]⟩, .slice none 0 0, .slice none 0 0, .slice none 0 0, .slice none 0 0, .pointer none, .int .i64 0] 88)).alloc (.cells (madeCells #[.slice none 0 0] 9) 59)) from .inl ⟨by omega,_,⟨k1,b2,Row.of_is b3,b1,by omega,by omega⟩⟩);rw [hRW,hT];generalize (((w.alloc (.cells (List.map Value.string LH).toArray 9)).alloc (.cells #[.string ⟨#[]⟩, .slice none 0 0, .slice none 0 0, .slice none 0 0, .slice none 0 0, .pointer none, .int .i64 0] 88)).alloc (.cells (madeCells #[.slice none 0 0] 9) 59))=W1 at S0 ⊢;clear hmk RO k1 b1 b2 b3;go_loopw [21] (fun i wr=>∃k:Nat,k<=9∧i= .int .i64 k∧Sc w (RW+1) T RW k wr) (fun i _=>9 - (intOf i).toNat);case atStart=>exact⟨0,by omega,rfl,S0.out⟩
 case round=>
  clear S0;obtain⟨k,hk,rfl,sc⟩:=hrel;have SC:=Ae sc;clear sc;by_cases hlt:k<9
  . have q:=SC.out.row hlt;have hc:(k:Int)<9:=by omega
    go_wp2_with fail;refine(U8 LM.out.1 LM.out.2 SC.out hlt).mono ?_;rintro e w2 ⟨a,n,c,rfl,⟨tv,tr⟩,sc⟩;have t0:=tr.cell hlt;have f0:=tr.frozen k;have SN:=Ae sc;clear tr sc q;go_wp2;go_roundw;case rel=>exact⟨k+1,by omega,by go_num,SN.out⟩
    case measure=>simp [intOf];omega
  . obtain rfl:k=9:=by omega
    have hc:¬((9:Nat):Int)<9:=by omega
    go_wp2;go_ret;rcases SC.out with⟨h,_⟩ | ⟨_,lab,B,X,v,tv,l⟩
    . omega
    . obtain⟨g7,e7,b7,l7⟩:=l.x8 (by omega);obtain⟨g8,e8,b8,l8⟩:=l.x9 (by omega);exact⟨T,g7,g8,rfl,l.run.k,by rw [l.run.t.cell (i:=7) (by omega),e7],by rw [l.run.t.cell (i:=8) (by omega),e8],b7.cell 0,b8.cell 0⟩
theorem Yu (w:World) (L:Ai w) (hm:∃m:Int,w.cell? ⟨0,0,none⟩=some (.int .i64 m)):Calls prog 4 #[] w fun e w'=>e= .returned (.bool true)∧AJ w w':=by
 obtain⟨m,hm⟩:=hm;have TL:=Ae (Zj w L hm);clear L hm;go_in;go_wp2_with fail;refine TL.out.mono ?_;rintro e w2 ⟨T,g7,g8,rfl,k2,c7,c8,y7,y8⟩;go_wp2;go_ret;exact⟨rfl,k2⟩
end Go.Proofs.YtpekoejdnhaohaaGreatDoor
