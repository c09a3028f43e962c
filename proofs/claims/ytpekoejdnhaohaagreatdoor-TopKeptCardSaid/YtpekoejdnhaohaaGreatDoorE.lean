/- What bits, the bus's New, has and Waiting, the words of commands and answers, and the tree of clocks compute. For every such object in memory. -/
import Derived.Laws.BitsAllLaws
import Derived.Laws.Entries
import Derived.LoopTactic
import Derived.Outline
import Derived.OpenShut
import Derived.WalkLawsBesides
import Derived.Laws.EntriesVeiled
import Derived.RegionTactic
import Derived.Laws.ResultCell
import Derived.OwnWalk
import Derived.Laws.AppendOwn
import Derived.Test.YtpekoejdnhaohaaGreatDoorA
namespace Go.Proofs.YtpekoejdnhaohaaGreatDoor
open Go.RowKit Tryz
set_option maxRecDepth 100000
set_option maxHeartbeats 40000000
set_option linter.all false
variable {p:Addr} {b c k low many v:Int} {news:List Value} {B L M R T W cap g gn gr gw i l m n tb vb:Nat} {rs:Nat->Int} {qs:Nat->Value} {ao:Option Addr} {a w w' w1 w2:World}
structure CG (w w':World):Prop where
 below:Below w.heap.size w w'
 free:∀a,w'.frozen? a=w.frozen? a
theorem CG.refl (w:World):CG w w:=⟨Below.refl _ _,fun _=>rfl⟩
theorem CG.trans {b c:World} (h:CG a b) (k:CG b c):CG a c:=
 ⟨h.below.trans (k.below.mono h.below.size),fun x=>(k.free x).trans (h.free x)⟩
theorem CG.drew (h:CG a w):CG a w.drew:=⟨h.below.drew,h.free⟩
theorem CG.drewN (h:CG a w) (n:Nat):CG a (w.drewN n):=⟨⟨h.below.os,h.below.tape,h.below.output,h.below.size,h.below.block⟩,h.free⟩
theorem CG.alloc (h:CG a w) (c:Array Value) (t:TypeId):CG a (w.alloc (.cells c t)):=
 ⟨h.below.alloc h.below.size _,fun x=>(frozen?_alloc_cells _ _ _ x).trans (h.free x)⟩
theorem CG.setCell (h:CG a w) (hp:a.heap.size<=p.block) (v:Value):CG a (w.setCell p v):=
 ⟨h.below.setCell hp v,fun x=>(World.frozen?_setCell _ _ _ _).trans (h.free x)⟩
theorem CG.grown (h:CG w w'):Grown w w':=⟨h.below.frame _,h.free,h.below.size⟩
theorem CG.cell (h:CG w w') (hp:p.block<w.heap.size):w'.cell? p=w.cell? p:=h.below.cell hp
theorem CG.new (h:CG w w'):AJ w w':=⟨h.below.os,h.below.tape,h.below.output,h.below.size,fun k hk _=>h.below.block k hk⟩
def getN (w l m:Nat):Nat:=w / 2 ^ l % 2 ^ m
def putN (w l m v:Nat):Nat:=(w&&& (4294967295 - (2 ^ m - 1)*2 ^ l))||| (v*2 ^ l)
theorem Eo (v l i:Nat):(v*2 ^ l).testBit i=(decide (l<=i)&&v.testBit (i - l)):=by
 rw [<-Nat.shiftLeft_eq,Nat.testBit_shiftLeft]
theorem GG {v:Nat} (hv:v<2 ^ m) (h:m<=i):v.testBit i=false:=
 Nat.testBit_lt_two_pow (Bo hv (Hi (by omega) h))
theorem Hh {w:Nat} (hw:w<4294967296) (h:32<=i):w.testBit i=false:=GG (m:=32) hw h
theorem Tu (w l m:Nat):getN w l m<2 ^ m:=Nat.mod_lt _ (Nat.two_pow_pos m)
theorem Jy (h:l+m<=32):(2 ^ m - 1)*2 ^ l<2 ^ 32:=by
 have h1:(2 ^ m - 1)*2 ^ l<2 ^ m*2 ^ l:=Nat.mul_lt_mul_of_pos_right (by have:=Nat.two_pow_pos m;omega) (Nat.two_pow_pos l);rw [<-Nat.pow_add] at h1;exact Bo h1 (Hi (by omega) (by omega))
theorem Ig {w v:Nat} (h:l+m<=32) (hw:w<4294967296) (hv:v<2 ^ m) (i:Nat):
 (putN w l m v).testBit i=if l<=i∧i<l+m then v.testBit (i - l) else w.testBit i:=by
 unfold putN;rw [Nat.testBit_or,Nat.testBit_and,Eo];have e:4294967295 - (2 ^ m - 1)*2 ^ l=2 ^ 32 - ((2 ^ m - 1)*2 ^ l+1):=by
  have:=Jy h;omega
 rw [e,Nat.testBit_two_pow_sub_succ (Jy h),Eo,Nat.testBit_two_pow_sub_one];by_cases a:l<=i
 . by_cases b:i - l<m
   . rw [if_pos (by omega)];simp [a,b]
   . rw [if_neg (by omega),GG hv (by omega)];by_cases c:i<32
     . simp [b,c]
     . rw [Hh hw (by omega)];simp
 . rw [if_neg (by omega)];by_cases c:i<32
   . simp [a,c]
   . rw [Hh hw (by omega)];simp [a]
theorem Ti {w v:Nat} (h:l+m<=32) (hw:w<4294967296) (hv:v<2 ^ m):putN w l m v<4294967296:=by
 have:putN w l m v<2 ^ 32:=Nat.lt_pow_two_of_testBit _ (fun i hi=>by
  rw [Ig h hw hv];rw [if_neg (by omega)];exact Hh hw hi)
 exact this
def maskN (m a:Nat):Nat:=(2 ^ m - 1)*2 ^ a
section
def Nv (k:IntKind) (x y:Int):Int:=k.wrap (x*2 ^ min y.toNat k.bits)
def shrI (k:IntKind) (x y:Int):Int:=x / 2 ^ min y.toNat k.bits
theorem shl_op (k yk:IntKind) (x y:Int) (h:0<=y):Op.shift .shl k x yk y=pure (.int k (Nv k x y)):=shift_shl_any k yk x y h
theorem shr_op (k yk:IntKind) (x y:Int) (h:0<=y):Op.shift .shr k x yk y=pure (.int k (shrI k x y)):=shift_shr_any k yk x y h
attribute [local go_sem ↓] shl_op shr_op
theorem mkf (fn:Fn) (first cap:Array Value) (w:World):(Instr.makeFunc fn first cap).run prog w= .ok (.func fn first cap) w:=rfl
def Xq (many at':Int):Int:=IntKind.u32.wrap (Nv .u64 (IntKind.u64.wrap (Nv .u64 1 many - 1)) at')
theorem Xp (at' many:Int) (a:Addr) (w:World) (h0:0<=at') (m0:0<=many) (hc:w.cell? a=some (.int .i64 many)):
 Calls prog 312 #[.int .i64 at', .pointer (some a)] w fun e w'=>e= .returned (.int .u32 (Xq many at'))∧w'=w:=by
 go_in;go_wp2;go_ret;exact⟨rfl,rfl⟩
theorem FN (n:Nat):(2:Int) ^ n=((2 ^ n:Nat):Int):=by simp
theorem P8 (x:Int) (n:Nat) (hn:n<=64) (h0:0<=x) (h:x*2 ^ n<=18446744073709551615):Nv .u64 x n=x*2 ^ n:=by
 unfold Nv;have e:min (n:Int).toNat IntKind.u64.bits=n:=by show min n 64=n;omega
 rw [e,IntWalk.u64_in];refine⟨?_,h⟩;rw [FN];exact Int.mul_nonneg h0 (Int.natCast_nonneg _)
theorem VF (M A:Nat) (h:A+M<=32):Xq M A=(maskN M A:Int):=by
 unfold Xq maskN;have p0:=Nat.two_pow_pos M;have p1:2 ^ M<=2 ^ 32:=Hi (by omega) (by omega);have m:=Jy h;have e1:Nv .u64 1 M=((2 ^ M:Nat):Int):=by
  rw [P8 1 M (by omega) (by omega) (by rw [FN];omega),FN];omega
 have e2:IntKind.u64.wrap (((2 ^ M:Nat):Int) - 1)=((2 ^ M - 1:Nat):Int):=by
  rw [IntWalk.u64_in _ (by omega)];omega
 have e3:((2 ^ M - 1:Nat):Int)*2 ^ A=(((2 ^ M - 1)*2 ^ A:Nat):Int):=by rw [FN];exact(Int.natCast_mul _ _).symm
 rw [e1,e2,P8 _ A (by omega) (by omega) (by rw [e3];omega),e3,IntWalk.u32_in _ (by omega)]
theorem Ld (M A:Nat) (a:Addr) (w:World) (h:A+M<=32) (hc:w.cell? a=some (.int .i64 M)):
 Calls prog 312 #[.int .i64 A, .pointer (some a)] w fun e w'=>e= .returned (.int .u32 (maskN M A:Int))∧w'=w:=by
 rw [<-VF M A h];exact Xp A M a w (by omega) (by omega) hc
theorem QL (low many:Int) (w:World) (m0:1<=many) (m1:many<=32) (l0:0<=low) (l1:low<=32 - many):
 Calls prog 303 #[.int .i64 low, .int .i64 many] w fun e w'=>e= .returned (.tuple #[.func (.func 312) #[] #[.pointer w.heap.size], .bool true])∧w'=w.alloc (.cells #[.int .i64 many] 3):=by
 have hmf:=mkf;go_in;go_wp2;go_ret2;exact⟨rfl,rfl⟩
abbrev Ii (d e:Int):Ending:= .returned (.tuple #[.int .u32 d, .int .i64 e])
theorem YP (W L M:Nat) (hW:W<4294967296) (h:L+M<=32):bits .and .u32 (shrI .u32 W L) (maskN M 0:Int)=(getN W L M:Int):=by
 unfold shrI getN maskN;have e:min (L:Int).toNat IntKind.u32.bits=L:=by show min L 32=L;omega
 have p0:=Nat.two_pow_pos M;have p1:2 ^ M<=2 ^ 32:=Hi (by omega) (by omega);rw [e,FN, <-Int.natCast_ediv,Nat.pow_zero,Nat.mul_one,u32_and_nat _ _ (Nat.lt_of_le_of_lt (Nat.div_le_self _ _) hW) (by omega),Nat.and_two_pow_sub_one_eq_mod]
theorem Pk {a:Int} (h:a=b):Ending.returned (.tuple #[.int .u32 a, .int .i64 c])=Ii b c:=by rw [h]
theorem xK (W L M:Nat) (w:World) (hW:W<4294967296) (m0:1<=M) (h:L+M<=32):
 Calls prog 294 #[.int .u32 W, .int .i64 L, .int .i64 M] w fun e w'=>e=Ii (getN W L M) 0∧CG w w':=by
 have E:=Lib.hid (YP W L M hW h);have Hw:=Lib.hid hW;clear hW;go_in;go_wp2_with (go_at_call 303;refine mn_ (QL _ _ _ (by omega) (by omega) (by omega) (by omega)) ?_);go_quiet ((go_at_call 312;exact Calls.quiet_of_same (Ld M 0 _ _ (by omega) (by simp))));go_wp2;go_ret2;exact⟨Pk E.out,((CG.refl _).alloc _ _).drewN _⟩
theorem Xh (V M:Nat) (hV:V<4294967296) (h:M<=32):bits .andNot .u32 (V:Int) (maskN M 0:Int)=((V / 2 ^ M*2 ^ M:Nat):Int):=by
 have p0:=Nat.two_pow_pos M;have p1:2 ^ M<=2 ^ 32:=Hi (by omega) h;have e0:maskN M 0=2 ^ M - 1:=by unfold maskN;rw [Nat.pow_zero,Nat.mul_one]
 rw [e0,u32_andNot_nat _ _ hV (by omega)];congr 1;apply Nat.eq_of_testBit_eq;intro i;have e:4294967295 - (2 ^ M - 1)=2 ^ 32 - ((2 ^ M - 1)+1):=by omega
 rw [Nat.testBit_and,e,Nat.testBit_two_pow_sub_succ (by omega),Nat.testBit_two_pow_sub_one,Eo,Nat.testBit_div_two_pow];by_cases c:i<32
 . by_cases a:i<M
   . simp [a,show¬M<=i by omega]
   . simp [a,c,show M<=i by omega]
 . rw [Hh hV (by omega)];by_cases a:M<=i
   . rw [show i - M+M=i by omega,Hh hV (by omega)];simp
   . simp [a]
theorem zN (V M:Nat) (h:M<=32) (hV:V<2 ^ M):(bits .andNot .u32 (V:Int) (maskN M 0:Int) !=0)=false:=by
 have p1:2 ^ M<=2 ^ 32:=Hi (by omega) h;rw [Xh V M (by omega) h,Nat.div_eq_of_lt hV];simp
theorem X9 (W L M V:Nat) (hW:W<4294967296) (h:L+M<=32) (hV:V<2 ^ M):
 bits .or .u32 (bits .andNot .u32 (W:Int) (maskN M L:Int)) (Nv .u32 (V:Int) (L:Int))=(putN W L M V:Int):=by
 have hm:=Jy h;have e1:V*2 ^ L<2 ^ 32:=by
  have h1:V*2 ^ L<2 ^ M*2 ^ L:=Nat.mul_lt_mul_of_pos_right hV (Nat.two_pow_pos L);rw [<-Nat.pow_add] at h1;exact Bo h1 (Hi (by omega) (by omega))
 have e2:Nv .u32 (V:Int) (L:Int)=((V*2 ^ L:Nat):Int):=by
  unfold Nv;have e:min (L:Int).toNat IntKind.u32.bits=L:=by show min L 32=L;omega
  rw [e,FN, <-Int.natCast_mul,IntWalk.u32_in _ (by omega)]
 rw [e2,u32_andNot_nat _ _ hW (by unfold maskN;omega),u32_or_nat _ _ (Nat.lt_of_le_of_lt Nat.and_le_left hW) (by omega)];rfl
theorem Zz (W L M V:Nat) (w:World) (hW:W<4294967296) (m0:1<=M) (h:L+M<=32) (hV:V<2 ^ M):
 Calls prog 311 #[.int .u32 W, .int .i64 L, .int .i64 M, .int .u32 V] w fun e w'=>e=Ii (putN W L M V) 0∧CG w w':=by
 have E:=zN V M (by omega) hV;have P:=Lib.hid (X9 W L M V hW h hV);clear hV hW;go_in;go_wp2_with (first | (go_at_call 303;refine mn_ (QL _ _ _ (by omega) (by omega) (by omega) (by omega)) ?_) | (go_at_call 312;refine mn_ (Ld M 0 _ _ (by omega) (by simp)) ?_));go_quiet ((go_at_call 312;exact Calls.quiet_of_same (Ld M L _ _ (by omega) (by simp))));go_wp2;go_ret2;exact⟨Pk P.out,((CG.refl _).alloc _ _).drewN _⟩
theorem YO (w:World) (hW:W<4294967296) (m0:1<=M) (h:L+M<=32) (hr:getN W L M=R) (ev:v=W) (el:low=L) (em:many=M):
 Calls prog 294 #[.int .u32 v, .int .i64 low, .int .i64 many] w fun e w'=>e=Ii R 0∧CG w w':=by
 subst ev el em hr;exact xK W L M w hW m0 h
theorem Rn {x:Int} {V:Nat} (w:World) (hW:W<4294967296) (m0:1<=M) (h:L+M<=32) (hV:V<2 ^ M) (hr:putN W L M V=R) (ev:v=W) (el:low=L) (em:many=M) (ex:x=V):
 Calls prog 311 #[.int .u32 v, .int .i64 low, .int .i64 many, .int .u32 x] w fun e w'=>e=Ii R 0∧CG w w':=by
 subst ev el em ex hr;exact Zz W L M V w hW m0 h hV
end
theorem yV {D:Nat} (hD:D<256) (hR:R<16384):putN (putN 0 16 8 D) 2 14 R=65536*D+4*R:=by
 have l1:=Ti (w:=0) (l:=16) (m:=8) (v:=D) (by omega) (by omega) (by omega);apply Nat.eq_of_testBit_eq;intro i;rw [Ig (by omega) l1 (by omega),Ig (by omega) (by omega) (by omega),show 65536*D+4*R=2 ^ 16*D+4*R by omega,Nat.testBit_two_pow_mul_add _ (by omega),show 4*R=2 ^ 2*R+0 by omega,Nat.testBit_two_pow_mul_add _ (by omega)];by_cases a:i<2
 . rw [if_neg (by omega),if_neg (by omega),if_pos (by omega),if_pos a]
 . by_cases b:i<16
   . rw [if_pos (by omega),if_pos b,if_neg a]
   . rw [if_neg (by omega),if_neg b];by_cases c:i<24
     . rw [if_pos (by omega)]
     . rw [if_neg (by omega),Nat.zero_testBit,GG (m:=8) (by omega) (by omega)]
theorem TI (D R:Nat) (w:World) (hD:D<256) (hR:R<16384):
 Calls prog 359 #[.int .i64 D, .int .i64 R] w fun e w'=>e=Ii ((65536*D+4*R:Nat):Int) 0∧CG w w':=by
 obtain⟨x,ex⟩:=ex (putN 0 16 8 D);have k2:=Ae (yV hD hR);have l1:=Ae (Ti (w:=0) (l:=16) (m:=8) (v:=D) (by omega) (by omega) (by omega));rw [ex] at k2 l1;obtain⟨y,ey⟩:∃y,65536*D+4*R=y:=⟨_,rfl⟩;rw [ey] at k2 ⊢;have k1:=Ae ex;have h8:=Ae (show D<2 ^ 8 by omega);have h14:=Ae (show R<2 ^ 14 by omega);clear ex ey;go_in;go_wp2_with fail;refine(Rn (W:=0) (L:=16) (M:=8) _ (by omega) (by omega) (by omega) h8.out k1.out rfl rfl rfl rfl).mono ?_;rintro z w1 ⟨rfl,m1⟩;go_wp2_with fail;refine(Rn (L:=2) (M:=14) _ l1.out (by omega) (by omega) h14.out k2.out rfl rfl rfl rfl).mono ?_;rintro z w2 ⟨rfl,m2⟩;go_wp2;go_ret2;exact⟨rfl,m1.trans m2⟩
theorem GU (w:World) (hW:W<4294967296) (m0:1<=M) (h:L+M<=32) (hr:getN W L M=R) (ev:v=W) (el:low=L) (em:many=M):
 Calls prog 363 #[.int .u32 v, .int .i64 low, .int .i64 many] w fun e w'=>e= .returned (.int .i64 R)∧CG w w':=by
 subst ev el em;have HW:=Ae hW;have HR:=Ae hr;have rl:R<4294967296:=by
  have a:=Tu W L M;have b:2 ^ M<=2 ^ 32:=Hi (by omega) (by omega);rw [hr] at a;omega
 clear hW hr;go_in;go_wp2_with fail;refine(YO _ HW.out m0 h HR.out rfl rfl rfl).mono ?_;rintro z w1 ⟨rfl,hm⟩;go_wp2;go_ret;exact⟨rfl,hm⟩
abbrev pairI (a b:Int):Ending:= .returned (.tuple #[.int .i64 a, .int .i64 b])
def MI (W:Nat) (p q:Int):Prop:=
 ((W % 4≠0∨16777216<=W)∧p= -1∧q= -1)∨(W % 4=0∧W<16777216∧p=(W / 65536:Nat)∧q=(W % 65536 / 4:Nat))
theorem Ku {p q:Int} (w:World) (hW:W<4294967296) (ev:v=W) (h:MI W p q):
 Calls prog 361 #[.int .u32 v] w fun z w'=>z=pairI p q∧CG w w':=by
 subst ev;obtain⟨R1,e1⟩:∃R,getN W 0 2=R:=⟨_,rfl⟩;obtain⟨R2,e2⟩:∃R,getN W 24 8=R:=⟨_,rfl⟩;have K1:=Ae e1;have K2:=Ae e2;have HW:=Ae hW;rcases h with⟨h,rfl,rfl⟩ | ⟨h1,h2,rfl,rfl⟩
 . by_cases c:R1=0
   . subst c;have hz:((R2:Int) !=0)=true:=by
      have:R2≠0:=by rw [<-e2];unfold getN at*;omega
      simp;exact this
     clear e1 e2 h hW;go_in;go_wp2_with fail;refine(GU (L:=0) (M:=2) _ HW.out (by omega) (by omega) K1.out rfl rfl rfl).mono ?_;rintro z w1 ⟨rfl,m1⟩;go_wp2_with fail;refine(GU (L:=24) (M:=8) _ HW.out (by omega) (by omega) K2.out rfl rfl rfl).mono ?_;rintro z w2 ⟨rfl,m2⟩;go_wp2;go_ret2;exact⟨rfl,m1.trans m2⟩
   . have hz:((R1:Int) !=0)=true:=by simp;exact c
     clear e1 e2 h hW c;go_in;go_wp2_with fail;refine(GU (L:=0) (M:=2) _ HW.out (by omega) (by omega) K1.out rfl rfl rfl).mono ?_;rintro z w1 ⟨rfl,m1⟩;go_wp2;go_ret2;exact⟨rfl,m1⟩
 . have z1:R1=0:=by rw [<-e1];unfold getN;omega
   have z2:R2=0:=by rw [<-e2];unfold getN;omega
   subst z1 z2;have K3:=Ae (show getN W 16 8=W / 65536 by unfold getN;omega);have K4:=Ae (show getN W 2 14=W % 65536 / 4 by unfold getN;omega);obtain⟨P,eP⟩:=ex (W / 65536);obtain⟨Q,eQ⟩:∃P,W % 65536 / 4=P:=⟨_,rfl⟩;rw [eP] at K3 ⊢;rw [eQ] at K4 ⊢;clear e1 e2 hW h1 h2 eP eQ;go_in;go_wp2_with fail;refine(GU (L:=0) (M:=2) _ HW.out (by omega) (by omega) K1.out rfl rfl rfl).mono ?_;rintro z w1 ⟨rfl,m1⟩;go_wp2_with fail;refine(GU (L:=24) (M:=8) _ HW.out (by omega) (by omega) K2.out rfl rfl rfl).mono ?_;rintro z w2 ⟨rfl,m2⟩;go_wp2_with fail;refine(GU (L:=16) (M:=8) _ HW.out (by omega) (by omega) K3.out rfl rfl rfl).mono ?_;rintro z w3 ⟨rfl,m3⟩;go_wp2_with fail;refine(GU (L:=2) (M:=14) _ HW.out (by omega) (by omega) K4.out rfl rfl rfl).mono ?_;rintro z w4 ⟨rfl,m4⟩;go_wp2;go_ret2;exact⟨rfl,((m1.trans m2).trans m3).trans m4⟩
theorem JN:inf_ prog 3=some (some (.int .i64 0),1,8):=by kernel_rfl
theorem Pz:inf_ prog 311=some (some (.slice none 0 0),1,24):=by kernel_rfl
theorem QA:inf_ prog 305=some (some (.agg #[.int .i64 0, .bool false, .int .i64 0, .int .u32 0]),4,32):=by kernel_rfl
structure Ab (w:World) (B gr gw n:Nat) (rs:Nat->Int) (qs:Nat->Value) (k:Int):Prop where
 c0:w.cell? (B 0)=some (.slice gr n n)
 c1:w.cell? (B 1)=some (.slice gw n n)
 c2:w.cell? (B 2)=some (.int .i64 k)
 fb:∀o,w.frozen? (B o)=false
 lb:B<w.heap.size
 r:w.rowIs gr 3 n (fun i=> .int .i64 (rs i))
 q:w.rowIs gw 311 n qs
 ne1:B≠gr
 ne2:B≠gw
 ne3:gr≠gw
theorem Ka (hr:w.rowIs gr 3 n (fun _=> .int .i64 0)) (hq:w.rowIs gw 311 n (fun _=> .slice none 0 0)) (h1:gr≠gw) (hb:B=w.heap.size):
 Ab (w.alloc (.cells #[.slice gr n n, .slice gw n n, .int .i64 0] 190)) B gr gw n (fun _=>0) (fun _=> .slice none 0 0) 0:=by
 subst hb;have a:=hr.lt;have b:=hq.lt;exact⟨by simp,by simp,by simp,fun o=>by simp,by simp,hr.alloc _,hq.alloc _,by omega,by omega,h1⟩
theorem Ab.drewN (h:Ab w B gr gw n rs qs k) (m:Nat):Ab (w.drewN m) B gr gw n rs qs k:=
 ⟨h.c0,h.c1,h.c2,h.fb,h.lb,h.r,h.q,h.ne1,h.ne2,h.ne3⟩
theorem Ab.setReg (h:Ab w B gr gw n rs qs k) (i:Nat) (x:Int):
 Ab (w.setCell (gr i) (.int .i64 x)) B gr gw n (fun j=>if j=i then x else rs j) qs k:=by
 have ne:∀o,((gr i):Addr)≠(B o):=fun o e=>h.ne1 (by injection e with e;exact e.symm);refine⟨(FI (ne 0)).trans h.c0,(FI (ne 1)).trans h.c1,(FI (ne 2)).trans h.c2,fun o=>(World.frozen?_setCell _ _ _ _).trans (h.fb o),by simpa using h.lb,?_,h.q.setOther (fun e=>h.ne3 e.symm) _,h.ne1,h.ne2,h.ne3⟩;exact(h.r.set i (.int .i64 x)).congr fun j _=>by by_cases c:j=i <;> simp [c]
theorem Ab.congr {rs':Nat->Int} (h:Ab w B gr gw n rs qs k) (e:∀i,i<n->rs i=rs' i):Ab w B gr gw n rs' qs k:=
 ⟨h.c0,h.c1,h.c2,h.fb,h.lb,h.r.congr fun i hi=>by rw [e i hi],h.q,h.ne1,h.ne2,h.ne3⟩
theorem Ab.below (h:Ab w B gr gw n rs qs k) (m:Below w.heap.size w w'):Ab w' B gr gw n rs qs k:=
 ⟨(m.cell (p:=(B 0)) h.lb).trans h.c0,(m.cell (p:=(B 1)) h.lb).trans h.c1,(m.cell (p:=(B 2)) h.lb).trans h.c2,fun o=>(m.frozen (p:=(B o)) h.lb).trans (h.fb o),Bo h.lb m.size,h.r.of_block (m.block _ h.r.lt),h.q.of_block (m.block _ h.q.lt),h.ne1,h.ne2,h.ne3⟩
theorem Ab.mild (h:Ab w B gr gw n rs qs k) (m:CG w w'):Ab w' B gr gw n rs qs k:=h.below m.below
structure ZL (w:World) (ao:Option Addr) (n:Nat) (f:Nat->Int):Prop where
 some:n≠0->∃g,ao=some ⟨g,0,none⟩∧g<w.heap.size∧∀i,i<n->w.cell? ⟨g,i,none⟩=some (.int .i64 (f i))
theorem ZL.below {f:Nat->Int} (h:ZL w ao n f) (b:Below w.heap.size w w'):ZL w' ao n f:=
 ⟨fun e=>by obtain⟨g,e1,l,c⟩:=h.some e;exact⟨g,e1,Bo l b.size,fun i hi=>(b.cell (p:=(g i)) l).trans (c i hi)⟩⟩
def Oz (w:World) (n:Nat) (f:Nat->Int) (e:Ending) (w':World):Prop:=
 ∃B gr gw,e= .returned (.tuple #[.pointer (some ⟨B,0,none⟩), .int .i64 0])∧Below w.heap.size w w'∧Ab w' B gr gw n f (fun _=> .slice none 0 0) 0∧w.heap.size<=B∧w.heap.size<=gr∧w.heap.size<=gw
theorem Xl (g n cap:Nat) (f:Nat->Int) (w:World) (hn:n<=6) (h0:0<n) (hg:g<w.heap.size) (hc:AG (∀i,i<n->w.cell? (g i)=some (.int .i64 (f i)))) (KL:AG (∀i,i<n->0<=f i∧f i<=8)):
 Calls prog 29 #[.slice g n cap] w (Oz w n f):=by
 have hm3:=fun(W:World)=>run_make_row' (P:=prog) 22 3 (.int .i64 0) 8 underlying22 JN rfl .i64 .i64 n (by omega) (by omega) W;have hm56:=fun(W:World)=>run_make_row' (P:=prog) 188 311 (.slice none 0 0) 24 underlying188 Pz rfl .i64 .i64 n (by omega) (by omega) W;go_in;go_wp2_with fail;go_region
 . have bus:Ab ((((w.alloc (.cells (madeCells #[.int .i64 0] n) 3)).alloc (.cells (madeCells #[.slice none 0 0] n) 311)).alloc (.cells #[.slice w.heap.size n n, .slice (some ((w.heap.size+1) 0)) n n, .int .i64 0] 190)).drew) (w.heap.size+1+1) (w.heap.size) (w.heap.size+1) n (fun _=>0) (fun _=> .slice none 0 0) 0:=(Ka (B:=w.heap.size+1+1) ((CV w (.int .i64 0) n 3).alloc _) (by simpa using CV (w.alloc (.cells (madeCells #[.int .i64 0] n) 3)) (.slice none 0 0) n 311) (by omega) (by simp)).drewN 1;have bel:Below w.heap.size w ((((w.alloc (.cells (madeCells #[.int .i64 0] n) 3)).alloc (.cells (madeCells #[.slice none 0 0] n) 311)).alloc (.cells #[.slice w.heap.size n n, .slice (some ((w.heap.size+1) 0)) n n, .int .i64 0] 190)).drew):=((((Below.refl _ w).alloc (al11_ _) _).alloc (by simp) _).alloc (by simp;omega) _).drew;obtain⟨w1,hw1⟩:∃w1:World,(((w.alloc (.cells (madeCells #[.int .i64 0] n) 3)).alloc (.cells (madeCells #[.slice none 0 0] n) 311)).alloc (.cells #[.slice (some (w.heap.size 0)) n n, .slice (some ((w.heap.size+1) 0)) n n, .int .i64 0] 190)).drew=w1:=⟨_,rfl⟩;rw [hw1] at bus bel ⊢;clear hw1 hm3 hm56;have KU:=Ae bus;have KE:=Ae bel;clear bus bel;go_wp2;go_loopw [20] (fun i wr=>∃k:Nat,k<=n∧i= .int .i64 k∧Below w.heap.size w wr∧Ab wr (w.heap.size+1+1) (w.heap.size) (w.heap.size+1) n (fun i=>if i<k then f i else 0) (fun _=> .slice none 0 0) 0) (fun i _=>n - (intOf i).toNat);case atStart=>exact⟨0,by omega,rfl,KE.out,KU.out.congr fun i _=>by simp⟩
   case round=>
    obtain⟨k,hk,rfl,bel0,bus0⟩:=hrel;have bel:=Ae bel0;have bus:=Ae bus0;clear bel0 bus0;by_cases hlt:k<n
    . have q1:=(bel.out.cell (p:=(g k)) hg).trans (hc.out k hlt);have q2:=bus.out.c0;have q3:=bus.out.r.cell hlt;have q4:=bus.out.r.frozen k;have l0:=(KL.out k hlt).1;have l1:=(KL.out k hlt).2;obtain⟨x,hx⟩:∃x,f k=x:=⟨_,rfl⟩;have HX:=Ae hx;rw [hx] at q1 l0 l1;clear hx;go_wp2;go_roundw;case rel=>exact⟨k+1,by omega,by go_num,bel.out.setCell (by dsimp only;omega) _,(bus.out.setReg k x).congr fun i hi=>by
       rw [<-HX.out];by_cases c:i=k
       . subst c;rw [if_pos rfl,if_pos (by omega)]
       . rw [if_neg c];by_cases d:i<k
         . rw [if_pos d,if_pos (by omega)]
         . rw [if_neg d,if_neg (by omega)]⟩
      case measure=>simp [intOf];omega
    . go_wp2;go_ret2;exact⟨_,_,_,rfl,bel.out,bus.out.congr fun i hi=>by rw [if_pos (by omega)],by omega,by omega,by omega⟩
 . have bus:Ab ((((w.alloc (.cells (madeCells #[.slice none 0 0] n) 311)).alloc (.cells (madeCells #[.int .i64 0] n) 3)).alloc (.cells #[.slice (some ((w.heap.size+1) 0)) n n, .slice w.heap.size n n, .int .i64 0] 190)).drew) (w.heap.size+1+1) (w.heap.size+1) (w.heap.size) n (fun _=>0) (fun _=> .slice none 0 0) 0:=(Ka (B:=w.heap.size+1+1) (by simpa using CV (w.alloc (.cells (madeCells #[.slice none 0 0] n) 311)) (.int .i64 0) n 3) ((CV w (.slice none 0 0) n 311).alloc _) (by omega) (by simp)).drewN 1;have bel:Below w.heap.size w ((((w.alloc (.cells (madeCells #[.slice none 0 0] n) 311)).alloc (.cells (madeCells #[.int .i64 0] n) 3)).alloc (.cells #[.slice (some ((w.heap.size+1) 0)) n n, .slice w.heap.size n n, .int .i64 0] 190)).drew):=((((Below.refl _ w).alloc (al11_ _) _).alloc (by simp) _).alloc (by simp;omega) _).drew;obtain⟨w1,hw1⟩:∃w1:World,(((w.alloc (.cells (madeCells #[.slice none 0 0] n) 311)).alloc (.cells (madeCells #[.int .i64 0] n) 3)).alloc (.cells #[.slice (some ((w.heap.size+1) 0)) n n, .slice (some (w.heap.size 0)) n n, .int .i64 0] 190)).drew=w1:=⟨_,rfl⟩;rw [hw1] at bus bel ⊢;clear hw1 hm3 hm56;have KU:=Ae bus;have KE:=Ae bel;clear bus bel;go_wp2;go_loopw [20] (fun i wr=>∃k:Nat,k<=n∧i= .int .i64 k∧Below w.heap.size w wr∧Ab wr (w.heap.size+1+1) (w.heap.size+1) (w.heap.size) n (fun i=>if i<k then f i else 0) (fun _=> .slice none 0 0) 0) (fun i _=>n - (intOf i).toNat);case atStart=>exact⟨0,by omega,rfl,KE.out,KU.out.congr fun i _=>by simp⟩
   case round=>
    obtain⟨k,hk,rfl,bel0,bus0⟩:=hrel;have bel:=Ae bel0;have bus:=Ae bus0;clear bel0 bus0;by_cases hlt:k<n
    . have q1:=(bel.out.cell (p:=(g k)) hg).trans (hc.out k hlt);have q2:=bus.out.c0;have q3:=bus.out.r.cell hlt;have q4:=bus.out.r.frozen k;have l0:=(KL.out k hlt).1;have l1:=(KL.out k hlt).2;obtain⟨x,hx⟩:∃x,f k=x:=⟨_,rfl⟩;have HX:=Ae hx;rw [hx] at q1 l0 l1;clear hx;go_wp2;go_roundw;case rel=>exact⟨k+1,by omega,by go_num,bel.out.setCell (by dsimp only;omega) _,(bus.out.setReg k x).congr fun i hi=>by
       rw [<-HX.out];by_cases c:i=k
       . subst c;rw [if_pos rfl,if_pos (by omega)]
       . rw [if_neg c];by_cases d:i<k
         . rw [if_pos d,if_pos (by omega)]
         . rw [if_neg d,if_neg (by omega)]⟩
      case measure=>simp [intOf];omega
    . go_wp2;go_ret2;exact⟨_,_,_,rfl,bel.out,bus.out.congr fun i hi=>by rw [if_pos (by omega)],by omega,by omega,by omega⟩
theorem Xm (ao:Option Addr) (n cap:Nat) (f:Nat->Int) (w:World) (hn:n<=6) (h0:n<=0):
 Calls prog 29 #[.slice ao n cap] w (Oz w n f):=by
 have hm3:=fun(W:World)=>run_make_row' (P:=prog) 22 3 (.int .i64 0) 8 underlying22 JN rfl .i64 .i64 n (by omega) (by omega) W;have hm56:=fun(W:World)=>run_make_row' (P:=prog) 188 311 (.slice none 0 0) 24 underlying188 Pz rfl .i64 .i64 n (by omega) (by omega) W;go_in;go_wp2_with fail;go_region
 . have bus:Ab ((((w.alloc (.cells (madeCells #[.int .i64 0] n) 3)).alloc (.cells (madeCells #[.slice none 0 0] n) 311)).alloc (.cells #[.slice w.heap.size n n, .slice (some ((w.heap.size+1) 0)) n n, .int .i64 0] 190)).drew) (w.heap.size+1+1) (w.heap.size) (w.heap.size+1) n (fun _=>0) (fun _=> .slice none 0 0) 0:=(Ka (B:=w.heap.size+1+1) ((CV w (.int .i64 0) n 3).alloc _) (by simpa using CV (w.alloc (.cells (madeCells #[.int .i64 0] n) 3)) (.slice none 0 0) n 311) (by omega) (by simp)).drewN 1;have bel:Below w.heap.size w ((((w.alloc (.cells (madeCells #[.int .i64 0] n) 3)).alloc (.cells (madeCells #[.slice none 0 0] n) 311)).alloc (.cells #[.slice w.heap.size n n, .slice (some ((w.heap.size+1) 0)) n n, .int .i64 0] 190)).drew):=((((Below.refl _ w).alloc (al11_ _) _).alloc (by simp) _).alloc (by simp;omega) _).drew;obtain⟨w1,hw1⟩:∃w1:World,(((w.alloc (.cells (madeCells #[.int .i64 0] n) 3)).alloc (.cells (madeCells #[.slice none 0 0] n) 311)).alloc (.cells #[.slice (some (w.heap.size 0)) n n, .slice (some ((w.heap.size+1) 0)) n n, .int .i64 0] 190)).drew=w1:=⟨_,rfl⟩;rw [hw1] at bus bel ⊢;clear hw1 hm3 hm56;have KU:=Ae bus;have KE:=Ae bel;clear bus bel;go_wp2;go_loopw [20] (fun i wr=>∃k:Nat,k<=n∧i= .int .i64 k∧Below w.heap.size w wr∧Ab wr (w.heap.size+1+1) (w.heap.size) (w.heap.size+1) n (fun i=>if i<k then f i else 0) (fun _=> .slice none 0 0) 0) (fun i _=>n - (intOf i).toNat);case atStart=>exact⟨0,by omega,rfl,KE.out,KU.out.congr fun i _=>by simp⟩
   case round=>
    obtain⟨k,hk,rfl,bel0,bus0⟩:=hrel;have bel:=Ae bel0;have bus:=Ae bus0;clear bel0 bus0;go_wp2;go_ret2;exact⟨_,_,_,rfl,bel.out,bus.out.congr fun i hi=>by rw [if_pos (by omega)],by omega,by omega,by omega⟩
 . have bus:Ab ((((w.alloc (.cells (madeCells #[.slice none 0 0] n) 311)).alloc (.cells (madeCells #[.int .i64 0] n) 3)).alloc (.cells #[.slice (some ((w.heap.size+1) 0)) n n, .slice w.heap.size n n, .int .i64 0] 190)).drew) (w.heap.size+1+1) (w.heap.size+1) (w.heap.size) n (fun _=>0) (fun _=> .slice none 0 0) 0:=(Ka (B:=w.heap.size+1+1) (by simpa using CV (w.alloc (.cells (madeCells #[.slice none 0 0] n) 311)) (.int .i64 0) n 3) ((CV w (.slice none 0 0) n 311).alloc _) (by omega) (by simp)).drewN 1;have bel:Below w.heap.size w ((((w.alloc (.cells (madeCells #[.slice none 0 0] n) 311)).alloc (.cells (madeCells #[.int .i64 0] n) 3)).alloc (.cells #[.slice (some ((w.heap.size+1) 0)) n n, .slice w.heap.size n n, .int .i64 0] 190)).drew):=((((Below.refl _ w).alloc (al11_ _) _).alloc (by simp) _).alloc (by simp;omega) _).drew;obtain⟨w1,hw1⟩:∃w1:World,(((w.alloc (.cells (madeCells #[.slice none 0 0] n) 311)).alloc (.cells (madeCells #[.int .i64 0] n) 3)).alloc (.cells #[.slice (some ((w.heap.size+1) 0)) n n, .slice (some (w.heap.size 0)) n n, .int .i64 0] 190)).drew=w1:=⟨_,rfl⟩;rw [hw1] at bus bel ⊢;clear hw1 hm3 hm56;have KU:=Ae bus;have KE:=Ae bel;clear bus bel;go_wp2;go_loopw [20] (fun i wr=>∃k:Nat,k<=n∧i= .int .i64 k∧Below w.heap.size w wr∧Ab wr (w.heap.size+1+1) (w.heap.size+1) (w.heap.size) n (fun i=>if i<k then f i else 0) (fun _=> .slice none 0 0) 0) (fun i _=>n - (intOf i).toNat);case atStart=>exact⟨0,by omega,rfl,KE.out,KU.out.congr fun i _=>by simp⟩
   case round=>
    obtain⟨k,hk,rfl,bel0,bus0⟩:=hrel;have bel:=Ae bel0;have bus:=Ae bus0;clear bel0 bus0;go_wp2;go_ret2;exact⟨_,_,_,rfl,bel.out,bus.out.congr fun i hi=>by rw [if_pos (by omega)],by omega,by omega,by omega⟩
theorem zP (ao:Option Addr) (n cap:Nat) (f:Nat->Int) (w:World) (hn:n<=6) (src:ZL w ao n f) (lo:∀i,i<n->0<=f i∧f i<=8):
 Calls prog 29 #[.slice ao n cap] w (Oz w n f):=by
 by_cases h0:n=0
 . exact Xm ao n cap f w hn (by omega)
 . obtain⟨g,rfl,hg,hc⟩:=src.some h0;exact Xl g n cap f w hn (by omega) hg ⟨hc⟩ ⟨lo⟩
theorem Wj (h:n<=32):wrap64 (2 ^ n)=((2 ^ n:Nat):Int):=by
 have p:2 ^ n<=2 ^ 32:=Hi (by omega) h;rw [FN];generalize 2 ^ n=P at p;exact IntWalk.wrap64_in _ (by omega)
theorem Ih {v:Nat} (h:l+m<=32) (hW:W<2 ^ l) (hv:v<2 ^ m):putN W l m v=W+v*2 ^ l:=by
 have hl:2 ^ l<=2 ^ 32:=Hi (by omega) (by omega);apply Nat.eq_of_testBit_eq;intro i;rw [Ig h (by omega) hv,Nat.add_comm W,Nat.mul_comm v,Nat.testBit_two_pow_mul_add _ hW];by_cases a:i<l
 . rw [if_neg (by omega),if_pos a]
 . rw [if_neg a];by_cases b:i<l+m
   . rw [if_pos (by omega)]
   . rw [if_neg (by omega),GG hW (by omega),GG hv (by omega)]
theorem OG (W L M V P:Nat) (R:Nat) (w:World) (hW:AG (W<4294967296)) (m0:1<=M) (h:L+M<=32) (hP:AG (2 ^ M=P)) (hp:P<=4294967296) (hV:V<P) (hr:AG (putN W L M V=R)):
 Calls prog 302 #[.int .u32 W, .int .i64 L, .int .i64 M, .int .i64 V] w fun e w'=>e=Ii R 0∧CG w w':=by
 have X:=Wj (n:=M) (by omega);rw [hP.out] at X;have HV:=Ae (show V<2 ^ M by rw [hP.out];exact hV);go_in;go_wp2_with fail;refine(Rn _ hW.out m0 h HV.out hr.out rfl rfl rfl rfl).mono ?_;rintro z w1 ⟨rfl,hm⟩;go_wp2;go_ret2;exact⟨rfl,hm⟩
theorem Ge (w:World) (hW:W<4294967296) (m0:1<=M) (h:L+M<=32) (hr:getN W L M=R) (ev:v=W) (el:low=L) (em:many=M):
 Calls prog 264 #[.int .u32 v, .int .i64 low, .int .i64 many] w fun e w'=>e= .returned (.int .i64 R)∧CG w w':=by
 subst ev el em;have HW:=Ae hW;have HR:=Ae hr;have rl:R<4294967296:=by
  have a:=Tu W L M;have b:2 ^ M<=2 ^ 32:=Hi (by omega) (by omega);rw [hr] at a;omega
 clear hW hr;go_in;go_wp2_with fail;refine(YO _ HW.out m0 h HR.out rfl rfl rfl).mono ?_;rintro z w1 ⟨rfl,hm⟩;go_wp2;go_ret;exact⟨rfl,hm⟩
theorem zE (a b c d:Nat) (w:World) (ha:a<=255) (hb:b<=3) (hc:c<=255) (hd:d<=1023):
 Calls prog 290 #[.agg #[.int .i64 a, .int .i64 b, .int .i64 c, .int .i64 d]] w fun e w'=>e=Ii ((a+256*b+1024*c+262144*d:Nat):Int) 0∧CG w w':=by
 have e1:putN 0 0 8 a=a:=by rw [Ih (by omega) (by omega) (by omega)];omega
 have e2:putN a 8 2 b=a+256*b:=by rw [Ih (by omega) (by omega) (by omega)];omega
 have e3:putN (a+256*b) 10 8 c=a+256*b+1024*c:=by rw [Ih (by omega) (by omega) (by omega)];omega
 have e4:putN (a+256*b+1024*c) 18 10 d=a+256*b+1024*c+262144*d:=by rw [Ih (by omega) (by omega) (by omega)];omega
 obtain⟨x2,h2⟩:∃x,a+256*b=x:=⟨_,rfl⟩;obtain⟨x3,h3⟩:∃x,x2+1024*c=x:=⟨_,rfl⟩;obtain⟨x4,h4⟩:∃x,x3+262144*d=x:=⟨_,rfl⟩;rw [h2] at e2 e3 e4 ⊢;rw [h3] at e3 e4 ⊢;rw [h4] at e4 ⊢;have k1:=Ae e1;have k2:=Ae e2;have k3:=Ae e3;have k4:=Ae e4;have l2:AG (x2<4294967296):=⟨by omega⟩;have l3:AG (x3<4294967296):=⟨by omega⟩;clear e1 e2 e3 e4 h2 h3 h4;go_in;go_wp2_with fail;refine(OG 0 0 8 a 256 a _ ⟨by omega⟩ (by omega) (by omega) ⟨by decide⟩ (by omega) (by omega) k1).mono ?_;rintro z w1 ⟨rfl,m1⟩;have c1:w1.cell? (w.heap.size 1)=some (.int .i64 b):=by rw [m1.cell (by simp)];simp
 go_wp2_with fail;refine(OG a 8 2 b 4 x2 _ ⟨by omega⟩ (by omega) (by omega) ⟨by decide⟩ (by omega) (by omega) k2).mono ?_;rintro z w2 ⟨rfl,m2⟩;have m2:=m1.trans m2;have c2:w2.cell? (w.heap.size 2)=some (.int .i64 c):=by rw [m2.cell (by simp)];simp
 go_wp2_with fail;refine(OG x2 10 8 c 256 x3 _ l2 (by omega) (by omega) ⟨by decide⟩ (by omega) (by omega) k3).mono ?_;rintro z w3 ⟨rfl,m3⟩;have m3:=m2.trans m3;have c3:w3.cell? (w.heap.size 3)=some (.int .i64 d):=by rw [m3.cell (by simp)];simp
 go_wp2_with fail;refine(OG x3 18 10 d 1024 x4 _ l3 (by omega) (by omega) ⟨by decide⟩ (by omega) (by omega) k4).mono ?_;rintro z w4 ⟨rfl,m4⟩;have m4:=m3.trans m4;go_wp2;go_ret2;exact⟨rfl,((CG.refl _).alloc _ _).trans m4⟩
abbrev Ts (a b c d e:Int):Ending:= .returned (.tuple #[.agg #[.int .i64 a, .int .i64 b, .int .i64 c, .int .i64 d], .int .i64 e])
theorem UY (W a b c d:Nat) (w:World) (hW:W<268435456) (ha:W % 256=a) (hb:W / 256 % 4=b) (hc:W / 1024 % 256=c) (hd:W / 262144=d):
 Calls prog 213 #[.int .u32 W] w fun e w'=>e=Ts a b c d 0∧CG w w':=by
 have e0:getN W 28 4=0:=by unfold getN;omega
 have e1:getN W 0 8=a:=by unfold getN;omega
 have e2:getN W 8 2=b:=by unfold getN;omega
 have e3:getN W 10 8=c:=by unfold getN;omega
 have e4:getN W 18 10=d:=by unfold getN;omega
 have k0:=Ae e0;have k1:=Ae e1;have k2:=Ae e2;have k3:=Ae e3;have k4:=Ae e4;have HW:=Ae (show W<4294967296 by omega);clear e0 e1 e2 e3 e4 ha hb hc hd hW;go_in;go_wp2_with fail;refine(Ge (L:=28) (M:=4) _ HW.out (by omega) (by omega) k0.out rfl rfl rfl).mono ?_;rintro z w1 ⟨rfl,m1⟩;go_wp2_with fail;refine(Ge (L:=0) (M:=8) _ HW.out (by omega) (by omega) k1.out rfl rfl rfl).mono ?_;rintro z w2 ⟨rfl,m2⟩;go_wp2_with fail;refine(Ge (L:=8) (M:=2) _ HW.out (by omega) (by omega) k2.out rfl rfl rfl).mono ?_;rintro z w3 ⟨rfl,m3⟩;go_wp2_with fail;refine(Ge (L:=10) (M:=8) _ HW.out (by omega) (by omega) k3.out rfl rfl rfl).mono ?_;rintro z w4 ⟨rfl,m4⟩;go_wp2_with fail;refine(Ge (L:=18) (M:=10) _ HW.out (by omega) (by omega) k4.out rfl rfl rfl).mono ?_;rintro z w5 ⟨rfl,m5⟩;have m6:=(((m1.trans m2).trans m3).trans m4).trans m5;have hf:∀o,w5.frozen? (w.heap.size o)=false:=fun o=>by rw [m6.free];simp
 have c0:w5.cell? (w.heap.size 0)=some (.int .i64 0):=by rw [m6.cell (by simp)];simp
 have c1:w5.cell? (w.heap.size 1)=some (.int .i64 0):=by rw [m6.cell (by simp)];simp
 have c2:w5.cell? (w.heap.size 2)=some (.int .i64 0):=by rw [m6.cell (by simp)];simp
 have c3:w5.cell? (w.heap.size 3)=some (.int .i64 0):=by rw [m6.cell (by simp)];simp
 go_wp2_with fail;refine bodyPost_ret (v:= .tuple #[.agg #[.int .i64 a, .int .i64 b, .int .i64 c, .int .i64 d], .int .i64 0]) (by simp [results,results213,go_sem,c0,c1,c2,c3]) rfl ⟨rfl,?_⟩;exact(((((((CG.refl _).alloc _ _).trans m6).setCell (by simp) _).setCell (by simp) _).setCell (by simp) _).setCell (by simp) _)
namespace W
abbrev pairS (d e:Int):Ending:= .returned (.tuple #[.int .i32 d, .int .i64 e])
theorem pairS_of {a:Int} (h:a=b):Ending.returned (.tuple #[.int .i32 a, .int .i64 c])=pairS b c:=by rw [h]
theorem pack_is {a d:Int} (A B C D R:Nat) (w:World) (ea:a=A) (eb:b=B) (ec:c=C) (ed:d=D) (ha:A<=255) (hb:B<=3) (hc:C<=255) (hd:D<=1023) (hR:A+256*B+1024*C+262144*D=R):
 Calls prog 290 #[.agg #[.int .i64 a, .int .i64 b, .int .i64 c, .int .i64 d]] w fun e w'=>e=Ii R 0∧CG w w':=by
 subst ea eb ec ed hR;exact zE A B C D w ha hb hc hd
theorem unpack_is (W a b c d:Nat) (w:World) (ev:v=W) (hW:W<268435456) (ha:W % 256=a) (hb:W / 256 % 4=b) (hc:W / 1024 % 256=c) (hd:W / 262144=d):
 Calls prog 213 #[.int .u32 v] w fun e w'=>e=Ts a b c d 0∧CG w w':=by
 subst ev;exact UY W a b c d w hW ha hb hc hd
structure Src (w:World) (ao:Option Addr) (m c:Nat) (news:List Value):Prop where
 none:ao=none->m=0∧c=0
 len:news.length=m
 lt:∀ad,ao=some ad->m≠0->ad.block<w.heap.size
 cells:∀ad,ao=some ad->∀j u,news[j]?=some u->w.cell? (ad.add j)=some u
 one:∀u ∈ news,u.oneCell'=true
theorem Src.some_ne {c:Nat} (h:Src w ao m c news) {j:Nat} {u:Value} (hj:news[j]?=some u):m≠0:=by
 intro e;have hl:=h.len;rw [e] at hl;rw [Gc hl] at hj;simp at hj
theorem Src.below {c:Nat} (h:Src w ao m c news) (b:Below w.heap.size w w'):Src w' ao m c news:=
 ⟨h.none,h.len,fun ad e n=>Bo (h.lt ad e n) b.size,fun ad e j u hj=>(b.cell (p:=ad.add j) (by unfold Addr.add;split <;> exact h.lt ad e (h.some_ne hj))).trans (h.cells ad e j u hj),h.one⟩
theorem IV:inf_ prog 37=some (some (.int .u32 0),1,4):=by kernel_rfl
structure RowAt (B:Nat) (w:World) (v:Value) (n:Nat) (xs:List Value) (w':World):Prop where
 owns:w'.ownsRow B 37 1 v n xs
 below:Below B w w'
def RowPost (B:Nat) (w:World) (n:Nat) (xs:List Value) (e:Ending) (w':World):Prop:=∃g,e= .returned (.slice (some ⟨g,0,none⟩) n n)∧RowAt B w (.slice (some ⟨g,0,none⟩) n n) n xs w'
theorem Ee (w:World) (x:Value) (t:TypeId):∀j u,[x][j]?=some u->(w.alloc (.cells #[x] t)).cell? (((w.heap.size 0):Addr).add j)=some u:=by
 intro j u hj
 match j,hj with
 | 0,hj=>
  simp at hj;subst hj
  simp [Addr.add]
 | k+1,hj=>simp at hj
theorem below_made (h:w.grownBy w1 none) (hB:B<=w.heap.size):Below B w w1:=(Below.refl _ _).grown h hB (fun k e=>by cases e)
theorem below_app (b:Below B w w1) (o:Obj) (h:(w1.alloc o).grownBy w2 (some g)) (hB:B<=w1.heap.size) (hg:B<=g):Below B w w2:=
 (b.alloc hB o).grown h (by simp;omega) (fun k e=>by injection e with e;omega)
theorem below_app' (b:Below B w w1) (h:w1.grownBy w2 (some g)) (hB:B<=w1.heap.size) (hg:B<=g):Below B w w2:=
 b.grown h hB (fun k e=>by injection e with e;omega)
theorem row_any (W:Int) (ao:Option Addr) (m c:Nat) (news:List Value) (w:World) (src:Src w ao m c news) (hm:m<=600):
 Calls prog 216 #[.int .u32 W, .slice ao m c] w (RowPost w.heap.size w (m+1) (.int .u32 W::news)):=by
 obtain⟨i0,KI,KZ0,KZ1,KZ2⟩:=ik_ IV;have KS:=Ae src;clear src;go_in;have hb2:i0.bytes*(m+1)<=281474976710656:=by rw [KZ2.out];omega
 have hb3:m+1<=maxLen:=by unfold maxLen;omega
 have KB2:=Ae hb2;have KB3:=Ae hb3;clear hb2 hb3;have hle:w.heap.size<=w.heap.size:=al11_ _
 go_wp2_with (first
  | (at_make;refine wpList_make_own _ rfl _ _ 23 rfl w.heap.size 37 i0 (.int .u32 0) 1 underlying23 KI.out KZ0.out KZ1.out .i64 .i64 _ (m+1) rfl rfl (by omega) KB2.out KB3.out (al11_ _) ?_;intro w1 own1 grow1;have b1:=below_made grow1 hle;have s1:=b1.size;have KO1:=Ae own1;have KB1:=Ae b1;clear grow1 own1 b1)
  | (at_builtin;(refine wpList_append_fits _ rfl (.tmp 10) (.tmp 12) 23 rfl w.heap.size 37 i0 1 underlying23 KI.out KZ1.out w.heap.size 0 (m+1) [] rfl (KO1.out.alloc _) (w1.heap.size 0) 1 1 [.int .u32 W] rfl rfl (Ee _ _ _) (by simp [Value.oneCell']) (by omega) ?_);intro w2 own2 grow2;have KB2:=Ae (below_app KB1.out _ grow2 s1 hle);have KO2:=Ae own2;clear grow2 own2 s1)
  | (at_builtin;(refine wpList_append_fits_any _ rfl (.tmp 14) (.tmp 15) 23 rfl w.heap.size 37 i0 1 underlying23 KI.out KZ1.out w.heap.size 1 (m+1) [.int .u32 W] rfl KO2.out ao m c news rfl (by rw [KS.out.len];omega) KS.out.none (KS.out.below KB2.out).cells KS.out.one (by omega) ?_);intro w3 own3 grow3;have KB3:=Ae (below_app' KB2.out grow3 KB2.out.size hle);have KO3:=Ae own3;clear grow3 own3))
 have own:=KO3.out;rw [Nat.add_comm 1 m] at own;go_ret;exact⟨w.heap.size,by simp [Nat.add_comm],own,KB3.out⟩
def AnsPost (B:Nat) (w:World) (n:Nat) (xs:List Value) (e:Ending) (w':World):Prop:=∃g cap,e= .returned (.slice (some ⟨g,0,none⟩) n cap)∧RowAt B w (.slice (some ⟨g,0,none⟩) n cap) n xs w'
theorem src_one (w:World) (x:Value) (h:x.oneCell'=true):Src (w.alloc (.cells #[x] 37)) (some (w.heap.size 0)) 1 1 [x]:=
 ⟨fun e=>(by cases e),rfl,fun ad e _=>(by injection e with e;subst e;simp),fun ad e=>(by injection e with e;subst e;exact Ee _ _ _),fun u hu=>(by simp at hu;subst hu;exact h)⟩
theorem answer_any (W S V:Int) (ao:Option Addr) (m c:Nat) (news:List Value) (w:World) (src:Src w ao m c news) (hm:m<=600) (hV:S % 4294967296=V):
 Calls prog 149 #[.int .u32 W, .int .i32 S, .slice ao m c] w (AnsPost w.heap.size w (m+2) (.int .u32 W:: .int .u32 V::news)):=by
 obtain⟨i0,KI,KZ0,KZ1,KZ2⟩:=ik_ IV;have KS:=Ae src;clear src
 cases ao with
 | none=>
  obtain⟨rfl,rfl⟩:=KS.out.none rfl;have hn:=Gc KS.out.len;subst hn;go_in;go_wp2_with fail;refine(row_any W _ 1 1 [.int .u32 V] _ (src_one w (.int .u32 V) rfl) (by omega)).mono ?_;rintro e w1 ⟨g,rfl,hr⟩;have KO:=Ae hr.owns;have KB:=Ae (((Below.refl w.heap.size w).alloc (al11_ _) (.cells #[.int .u32 V] 37)).trans (hr.below.mono (by simp)));clear hr;go_wp2_with (at_builtin;(refine wpList_append_own_none rfl (.tmp 11) (.tmp 12) 23 rfl _ 37 i0 1 underlying23 KI.out _ _ _ rfl KO.out rfl ?_));go_ret
  exact⟨g,_,rfl,Joins.ownsRow_le KO.out (by simp),KB.out⟩
 | some ad=>
  go_in;go_wp2_with fail;refine(row_any W _ 1 1 [.int .u32 V] _ (src_one w (.int .u32 V) rfl) (by omega)).mono ?_;rintro e w1 ⟨g,rfl,hr⟩;have KO:=Ae hr.owns;have KB:=Ae (((Below.refl w.heap.size w).alloc (al11_ _) (.cells #[.int .u32 V] 37)).trans (hr.below.mono (by simp)));have KL:=Ae (show(w.alloc (.cells #[.int .u32 V] 37)).heap.size<=w1.heap.size from hr.below.size);have KM:=Ae (show 1+1+m<=maxLen by unfold maxLen;omega);clear hr;go_wp2_with (at_builtin;refine wpList_append_own _ rfl (.tmp 11) (.tmp 12) 23 rfl (w.alloc (.cells #[.int .u32 V] 37)).heap.size 37 i0 (.int .u32 0) 1 4 underlying23 KI.out KZ0.out KZ1.out KZ2.out rfl (by omega) _ _ _ rfl KO.out ad m c news rfl (by rw [KS.out.len];omega) ((KS.out.below KB.out).cells ad rfl) KS.out.one KM.out (by omega) KL.out ?_;intro v' w2 own2 grow2 _;have KO2:=Ae own2;have KG:=Ae grow2;clear own2 grow2);have hb:=KB.out.grown KG.out KB.out.size (fun k e=>by have:=KO.out.lt k e;simp at this;omega);obtain⟨g2,cap,hv⟩:=Joins.ownsRow_form KO2.out (by omega);have ho:=KO2.out;subst hv;rw [show 1+1+m=m+2 by omega] at ho ⊢;go_ret;exact⟨g2,cap,rfl,Joins.ownsRow_le ho (by simp),hb⟩
def CmdPost (B:Nat) (w:World) (n:Nat) (xs:List Value) (e:Ending) (w':World):Prop:=∃g,e= .returned (.tuple #[.slice (some ⟨g,0,none⟩) n n, .int .i64 0])∧RowAt B w (.slice (some ⟨g,0,none⟩) n n) n xs w'
theorem command_ok (A B C D R:Nat) (ao:Option Addr) (m c:Nat) (news:List Value) (w:World) (src:Src w ao m c news) (hm:m<=600) (ha:A<=255) (hb:B<=3) (hc:C<=255) (hd:D<=1023) (hR:A+256*B+1024*C+262144*D=R):
 Calls prog 251 #[.agg #[.int .i64 A, .int .i64 B, .int .i64 C, .int .i64 D], .slice ao m c] w (CmdPost w.heap.size w (m+1) (.int .u32 R::news)):=by
 have KS:=Ae src;have KR:=Ae hR;clear src hR;go_in;go_wp2_with fail;refine(pack_is A B C D R _ rfl rfl rfl rfl ha hb hc hd KR.out).mono ?_;rintro z w1 ⟨rfl,m1⟩;have KB:=Ae ((((CG.refl w).alloc #[.int .i64 A, .int .i64 B, .int .i64 C, .int .i64 D] 291).trans m1).below);clear m1;go_wp2_with fail;refine(row_any R _ m c news _ (KS.out.below KB.out) hm).mono ?_;rintro z w2 ⟨g,rfl,hr⟩;have KO:=Ae (Joins.ownsRow_le hr.owns KB.out.size);have KC:=Ae (KB.out.trans (hr.below.mono KB.out.size));clear hr;go_wp2_with fail;go_ret2;exact⟨g,rfl,KO.out,KC.out⟩
theorem status_long (b off m c:Nat) (X S:Int) (w:World) (h:2<=m) (hc:w.cell? ⟨b,off+1,none⟩=some (.int .u32 X)) (hS:wrap32 X=S):
 Calls Tryz.prog 193 #[.slice (some ⟨b,off,none⟩) m c] w fun e w'=>e=pairS S 0∧w'=w:=by
 go_in;go_wp2_with fail;go_ret2;exact⟨pairS_of hS,rfl⟩
end W
structure Nd where
 kind:Int
 fb:Nat
 m:Nat
 cap:Nat
 src:Nat->Nat
 rate:Int
 mul:Int
 div:Int
 lock:Int
 on:Bool
 left:Int
 set:Nat
 want:Nat
 by_:Int
def Nd.from_ (d:Nd):Value:=if d.m=0 then .slice none 0 0 else .slice d.fb d.m d.cap
def Nd.cells (d:Nd):Nat->Value
 | 0=> .int .u8 d.kind
 | 1=>d.from_
 | 2=> .int .u64 d.rate
 | 3=> .int .i64 d.mul
 | 4=> .int .i64 d.div
 | 5=> .int .i64 d.lock
 | 6=> .bool d.on
 | 7=> .int .i64 d.left
 | 8=> .int .i64 d.set
 | 9=> .int .i64 d.want
 | 10=> .int .i64 d.by_
 | _=>undef
structure Nd.At (w:World) (d:Nd):Prop where
 lt:d.fb<w.heap.size
 c:∀j,j<d.m->w.cell? (d.fb j)=some (.int .i64 (d.src j:Int))
structure AX (w:World) (T gn n cap:Nat) (ns:Nat->Nd):Prop where
 t:AF w T 170 [.slice gn n cap]
 d:Al w gn 172 11 n (fun i j=>(ns i).cells j)
 ne:T≠gn
 few:n<=12
 f:∀i,i<n->0<(ns i).m->(ns i).At w
 fne:∀i,i<n->0<(ns i).m->(ns i).fb≠T∧(ns i).fb≠gn
 less:∀i,i<n->∀j,j<(ns i).m->(ns i).src j<i
 sets:∀i,i<n->0<(ns i).m->(ns i).set<(ns i).m∧(ns i).m<=6
namespace AX
variable {w w':World} {T gn n cap:Nat} {ns:Nat->Nd}
theorem keep {S:Nat->Prop} (h:AX w T gn n cap ns) (k:AD S w w') (h1:¬S T) (h2:¬S gn) (h3:∀i,i<n->0<(ns i).m->¬S (ns i).fb):AX w' T gn n cap ns:=
 ⟨h.t.keep k h1,h.d.keep k h2,h.ne,h.few,fun i hi hm=>⟨Bo (h.f i hi hm).lt k.size,fun j hj=>(k.cell (p:=(((ns i).fb) j)) (h.f i hi hm).lt (h3 i hi hm)).trans ((h.f i hi hm).c j hj)⟩,h.fne,h.less,h.sets⟩
theorem field (h:AX w T gn n cap ns):w.cell? (T 0)=some (.slice gn n cap):=by have:=h.t.cell 0;simpa using this
theorem c0 (h:AX w T gn n cap ns) (i:Nat) (hi:i<n):w.cell? (gn (i*11))=some (.int .u8 (ns i).kind):=h.d.cell i 0 hi (by omega)
theorem c1 (h:AX w T gn n cap ns) (i:Nat) (hi:i<n):w.cell? (gn (i*11+1))=some (ns i).from_:=h.d.cell i 1 hi (by omega)
theorem c5 (h:AX w T gn n cap ns) (i:Nat) (hi:i<n):w.cell? (gn (i*11+5))=some (.int .i64 (ns i).lock):=h.d.cell i 5 hi (by omega)
theorem c6 (h:AX w T gn n cap ns) (i:Nat) (hi:i<n):w.cell? (gn (i*11+6))=some (.bool (ns i).on):=h.d.cell i 6 hi (by omega)
theorem c7 (h:AX w T gn n cap ns) (i:Nat) (hi:i<n):w.cell? (gn (i*11+7))=some (.int .i64 (ns i).left):=h.d.cell i 7 hi (by omega)
theorem c8 (h:AX w T gn n cap ns) (i:Nat) (hi:i<n):w.cell? (gn (i*11+8))=some (.int .i64 (ns i).set):=h.d.cell i 8 hi (by omega)
theorem put (h:AX w T gn n cap ns) (i j:Nat) (hi:i<n) (hj:j<11) (v:Value) (d:Nd) (hd:∀k,k<11->d.cells k=if k=j then v else(ns i).cells k) (e1:d.fb=(ns i).fb) (e2:d.m=(ns i).m) (e3:d.src=(ns i).src) (e4:d.set=(ns i).set):AX (w.setCell (gn (i*11+j)) v) T gn n cap (upd ns i d):=by
 have same:∀a,(upd ns i d a).fb=(ns a).fb∧(upd ns i d a).m=(ns a).m∧(upd ns i d a).src=(ns a).src∧(upd ns i d a).set=(ns a).set:=fun a=>by
  by_cases e:a=i
  . subst e;rw [upd_same];exact⟨e1,e2,e3,e4⟩
  . rw [uo_ e];exact⟨rfl,rfl,rfl,rfl⟩
 refine⟨h.t.far (fun e=>h.ne e.symm) v,(h.d.set i j hi hj v).congr fun a b ha hb=>?_,h.ne,h.few,fun a ha hm=>?_,fun a ha hm=>?_,fun a ha b hb=>?_,fun a ha hm=>?_⟩
 . by_cases e:a=i
   . subst e;rw [upd_same,hd b hb];by_cases e2:b=j <;> simp [e2]
   . rw [uo_ e];simp [e]
 . obtain⟨s1,s2,s3,s4⟩:=same a;rw [s2] at hm;refine⟨by rw [s1,Fg];exact(h.f a ha hm).lt,fun b hb=>?_⟩;rw [s2] at hb;rw [s1,s3];exact(FI (Aq (h.fne a ha hm).2.symm)).trans ((h.f a ha hm).c b hb)
 . obtain⟨s1,s2,s3,s4⟩:=same a;rw [s2] at hm;rw [s1];exact h.fne a ha hm
 . obtain⟨s1,s2,s3,s4⟩:=same a;rw [s2] at hb;rw [s3];exact h.less a ha b hb
 . obtain⟨s1,s2,s3,s4⟩:=same a;rw [s2] at hm;rw [s2,s4];exact h.sets a ha hm
end AX
theorem Jt {ns:Nat->Nd} (h:AX w T gn n cap ns) (i:Nat) (hi:i<n):
 Calls prog 217 #[.pointer T, .int .i64 i] w fun e w'=>e= .returned (.pointer (some (gn (i*11))))∧w'=w:=by
 have c0:=h.field;have hf:=h.few;clear h;go_in;go_wp2;go_ret;exact⟨rfl,rfl⟩
theorem Dh {ns:Nat->Nd} (h:AX w T gn n cap ns) (i:Nat) (hi:i<n) (hm:0<(ns i).m) {s:Nat} (hs:(ns i).src (ns i).set=s):
 Calls prog 219 #[.pointer T, .int .i64 i] w fun e w'=>e= .returned (.int .i64 s)∧∃k,w'=w.drewN k:=by
 have c0:=h.field;have hf:=h.few;obtain⟨s1,s2⟩:=h.sets i hi hm;have c1:=h.c1 i hi;have c8:=h.c8 i hi;have cs:=(h.f i hi hm).c _ s1;rw [hs] at cs;have e1:(ns i).from_= .slice (some (((ns i).fb) 0)) (ns i).m (ns i).cap:=by rw [Nd.from_,if_neg (by omega)]
 rw [e1] at c1;clear h e1 hs;generalize (ns i).m=m at*;generalize (ns i).cap=c at*;generalize (ns i).set=t at*;generalize (ns i).fb=fb at*;go_in;go_wp2_with fail;go_quiet (skip);go_wp2;go_ret;exact⟨rfl,_,rfl⟩
theorem xL {ns:Nat->Nd} (h:AX w T gn n cap ns) (i:Nat) (hi:i<n) (hk:(ns i).kind=103) (b:Bool):
 Calls prog 261 #[.pointer T, .int .i64 i, .bool b] w fun e w'=>e= .returned (.int .i64 0)∧AD (· =gn) w w'∧AX w' T gn n cap (upd ns i { ns i with on:=b }):=by
 have U:=Ae (h.put i 6 hi (by omega) (.bool b) { ns i with on:=b } (fun k hk=>by
  match k,hk with
  | 0,_=>rfl
  | 1,_=>rfl
  | 2,_=>rfl
  | 3,_=>rfl
  | 4,_=>rfl
  | 5,_=>rfl
  | 6,_=>rfl
  | 7,_=>rfl
  | 8,_=>rfl
  | 9,_=>rfl
  | 10,_=>rfl
  | k+11,hk=>omega) rfl rfl rfl rfl)
 have M:=Ae (AD.setCell (S:=(· =gn)) (AD.refl _ w) (p:=(gn (i*11+6))) (fun _=>rfl) (.bool b));have c0:=h.c0 i hi;rw [hk] at c0;have d0:=(IA w (gn (i*11+6)) (gn (i*11)) (.bool b) (Lc (by omega))).trans c0;have c6:=h.c6 i hi;have f6:=h.d.frozen (i*11+6);have H:=Ae h;clear h hk;go_in;go_wp2_with fail;refine mn_ (Jt H.out i hi) ?_;go_wp2;go_ret;exact⟨rfl,M.out,U.out⟩
theorem pll_on {ns:Nat->Nd} (h:AX w T gn n cap ns) (i:Nat) (hi:i<n) (hk:(ns i).kind=112):
 Calls prog 261 #[.pointer T, .int .i64 i, .bool true] w fun e w'=>e= .returned (.int .i64 0)∧AD (· =gn) w w'∧AX w' T gn n cap (upd ns i { ns i with on:=true }):=by
 have U:=Ae (h.put i 6 hi (by omega) (.bool true) { ns i with on:=true } (fun k hk=>by
  match k,hk with
  | 0,_ | 1,_ | 2,_ | 3,_ | 4,_ | 5,_ | 6,_ | 7,_ | 8,_ | 9,_ | 10,_=>rfl
  | k+11,hk=>omega) rfl rfl rfl rfl)
 have M:=Ae (AD.setCell (S:=(· =gn)) (AD.refl _ w) (p:=(gn (i*11+6))) (fun _=>rfl) (.bool true));have c0:=h.c0 i hi;rw [hk] at c0;have d0:=(IA w (gn (i*11+6)) (gn (i*11)) (.bool true) (Lc (by omega))).trans c0;have c6:=h.c6 i hi;have f6:=h.d.frozen (i*11+6);have H:=Ae h;clear h hk;go_in;go_wp2_with fail;refine mn_ (Jt H.out i hi) ?_;go_wp2;go_ret;exact⟨rfl,M.out,U.out⟩
theorem zD {ns:Nat->Nd} (h:AX w T gn n cap ns) (i:Nat) (hi:i<n) (hk:(ns i).kind=112):
 Calls prog 261 #[.pointer T, .int .i64 i, .bool false] w fun e w'=>e= .returned (.int .i64 0)∧AD (· =gn) w w'∧AX w' T gn n cap (upd ns i { ns i with on:=false,left:=(ns i).lock }):=by
 have U0:=h.put i 6 hi (by omega) (.bool false) { ns i with on:=false } (fun k hk=>by
  match k,hk with
  | 0,_ | 1,_ | 2,_ | 3,_ | 4,_ | 5,_ | 6,_ | 7,_ | 8,_ | 9,_ | 10,_=>rfl
  | k+11,hk=>omega) rfl rfl rfl rfl
 have U:=Ae ((U0.put i 7 hi (by omega) (.int .i64 (ns i).lock) { ns i with on:=false,left:=(ns i).lock } (fun k hk=>by
  rw [upd_same]
  match k,hk with
  | 0,_ | 1,_ | 2,_ | 3,_ | 4,_ | 5,_ | 6,_ | 7,_ | 8,_ | 9,_ | 10,_=>rfl
  | k+11,hk=>omega) (by rw [upd_same]) (by rw [upd_same]) (by rw [upd_same]) (by rw [upd_same])))
 have M:=Ae (AD.setCell (S:=(· =gn)) (AD.setCell (S:=(· =gn)) (AD.refl _ w) (p:=(gn (i*11+6))) (fun _=>rfl) (.bool false)) (p:=(gn (i*11+7))) (fun _=>rfl) (.int .i64 (ns i).lock));have hu:upd (upd ns i { ns i with on:=false }) i { ns i with on:=false,left:=(ns i).lock }=upd ns i { ns i with on:=false,left:=(ns i).lock }:=by
  funext j;by_cases e:j=i <;> simp [upd,e]
 rw [hu] at U;have c0:=h.c0 i hi;rw [hk] at c0;have d0:=(IA w (gn (i*11+6)) (gn (i*11)) (.bool false) (Lc (by omega))).trans c0;have d5:=(IA w (gn (i*11+6)) (gn (i*11+5)) (.bool false) (Lc (by omega))).trans (h.c5 i hi);have d7:=(IA w (gn (i*11+6)) (gn (i*11+7)) (.bool false) (Lc (by omega))).trans (h.c7 i hi);have c6:=h.c6 i hi;have f6:=h.d.frozen (i*11+6);have f7:=U0.d.frozen (i*11+7);have H:=Ae h;clear h hk U0 hu;go_in;go_wp2_with fail;refine mn_ (Jt H.out i hi) ?_;go_wp2;go_ret;exact⟨rfl,M.out,U.out⟩
def Ar (ns:Nat->Nd):Nat->Nat->Bool
 | 0,_=>false
 | f+1,i=>
  if(ns i).kind=111 then true
  else if(ns i).kind=112 then((ns i).on&&decide ((ns i).left=0))&&Ar ns f ((ns i).src (ns i).set)
  else if(ns i).kind=103 then(ns i).on&&Ar ns f ((ns i).src (ns i).set)
  else Ar ns f ((ns i).src (ns i).set)
theorem AX.drewN {ns:Nat->Nd} (h:AX w T gn n cap ns) (k:Nat):AX (w.drewN k) T gn n cap ns:=
 h.keep ((nr w).drewN k) id id fun _ _ _=>id
def F4 (w:World) (T tb vb:Nat):Prop:=AF w tb 91 [.pointer T]∧AF w vb 146 [.func (.func 218) #[] #[.pointer tb, .pointer vb]]
theorem Rj {ns:Nat->Nd} (i:Nat) (h:AX w T gn n cap ns) (hi:i<n) (hm:0<(ns i).m) (hb:F4 w T tb vb)
 (k1:(ns i).kind≠111) (k2:(ns i).kind≠112) (k3:(ns i).kind≠103) {r:Bool} {s:Nat} (hs:(ns i).src (ns i).set=s)
 (ih:∀W,AX W T gn n cap ns->F4 W T tb vb->Calls prog 218 #[.int .i64 s, .pointer tb, .pointer vb] W fun e w'=>e= .returned (.bool r)∧∃k,w'=W.drewN k):
 Calls prog 218 #[.int .i64 i, .pointer tb, .pointer vb] w fun e w'=>e= .returned (.bool r)∧∃k,w'=w.drewN k:=by
 have cT:=h.field;have hf:=h.few;have c0:=h.c0 i hi;have ct:=hb.1.z 0;have cv:=hb.2.z 0;have H:=Ae h;have HB:=Ae hb;have HS:=Ae hs;have HM:=Ae hm;have IH:=Ae ih;clear h hb hs hm ih;generalize hkk:(ns i).kind=kk at*;clear hkk;go_in;go_wp2_with fail;go_quiet (first | (go_at_call 219;exact Calls.quiet_of (Dh (H.out.drewN _) i hi HM.out HS.out)) | (go_at_call 218;exact Calls.quiet_of (IH.out _ (H.out.drewN _) ⟨HB.out.1.drewN _,HB.out.2.drewN _⟩)));go_wp2;go_ret;exact⟨rfl,_,rfl⟩
theorem XP {ns:Nat->Nd} (i:Nat) (h:AX w T gn n cap ns) (hi:i<n) (hb:F4 w T tb vb)
 (hk:(ns i).kind=111):
 Calls prog 218 #[.int .i64 i, .pointer tb, .pointer vb] w fun e w'=>e= .returned (.bool true)∧∃k,w'=w.drewN k:=by
 have cT:=h.field;have hf:=h.few;have c0:=h.c0 i hi;rw [hk] at c0;have ct:=hb.1.z 0;have cv:=hb.2.z 0;have H:=Ae h;have HB:=Ae hb;clear h hb hk;go_in;go_wp2;go_ret;exact⟨rfl,0,rfl⟩
theorem Uo {ns:Nat->Nd} (i:Nat) (h:AX w T gn n cap ns) (hi:i<n) (hm:0<(ns i).m) (hb:F4 w T tb vb)
 (hk:(ns i).kind=103) (ho:(ns i).on=true) {r:Bool} {s:Nat} (hs:(ns i).src (ns i).set=s)
 (ih:∀W,AX W T gn n cap ns->F4 W T tb vb->Calls prog 218 #[.int .i64 s, .pointer tb, .pointer vb] W fun e w'=>e= .returned (.bool r)∧∃k,w'=W.drewN k):
 Calls prog 218 #[.int .i64 i, .pointer tb, .pointer vb] w fun e w'=>e= .returned (.bool r)∧∃k,w'=w.drewN k:=by
 have cT:=h.field;have hf:=h.few;have c0:=h.c0 i hi;rw [hk] at c0;have c6:=h.c6 i hi;rw [ho] at c6;have ct:=hb.1.z 0;have cv:=hb.2.z 0;have H:=Ae h;have HB:=Ae hb;have HS:=Ae hs;have HM:=Ae hm;have IH:=Ae ih;clear h hb hs hm ih hk;go_in;go_wp2_with fail;go_quiet (first | (go_at_call 219;exact Calls.quiet_of (Dh (H.out.drewN _) i hi HM.out HS.out)) | (go_at_call 218;exact Calls.quiet_of (IH.out _ (H.out.drewN _) ⟨HB.out.1.drewN _,HB.out.2.drewN _⟩)));go_wp2;go_ret;exact⟨rfl,_,rfl⟩
theorem MU {ns:Nat->Nd} (i:Nat) (h:AX w T gn n cap ns) (hi:i<n) (hb:F4 w T tb vb)
 (hk:(ns i).kind=103) (ho:(ns i).on=false):
 Calls prog 218 #[.int .i64 i, .pointer tb, .pointer vb] w fun e w'=>e= .returned (.bool false)∧∃k,w'=w.drewN k:=by
 have cT:=h.field;have hf:=h.few;have c0:=h.c0 i hi;rw [hk] at c0;have c6:=h.c6 i hi;rw [ho] at c6;have ct:=hb.1.z 0;have cv:=hb.2.z 0;have H:=Ae h;have HB:=Ae hb;clear h hb hk;go_in;go_wp2_with fail;go_quiet (skip);go_wp2;go_ret;exact⟨rfl,_,rfl⟩
theorem XO {ns:Nat->Nd} (i:Nat) (h:AX w T gn n cap ns) (hi:i<n) (hm:0<(ns i).m) (hb:F4 w T tb vb)
 (hk:(ns i).kind=112) (ho:(ns i).on=true) (hl:(ns i).left=0) {r:Bool} {s:Nat} (hs:(ns i).src (ns i).set=s)
 (ih:∀W,AX W T gn n cap ns->F4 W T tb vb->Calls prog 218 #[.int .i64 s, .pointer tb, .pointer vb] W fun e w'=>e= .returned (.bool r)∧∃k,w'=W.drewN k):
 Calls prog 218 #[.int .i64 i, .pointer tb, .pointer vb] w fun e w'=>e= .returned (.bool r)∧∃k,w'=w.drewN k:=by
 have cT:=h.field;have hf:=h.few;have c0:=h.c0 i hi;rw [hk] at c0;have c6:=h.c6 i hi;rw [ho] at c6;have c7:=h.c7 i hi;rw [hl] at c7;have ct:=hb.1.z 0;have cv:=hb.2.z 0;have H:=Ae h;have HB:=Ae hb;have HS:=Ae hs;have HM:=Ae hm;have IH:=Ae ih;clear h hb hs hm ih hk;go_in;go_wp2_with fail;go_quiet (first | (go_at_call 219;exact Calls.quiet_of (Dh (H.out.drewN _) i hi HM.out HS.out)) | (go_at_call 218;exact Calls.quiet_of (IH.out _ (H.out.drewN _) ⟨HB.out.1.drewN _,HB.out.2.drewN _⟩)));go_wp2;go_ret;exact⟨rfl,_,rfl⟩
theorem Ny {ns:Nat->Nd} (i:Nat) (h:AX w T gn n cap ns) (hi:i<n) (hb:F4 w T tb vb)
 (hk:(ns i).kind=112) (ho:(ns i).on=false):
 Calls prog 218 #[.int .i64 i, .pointer tb, .pointer vb] w fun e w'=>e= .returned (.bool false)∧∃k,w'=w.drewN k:=by
 have cT:=h.field;have hf:=h.few;have c0:=h.c0 i hi;rw [hk] at c0;have c6:=h.c6 i hi;rw [ho] at c6;have ct:=hb.1.z 0;have cv:=hb.2.z 0;have H:=Ae h;have HB:=Ae hb;clear h hb hk;go_in;go_wp2_with fail;go_quiet (skip);go_wp2;go_ret;exact⟨rfl,_,rfl⟩
theorem MT {ns:Nat->Nd} (i:Nat) (h:AX w T gn n cap ns) (hi:i<n) (hb:F4 w T tb vb)
 (hk:(ns i).kind=112) (ho:(ns i).on=true) (hl:(ns i).left≠0):
 Calls prog 218 #[.int .i64 i, .pointer tb, .pointer vb] w fun e w'=>e= .returned (.bool false)∧∃k,w'=w.drewN k:=by
 have cT:=h.field;have hf:=h.few;have c0:=h.c0 i hi;rw [hk] at c0;have c6:=h.c6 i hi;rw [ho] at c6;have c7:=h.c7 i hi;generalize (ns i).left=lf at*;have ct:=hb.1.z 0;have cv:=hb.2.z 0;have H:=Ae h;have HB:=Ae hb;clear h hb hk;go_in;go_wp2_with fail;go_quiet (skip);go_wp2;go_ret;exact⟨rfl,_,rfl⟩
theorem Zv {ns:Nat->Nd} (hm:∀i,i<n->(ns i).kind≠111->0<(ns i).m):∀ (f i:Nat),i<f->i<n->∀w,AX w T gn n cap ns->F4 w T tb vb->
 Calls prog 218 #[.int .i64 i, .pointer tb, .pointer vb] w fun e w'=>e= .returned (.bool (Ar ns f i))∧∃k,w'=w.drewN k:=by
 intro f
 induction f with
 | zero=>intro i h;omega
 | succ f ih=>
  intro i hf hi w h hb;by_cases k1:(ns i).kind=111
  . rw [Ar,if_pos k1];exact XP i h hi hb k1
  have m0:=hm i hi k1;have hl:=h.less i hi _ (h.sets i hi m0).1;have ih':=ih ((ns i).src (ns i).set) (by omega) (by omega);rw [Ar,if_neg k1];by_cases k2:(ns i).kind=112
  . rw [if_pos k2];by_cases ho:(ns i).on=true
    . by_cases l0:(ns i).left=0
      . rw [show(((ns i).on&&decide ((ns i).left=0))&&Ar ns f ((ns i).src (ns i).set))=Ar ns f ((ns i).src (ns i).set) by simp [ho,l0]];exact XO i h hi m0 hb k2 ho l0 rfl ih'
      . rw [show(((ns i).on&&decide ((ns i).left=0))&&Ar ns f ((ns i).src (ns i).set))=false by simp [l0]];exact MT i h hi hb k2 ho l0
    . have ho':(ns i).on=false:=by simpa using ho
      rw [show(((ns i).on&&decide ((ns i).left=0))&&Ar ns f ((ns i).src (ns i).set))=false by simp [ho']];exact Ny i h hi hb k2 ho'
  . rw [if_neg k2];by_cases k3:(ns i).kind=103
    . rw [if_pos k3];by_cases ho:(ns i).on=true
      . rw [show((ns i).on&&Ar ns f ((ns i).src (ns i).set))=Ar ns f ((ns i).src (ns i).set) by simp [ho]];exact Uo i h hi m0 hb k3 ho rfl ih'
      . have ho':(ns i).on=false:=by simpa using ho
        rw [show((ns i).on&&Ar ns f ((ns i).src (ns i).set))=false by simp [ho']];exact MU i h hi hb k3 ho'
    . rw [if_neg k3];exact Rj i h hi m0 hb k1 k2 k3 rfl ih'
theorem Dq {ns:Nat->Nd} (h:AX w T gn n cap ns) (hm:∀i,i<n->(ns i).kind≠111->0<(ns i).m) (i:Nat) (hi:i<n) {r:Bool} (hr:Ar ns n i=r):
 Calls prog 151 #[.pointer T, .int .i64 i] w fun e w'=>e= .returned (.bool r)∧AJ w w':=by
 have hmf:=mf (P:=prog);have KN:=(nr w).alloc (.cells #[.pointer T] 91);have H:=Ae (h.keep KN id id fun _ _ _=>id);have HM:=Ae hm;have HR:=Ae hr;have z0:(((w.alloc (.cells #[.pointer T] 91)).alloc (.cells #[.nilFunc] 146))).cell? ((w.heap.size+1) 0)=some .nilFunc:=by simp
 have z1:(((w.alloc (.cells #[.pointer T] 91)).alloc (.cells #[.nilFunc] 146))).frozen? ((w.heap.size+1) 0)=false:=by simp
 clear h hm hr;go_in;go_wp2_with fail;refine mn_ (Jt H.out i hi) ?_;go_wp2_with fail;refine(Zv HM.out n i hi hi _ (H.out.keep ((nr _).alloc _) id id fun _ _ _=>id) ⟨(AF.new w [.pointer T] 91).alloc _,by have:=AF.new (w.alloc (.cells #[.pointer T] 91)) [.func (.func 218) #[] #[.pointer w.heap.size, .pointer (some ((w.heap.size+1) 0))]] 146;simpa using this⟩).mono ?_;rintro e w3 ⟨rfl,q,rfl⟩;go_wp2;go_ret;exact⟨congrArg (fun b=>Ending.returned (.bool b)) HR.out,(((AD.refl _ w).alloc _).alloc _).drewN q⟩
theorem Hv (h:Ab w B gr gw n rs qs k) (D:Nat) (hD:D<n):
 Calls prog 225 #[.pointer B, .int .i64 D] w fun e w'=>e= .returned (.bool true)∧w'=w:=by
 have c0:=h.c0;clear h;go_in;go_wp2;go_ret;exact⟨rfl,rfl⟩
theorem Kk (h:Ab w B gr gw n rs qs k) (D:Nat) (hD:D<n) {a:Option Addr} {c:Nat} (hq:qs D= .slice a m c):
 Calls prog 157 #[.pointer B, .int .i64 D] w fun e w'=>e= .returned (.int .i64 m)∧w'=w:=by
 have c1:=h.c1;have q1:=(h.q.cell hD).trans (by rw [hq]);have H:=Ae h;clear h hq;go_in;go_wp2_with fail;refine mn_ (Hv H.out D hD) ?_;go_wp2;go_ret;exact⟨rfl,rfl⟩
abbrev Tl (a e:Int):Ending:= .returned (.tuple #[.int .i64 a, .int .i64 e])
end Go.Proofs.YtpekoejdnhaohaaGreatDoor
