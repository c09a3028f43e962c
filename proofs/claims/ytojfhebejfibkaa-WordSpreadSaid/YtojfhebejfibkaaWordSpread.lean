/- WordSpread: for every input the law returns true, and each argument reads afterwards as it read before. No condition. -/
import Derived.Test.YtojfhebejfibkaaRows
import Derived.WalkKit
import Derived.ProofKit
import Derived.OpenShut
import Derived.Test.YtojfhebejfibkaaWordLaw
namespace Go.Proofs.Ytojfhebejfibkaa.wordSpread
open Go.ChangeShapes Go.WideShapes Go.ChangeAt Go.RowKit
set_option linter.unusedVariables false      -- a walk need not use every 'w<i>' (that an integer argument fits its kind)

theorem own : ownKnob Try.prog.godebug = none := by kernel_rfl

theorem pack_eq {a b c d : Nat} (ha : a ≤ 255) (hb : b ≤ 3) (hc : c ≤ 255) (hd : d ≤ 1023) :
    putN (putN (putN (putN 0 0 8 a) 8 2 b) 10 8 c) 18 10 d = a + 256 * b + 1024 * c + 262144 * d := by
  have e1 : putN 0 0 8 a = a := by rw [putN_add (by omega) (by omega) (by omega)]; omega
  have e2 : putN a 8 2 b = a + 256 * b := by rw [putN_add (by omega) (by omega) (by omega)]; omega
  have e3 : putN (a + 256 * b) 10 8 c = a + 256 * b + 1024 * c := by rw [putN_add (by omega) (by omega) (by omega)]; omega
  have e4 : putN (a + 256 * b + 1024 * c) 18 10 d = a + 256 * b + 1024 * c + 262144 * d := by rw [putN_add (by omega) (by omega) (by omega)]; omega
  rw [e1, e2, e3, e4]

theorem pack_bit {a b c d x : Nat} (ha : a ≤ 255) (hb : b ≤ 3) (hc : c ≤ 255) (hd : d ≤ 1023) (hx : a + 256 * b + 1024 * c + 262144 * d = x) (i : Nat) (hi : i < 28) :
    x.testBit i = if i < 8 then a.testBit i else if i < 10 then b.testBit (i - 8) else if i < 18 then c.testBit (i - 10) else d.testBit (i - 18) := by
  have l1 := putN_lt (w := 0) (l := 0) (m := 8) (v := a) (by omega) (by omega) (by omega)
  have l2 := putN_lt (l := 8) (m := 2) (v := b) (by omega) l1 (by omega)
  have l3 := putN_lt (l := 10) (m := 8) (v := c) (by omega) l2 (by omega)
  rw [← hx, ← pack_eq ha hb hc hd, putN_bit (by omega) l3 (by omega), putN_bit (by omega) l2 (by omega), putN_bit (by omega) l1 (by omega), putN_bit (by omega) (by omega) (by omega)]
  by_cases h1 : i < 8
  · rw [if_pos h1, if_neg (by omega), if_neg (by omega), if_neg (by omega), if_pos (by omega)]; rfl
  · by_cases h2 : i < 10
    · rw [if_neg h1, if_pos h2, if_neg (by omega), if_neg (by omega), if_pos (by omega)]
    · by_cases h3 : i < 18
      · rw [if_neg h1, if_neg h2, if_pos h3, if_neg (by omega), if_pos (by omega)]
      · rw [if_neg h1, if_neg h2, if_neg h3, if_pos (by omega)]

theorem spread_zero {W X l m : Nat} (hW : W < 4294967296) (hX : X < 4294967296) (hm : l + m ≤ 32) (h : ∀ i, i < 28 → ¬ (l ≤ i ∧ i < l + m) → X.testBit i = W.testBit i) :
    (bits .andNot .u32 (bits .and .u32 (bits .xor .u32 X W) 268435455) ((maskN m l : Nat) : Int) == 0) = true := by
  have hml := mask_lt hm
  have hx : X ^^^ W < 2 ^ 32 := Nat.xor_lt_two_pow (by omega) (by omega)
  have e2 := u32_and_nat (X ^^^ W) 268435455 (by omega) (by omega)
  rw [show ((268435455 : Nat) : Int) = 268435455 from rfl] at e2
  have hl : (X ^^^ W) &&& 268435455 < 4294967296 := Nat.lt_of_le_of_lt Nat.and_le_left (by omega)
  rw [u32_xor_nat X W hX hW, e2, u32_andNot_nat _ _ hl (by unfold maskN; omega)]
  have e : ((X ^^^ W) &&& 268435455) &&& (4294967295 - maskN m l) = 0 := by
    apply Nat.eq_of_testBit_eq; intro i
    rw [Nat.zero_testBit, Nat.testBit_and, Nat.testBit_and, Nat.testBit_xor, show (268435455 : Nat) = 2 ^ 28 - 1 by omega, Nat.testBit_two_pow_sub_one]
    by_cases c : i < 28
    · by_cases f : l ≤ i ∧ i < l + m
      · have e3 : 4294967295 - maskN m l = 2 ^ 32 - ((2 ^ m - 1) * 2 ^ l + 1) := by unfold maskN; omega
        rw [e3, Nat.testBit_two_pow_sub_succ hml, testBit_mul_pow, Nat.testBit_two_pow_sub_one, decide_eq_true (show l ≤ i by omega), decide_eq_true (show i - l < m by omega)]; simp
      · rw [h i c f]; simp
    · rw [decide_eq_false c]; simp
  rw [e]; rfl

/-- The fields of a word's 28 lowest bits. -/
theorem fields_of {W V A B C D : Nat} (hV : W % 268435456 = V) (ha : V % 256 = A) (hb : V / 256 % 4 = B) (hc : V / 1024 % 256 = C) (hd : V / 262144 = D) :
    getN W 0 8 = A ∧ getN W 8 2 = B ∧ getN W 10 8 = C ∧ getN W 18 10 = D := by
  unfold getN
  refine ⟨by omega, by omega, by omega, by omega⟩

theorem bit_of {W A l m j : Nat} (h : getN W l m = A) (hj : j < m) : A.testBit j = W.testBit (l + j) := by
  rw [← h, getN_bit, decide_eq_true hj, Bool.true_and]

set_option maxHeartbeats 1000000 in
theorem coreP0 (W V A B C D M v X : Nat) (part n : Int) (w : World) (HW : Kept (W < 4294967296)) (hV : bits .and .u32 (W : Int) 268435455 = V) (HV : Kept (V < 268435456))
    (ha : Kept (V % 256 = A)) (hb : Kept (V / 256 % 4 = B)) (hc : Kept (V / 1024 % 256 = C)) (hd : Kept (V / 262144 = D)) (h0 : A ≤ 255) (h1 : B ≤ 3) (h2 : C ≤ 255) (h3 : D ≤ 1023)
    (hn : bits .and .i64 n 1023 = M) (hm : bits .and .i64 (M : Int) 255 = v) (hv : v ≤ 255) (hX : Kept (v + 256 * B + 1024 * C + 262144 * D = X))
    (hp : part.tmod 4 = 0) (t1 : (bits .andNot .u32 (bits .and .u32 (bits .xor .u32 X W) 268435455) 255 == 0) = true) :
    Calls Try.prog 10 #[.int .u32 W, .int .i64 part, .int .i64 n] w fun e w' => e = .returned (.bool true) ∧ Mild w w' := by
  go_enter Try.func10, Try.ntmps10
  go_wp2_with fail
  refine (shownW_any _).mono ?_; rintro z w1 ⟨rfl, m1⟩
  go_wp2_with fail
  refine (unpack_is V A B C D _ rfl HV.out ha.out hb.out hc.out hd.out).mono ?_; rintro z w2 ⟨rfl, m2⟩
  go_wp2_with fail
  refine (pack_is v B C D X _ rfl rfl rfl rfl (by omega) (by omega) (by omega) (by omega) hX.out).mono ?_; rintro z w3 ⟨rfl, m3⟩
  have a0 : w3.cell? ⟨w2.heap.size, 0, none⟩ = some (.int .i64 A) := by rw [m3.cell (by simp; omega)]; simp
  have a1 : w3.cell? ⟨w2.heap.size, 1, none⟩ = some (.int .i64 B) := by rw [m3.cell (by simp; omega)]; simp
  have a2 : w3.cell? ⟨w2.heap.size, 2, none⟩ = some (.int .i64 C) := by rw [m3.cell (by simp; omega)]; simp
  have a3 : w3.cell? ⟨w2.heap.size, 3, none⟩ = some (.int .i64 D) := by rw [m3.cell (by simp; omega)]; simp
  have b0 : w3.cell? ⟨w2.heap.size + 1, 0, none⟩ = some (.int .i64 v) := by rw [m3.cell (by simp)]; simp
  have b1 : w3.cell? ⟨w2.heap.size + 1, 1, none⟩ = some (.int .i64 B) := by rw [m3.cell (by simp)]; simp
  have b2 : w3.cell? ⟨w2.heap.size + 1, 2, none⟩ = some (.int .i64 C) := by rw [m3.cell (by simp)]; simp
  have b3 : w3.cell? ⟨w2.heap.size + 1, 3, none⟩ = some (.int .i64 D) := by rw [m3.cell (by simp)]; simp
  have acc := (((m1.trans m2).alloc #[.int .i64 A, .int .i64 B, .int .i64 C, .int .i64 D] 39).alloc #[.int .i64 v, .int .i64 B, .int .i64 C, .int .i64 D] 39).trans m3
  by_cases heq : v = A
  · have hm1 : (((v : Nat) : Int) == A) = true := by simp; omega
    have hx1 : ((X : Int) == V) = true := by have := hX.out; have := ha.out; have := hb.out; have := hc.out; have := hd.out; simp; omega
    clear heq
    go_wp2_with fail
    go_ret
    exact ⟨rfl, acc⟩
  · have hm1 : (((v : Nat) : Int) == A) = false := by simp; omega
    have hx1 : ((X : Int) == V) = false := by have := hX.out; have := ha.out; have := hb.out; have := hc.out; have := hd.out; simp; omega
    clear heq
    go_wp2_with fail
    go_ret
    exact ⟨rfl, acc⟩

set_option maxHeartbeats 1000000 in
theorem coreP1 (W V A B C D M v X : Nat) (part n : Int) (w : World) (HW : Kept (W < 4294967296)) (hV : bits .and .u32 (W : Int) 268435455 = V) (HV : Kept (V < 268435456))
    (ha : Kept (V % 256 = A)) (hb : Kept (V / 256 % 4 = B)) (hc : Kept (V / 1024 % 256 = C)) (hd : Kept (V / 262144 = D)) (h0 : A ≤ 255) (h1 : B ≤ 3) (h2 : C ≤ 255) (h3 : D ≤ 1023)
    (hn : bits .and .i64 n 1023 = M) (hm : bits .and .i64 (M : Int) 3 = v) (hv : v ≤ 3) (hX : Kept (A + 256 * v + 1024 * C + 262144 * D = X))
    (hp : part.tmod 4 = 1) (t1 : (bits .andNot .u32 (bits .and .u32 (bits .xor .u32 X W) 268435455) 768 == 0) = true) :
    Calls Try.prog 10 #[.int .u32 W, .int .i64 part, .int .i64 n] w fun e w' => e = .returned (.bool true) ∧ Mild w w' := by
  go_enter Try.func10, Try.ntmps10
  go_wp2_with fail
  refine (shownW_any _).mono ?_; rintro z w1 ⟨rfl, m1⟩
  go_wp2_with fail
  refine (unpack_is V A B C D _ rfl HV.out ha.out hb.out hc.out hd.out).mono ?_; rintro z w2 ⟨rfl, m2⟩
  go_wp2_with fail
  refine (pack_is A v C D X _ rfl rfl rfl rfl (by omega) (by omega) (by omega) (by omega) hX.out).mono ?_; rintro z w3 ⟨rfl, m3⟩
  have a0 : w3.cell? ⟨w2.heap.size, 0, none⟩ = some (.int .i64 A) := by rw [m3.cell (by simp; omega)]; simp
  have a1 : w3.cell? ⟨w2.heap.size, 1, none⟩ = some (.int .i64 B) := by rw [m3.cell (by simp; omega)]; simp
  have a2 : w3.cell? ⟨w2.heap.size, 2, none⟩ = some (.int .i64 C) := by rw [m3.cell (by simp; omega)]; simp
  have a3 : w3.cell? ⟨w2.heap.size, 3, none⟩ = some (.int .i64 D) := by rw [m3.cell (by simp; omega)]; simp
  have b0 : w3.cell? ⟨w2.heap.size + 1, 0, none⟩ = some (.int .i64 A) := by rw [m3.cell (by simp)]; simp
  have b1 : w3.cell? ⟨w2.heap.size + 1, 1, none⟩ = some (.int .i64 v) := by rw [m3.cell (by simp)]; simp
  have b2 : w3.cell? ⟨w2.heap.size + 1, 2, none⟩ = some (.int .i64 C) := by rw [m3.cell (by simp)]; simp
  have b3 : w3.cell? ⟨w2.heap.size + 1, 3, none⟩ = some (.int .i64 D) := by rw [m3.cell (by simp)]; simp
  have acc := (((m1.trans m2).alloc #[.int .i64 A, .int .i64 B, .int .i64 C, .int .i64 D] 39).alloc #[.int .i64 A, .int .i64 v, .int .i64 C, .int .i64 D] 39).trans m3
  by_cases heq : v = B
  · have hm1 : (((v : Nat) : Int) == B) = true := by simp; omega
    have hx1 : ((X : Int) == V) = true := by have := hX.out; have := ha.out; have := hb.out; have := hc.out; have := hd.out; simp; omega
    clear heq
    go_wp2_with fail
    go_ret
    exact ⟨rfl, acc⟩
  · have hm1 : (((v : Nat) : Int) == B) = false := by simp; omega
    have hx1 : ((X : Int) == V) = false := by have := hX.out; have := ha.out; have := hb.out; have := hc.out; have := hd.out; simp; omega
    clear heq
    go_wp2_with fail
    go_ret
    exact ⟨rfl, acc⟩

set_option maxHeartbeats 1000000 in
theorem coreN1 (W V A B C D M v X : Nat) (part n : Int) (w : World) (HW : Kept (W < 4294967296)) (hV : bits .and .u32 (W : Int) 268435455 = V) (HV : Kept (V < 268435456))
    (ha : Kept (V % 256 = A)) (hb : Kept (V / 256 % 4 = B)) (hc : Kept (V / 1024 % 256 = C)) (hd : Kept (V / 262144 = D)) (h0 : A ≤ 255) (h1 : B ≤ 3) (h2 : C ≤ 255) (h3 : D ≤ 1023)
    (hn : bits .and .i64 n 1023 = M) (hm : bits .and .i64 (M : Int) 3 = v) (hv : v ≤ 3) (hX : Kept (A + 256 * v + 1024 * C + 262144 * D = X))
    (hp : part.tmod 4 = (-1)) (t1 : (bits .andNot .u32 (bits .and .u32 (bits .xor .u32 X W) 268435455) 768 == 0) = true) :
    Calls Try.prog 10 #[.int .u32 W, .int .i64 part, .int .i64 n] w fun e w' => e = .returned (.bool true) ∧ Mild w w' := by
  go_enter Try.func10, Try.ntmps10
  go_wp2_with fail
  refine (shownW_any _).mono ?_; rintro z w1 ⟨rfl, m1⟩
  go_wp2_with fail
  refine (unpack_is V A B C D _ rfl HV.out ha.out hb.out hc.out hd.out).mono ?_; rintro z w2 ⟨rfl, m2⟩
  go_wp2_with fail
  refine (pack_is A v C D X _ rfl rfl rfl rfl (by omega) (by omega) (by omega) (by omega) hX.out).mono ?_; rintro z w3 ⟨rfl, m3⟩
  have a0 : w3.cell? ⟨w2.heap.size, 0, none⟩ = some (.int .i64 A) := by rw [m3.cell (by simp; omega)]; simp
  have a1 : w3.cell? ⟨w2.heap.size, 1, none⟩ = some (.int .i64 B) := by rw [m3.cell (by simp; omega)]; simp
  have a2 : w3.cell? ⟨w2.heap.size, 2, none⟩ = some (.int .i64 C) := by rw [m3.cell (by simp; omega)]; simp
  have a3 : w3.cell? ⟨w2.heap.size, 3, none⟩ = some (.int .i64 D) := by rw [m3.cell (by simp; omega)]; simp
  have b0 : w3.cell? ⟨w2.heap.size + 1, 0, none⟩ = some (.int .i64 A) := by rw [m3.cell (by simp)]; simp
  have b1 : w3.cell? ⟨w2.heap.size + 1, 1, none⟩ = some (.int .i64 v) := by rw [m3.cell (by simp)]; simp
  have b2 : w3.cell? ⟨w2.heap.size + 1, 2, none⟩ = some (.int .i64 C) := by rw [m3.cell (by simp)]; simp
  have b3 : w3.cell? ⟨w2.heap.size + 1, 3, none⟩ = some (.int .i64 D) := by rw [m3.cell (by simp)]; simp
  have acc := (((m1.trans m2).alloc #[.int .i64 A, .int .i64 B, .int .i64 C, .int .i64 D] 39).alloc #[.int .i64 A, .int .i64 v, .int .i64 C, .int .i64 D] 39).trans m3
  by_cases heq : v = B
  · have hm1 : (((v : Nat) : Int) == B) = true := by simp; omega
    have hx1 : ((X : Int) == V) = true := by have := hX.out; have := ha.out; have := hb.out; have := hc.out; have := hd.out; simp; omega
    clear heq
    go_wp2_with fail
    go_ret
    exact ⟨rfl, acc⟩
  · have hm1 : (((v : Nat) : Int) == B) = false := by simp; omega
    have hx1 : ((X : Int) == V) = false := by have := hX.out; have := ha.out; have := hb.out; have := hc.out; have := hd.out; simp; omega
    clear heq
    go_wp2_with fail
    go_ret
    exact ⟨rfl, acc⟩

set_option maxHeartbeats 1000000 in
theorem coreP2 (W V A B C D M v X : Nat) (part n : Int) (w : World) (HW : Kept (W < 4294967296)) (hV : bits .and .u32 (W : Int) 268435455 = V) (HV : Kept (V < 268435456))
    (ha : Kept (V % 256 = A)) (hb : Kept (V / 256 % 4 = B)) (hc : Kept (V / 1024 % 256 = C)) (hd : Kept (V / 262144 = D)) (h0 : A ≤ 255) (h1 : B ≤ 3) (h2 : C ≤ 255) (h3 : D ≤ 1023)
    (hn : bits .and .i64 n 1023 = M) (hm : bits .and .i64 (M : Int) 255 = v) (hv : v ≤ 255) (hX : Kept (A + 256 * B + 1024 * v + 262144 * D = X))
    (hp : part.tmod 4 = 2) (t1 : (bits .andNot .u32 (bits .and .u32 (bits .xor .u32 X W) 268435455) 261120 == 0) = true) :
    Calls Try.prog 10 #[.int .u32 W, .int .i64 part, .int .i64 n] w fun e w' => e = .returned (.bool true) ∧ Mild w w' := by
  go_enter Try.func10, Try.ntmps10
  go_wp2_with fail
  refine (shownW_any _).mono ?_; rintro z w1 ⟨rfl, m1⟩
  go_wp2_with fail
  refine (unpack_is V A B C D _ rfl HV.out ha.out hb.out hc.out hd.out).mono ?_; rintro z w2 ⟨rfl, m2⟩
  go_wp2_with fail
  refine (pack_is A B v D X _ rfl rfl rfl rfl (by omega) (by omega) (by omega) (by omega) hX.out).mono ?_; rintro z w3 ⟨rfl, m3⟩
  have a0 : w3.cell? ⟨w2.heap.size, 0, none⟩ = some (.int .i64 A) := by rw [m3.cell (by simp; omega)]; simp
  have a1 : w3.cell? ⟨w2.heap.size, 1, none⟩ = some (.int .i64 B) := by rw [m3.cell (by simp; omega)]; simp
  have a2 : w3.cell? ⟨w2.heap.size, 2, none⟩ = some (.int .i64 C) := by rw [m3.cell (by simp; omega)]; simp
  have a3 : w3.cell? ⟨w2.heap.size, 3, none⟩ = some (.int .i64 D) := by rw [m3.cell (by simp; omega)]; simp
  have b0 : w3.cell? ⟨w2.heap.size + 1, 0, none⟩ = some (.int .i64 A) := by rw [m3.cell (by simp)]; simp
  have b1 : w3.cell? ⟨w2.heap.size + 1, 1, none⟩ = some (.int .i64 B) := by rw [m3.cell (by simp)]; simp
  have b2 : w3.cell? ⟨w2.heap.size + 1, 2, none⟩ = some (.int .i64 v) := by rw [m3.cell (by simp)]; simp
  have b3 : w3.cell? ⟨w2.heap.size + 1, 3, none⟩ = some (.int .i64 D) := by rw [m3.cell (by simp)]; simp
  have acc := (((m1.trans m2).alloc #[.int .i64 A, .int .i64 B, .int .i64 C, .int .i64 D] 39).alloc #[.int .i64 A, .int .i64 B, .int .i64 v, .int .i64 D] 39).trans m3
  by_cases heq : v = C
  · have hm1 : (((v : Nat) : Int) == C) = true := by simp; omega
    have hx1 : ((X : Int) == V) = true := by have := hX.out; have := ha.out; have := hb.out; have := hc.out; have := hd.out; simp; omega
    clear heq
    go_wp2_with fail
    go_ret
    exact ⟨rfl, acc⟩
  · have hm1 : (((v : Nat) : Int) == C) = false := by simp; omega
    have hx1 : ((X : Int) == V) = false := by have := hX.out; have := ha.out; have := hb.out; have := hc.out; have := hd.out; simp; omega
    clear heq
    go_wp2_with fail
    go_ret
    exact ⟨rfl, acc⟩

set_option maxHeartbeats 1000000 in
theorem coreN2 (W V A B C D M v X : Nat) (part n : Int) (w : World) (HW : Kept (W < 4294967296)) (hV : bits .and .u32 (W : Int) 268435455 = V) (HV : Kept (V < 268435456))
    (ha : Kept (V % 256 = A)) (hb : Kept (V / 256 % 4 = B)) (hc : Kept (V / 1024 % 256 = C)) (hd : Kept (V / 262144 = D)) (h0 : A ≤ 255) (h1 : B ≤ 3) (h2 : C ≤ 255) (h3 : D ≤ 1023)
    (hn : bits .and .i64 n 1023 = M) (hm : bits .and .i64 (M : Int) 255 = v) (hv : v ≤ 255) (hX : Kept (A + 256 * B + 1024 * v + 262144 * D = X))
    (hp : part.tmod 4 = (-2)) (t1 : (bits .andNot .u32 (bits .and .u32 (bits .xor .u32 X W) 268435455) 261120 == 0) = true) :
    Calls Try.prog 10 #[.int .u32 W, .int .i64 part, .int .i64 n] w fun e w' => e = .returned (.bool true) ∧ Mild w w' := by
  go_enter Try.func10, Try.ntmps10
  go_wp2_with fail
  refine (shownW_any _).mono ?_; rintro z w1 ⟨rfl, m1⟩
  go_wp2_with fail
  refine (unpack_is V A B C D _ rfl HV.out ha.out hb.out hc.out hd.out).mono ?_; rintro z w2 ⟨rfl, m2⟩
  go_wp2_with fail
  refine (pack_is A B v D X _ rfl rfl rfl rfl (by omega) (by omega) (by omega) (by omega) hX.out).mono ?_; rintro z w3 ⟨rfl, m3⟩
  have a0 : w3.cell? ⟨w2.heap.size, 0, none⟩ = some (.int .i64 A) := by rw [m3.cell (by simp; omega)]; simp
  have a1 : w3.cell? ⟨w2.heap.size, 1, none⟩ = some (.int .i64 B) := by rw [m3.cell (by simp; omega)]; simp
  have a2 : w3.cell? ⟨w2.heap.size, 2, none⟩ = some (.int .i64 C) := by rw [m3.cell (by simp; omega)]; simp
  have a3 : w3.cell? ⟨w2.heap.size, 3, none⟩ = some (.int .i64 D) := by rw [m3.cell (by simp; omega)]; simp
  have b0 : w3.cell? ⟨w2.heap.size + 1, 0, none⟩ = some (.int .i64 A) := by rw [m3.cell (by simp)]; simp
  have b1 : w3.cell? ⟨w2.heap.size + 1, 1, none⟩ = some (.int .i64 B) := by rw [m3.cell (by simp)]; simp
  have b2 : w3.cell? ⟨w2.heap.size + 1, 2, none⟩ = some (.int .i64 v) := by rw [m3.cell (by simp)]; simp
  have b3 : w3.cell? ⟨w2.heap.size + 1, 3, none⟩ = some (.int .i64 D) := by rw [m3.cell (by simp)]; simp
  have acc := (((m1.trans m2).alloc #[.int .i64 A, .int .i64 B, .int .i64 C, .int .i64 D] 39).alloc #[.int .i64 A, .int .i64 B, .int .i64 v, .int .i64 D] 39).trans m3
  by_cases heq : v = C
  · have hm1 : (((v : Nat) : Int) == C) = true := by simp; omega
    have hx1 : ((X : Int) == V) = true := by have := hX.out; have := ha.out; have := hb.out; have := hc.out; have := hd.out; simp; omega
    clear heq
    go_wp2_with fail
    go_ret
    exact ⟨rfl, acc⟩
  · have hm1 : (((v : Nat) : Int) == C) = false := by simp; omega
    have hx1 : ((X : Int) == V) = false := by have := hX.out; have := ha.out; have := hb.out; have := hc.out; have := hd.out; simp; omega
    clear heq
    go_wp2_with fail
    go_ret
    exact ⟨rfl, acc⟩

set_option maxHeartbeats 1000000 in
theorem coreP3 (W V A B C D M v X : Nat) (part n : Int) (w : World) (HW : Kept (W < 4294967296)) (hV : bits .and .u32 (W : Int) 268435455 = V) (HV : Kept (V < 268435456))
    (ha : Kept (V % 256 = A)) (hb : Kept (V / 256 % 4 = B)) (hc : Kept (V / 1024 % 256 = C)) (hd : Kept (V / 262144 = D)) (h0 : A ≤ 255) (h1 : B ≤ 3) (h2 : C ≤ 255) (h3 : D ≤ 1023)
    (hn : bits .and .i64 n 1023 = M) (hm : (M : Int) = v) (hv : v ≤ 1023) (hX : Kept (A + 256 * B + 1024 * C + 262144 * v = X))
    (hp : part.tmod 4 = 3) (t1 : (bits .andNot .u32 (bits .and .u32 (bits .xor .u32 X W) 268435455) 268173312 == 0) = true) :
    Calls Try.prog 10 #[.int .u32 W, .int .i64 part, .int .i64 n] w fun e w' => e = .returned (.bool true) ∧ Mild w w' := by
  go_enter Try.func10, Try.ntmps10
  go_wp2_with fail
  refine (shownW_any _).mono ?_; rintro z w1 ⟨rfl, m1⟩
  go_wp2_with fail
  refine (unpack_is V A B C D _ rfl HV.out ha.out hb.out hc.out hd.out).mono ?_; rintro z w2 ⟨rfl, m2⟩
  go_wp2_with fail
  refine (pack_is A B C v X _ rfl rfl rfl rfl (by omega) (by omega) (by omega) (by omega) hX.out).mono ?_; rintro z w3 ⟨rfl, m3⟩
  have a0 : w3.cell? ⟨w2.heap.size, 0, none⟩ = some (.int .i64 A) := by rw [m3.cell (by simp; omega)]; simp
  have a1 : w3.cell? ⟨w2.heap.size, 1, none⟩ = some (.int .i64 B) := by rw [m3.cell (by simp; omega)]; simp
  have a2 : w3.cell? ⟨w2.heap.size, 2, none⟩ = some (.int .i64 C) := by rw [m3.cell (by simp; omega)]; simp
  have a3 : w3.cell? ⟨w2.heap.size, 3, none⟩ = some (.int .i64 D) := by rw [m3.cell (by simp; omega)]; simp
  have b0 : w3.cell? ⟨w2.heap.size + 1, 0, none⟩ = some (.int .i64 A) := by rw [m3.cell (by simp)]; simp
  have b1 : w3.cell? ⟨w2.heap.size + 1, 1, none⟩ = some (.int .i64 B) := by rw [m3.cell (by simp)]; simp
  have b2 : w3.cell? ⟨w2.heap.size + 1, 2, none⟩ = some (.int .i64 C) := by rw [m3.cell (by simp)]; simp
  have b3 : w3.cell? ⟨w2.heap.size + 1, 3, none⟩ = some (.int .i64 v) := by rw [m3.cell (by simp)]; simp
  have acc := (((m1.trans m2).alloc #[.int .i64 A, .int .i64 B, .int .i64 C, .int .i64 D] 39).alloc #[.int .i64 A, .int .i64 B, .int .i64 C, .int .i64 v] 39).trans m3
  by_cases heq : v = D
  · have hm1 : (((v : Nat) : Int) == D) = true := by simp; omega
    have hx1 : ((X : Int) == V) = true := by have := hX.out; have := ha.out; have := hb.out; have := hc.out; have := hd.out; simp; omega
    clear heq
    go_wp2_with fail
    go_ret
    exact ⟨rfl, acc⟩
  · have hm1 : (((v : Nat) : Int) == D) = false := by simp; omega
    have hx1 : ((X : Int) == V) = false := by have := hX.out; have := ha.out; have := hb.out; have := hc.out; have := hd.out; simp; omega
    clear heq
    go_wp2_with fail
    go_ret
    exact ⟨rfl, acc⟩

set_option maxHeartbeats 1000000 in
theorem coreN3 (W V A B C D M v X : Nat) (part n : Int) (w : World) (HW : Kept (W < 4294967296)) (hV : bits .and .u32 (W : Int) 268435455 = V) (HV : Kept (V < 268435456))
    (ha : Kept (V % 256 = A)) (hb : Kept (V / 256 % 4 = B)) (hc : Kept (V / 1024 % 256 = C)) (hd : Kept (V / 262144 = D)) (h0 : A ≤ 255) (h1 : B ≤ 3) (h2 : C ≤ 255) (h3 : D ≤ 1023)
    (hn : bits .and .i64 n 1023 = M) (hm : (M : Int) = v) (hv : v ≤ 1023) (hX : Kept (A + 256 * B + 1024 * C + 262144 * v = X))
    (hp : part.tmod 4 = (-3)) (t1 : (bits .andNot .u32 (bits .and .u32 (bits .xor .u32 X W) 268435455) 268173312 == 0) = true) :
    Calls Try.prog 10 #[.int .u32 W, .int .i64 part, .int .i64 n] w fun e w' => e = .returned (.bool true) ∧ Mild w w' := by
  go_enter Try.func10, Try.ntmps10
  go_wp2_with fail
  refine (shownW_any _).mono ?_; rintro z w1 ⟨rfl, m1⟩
  go_wp2_with fail
  refine (unpack_is V A B C D _ rfl HV.out ha.out hb.out hc.out hd.out).mono ?_; rintro z w2 ⟨rfl, m2⟩
  go_wp2_with fail
  refine (pack_is A B C v X _ rfl rfl rfl rfl (by omega) (by omega) (by omega) (by omega) hX.out).mono ?_; rintro z w3 ⟨rfl, m3⟩
  have a0 : w3.cell? ⟨w2.heap.size, 0, none⟩ = some (.int .i64 A) := by rw [m3.cell (by simp; omega)]; simp
  have a1 : w3.cell? ⟨w2.heap.size, 1, none⟩ = some (.int .i64 B) := by rw [m3.cell (by simp; omega)]; simp
  have a2 : w3.cell? ⟨w2.heap.size, 2, none⟩ = some (.int .i64 C) := by rw [m3.cell (by simp; omega)]; simp
  have a3 : w3.cell? ⟨w2.heap.size, 3, none⟩ = some (.int .i64 D) := by rw [m3.cell (by simp; omega)]; simp
  have b0 : w3.cell? ⟨w2.heap.size + 1, 0, none⟩ = some (.int .i64 A) := by rw [m3.cell (by simp)]; simp
  have b1 : w3.cell? ⟨w2.heap.size + 1, 1, none⟩ = some (.int .i64 B) := by rw [m3.cell (by simp)]; simp
  have b2 : w3.cell? ⟨w2.heap.size + 1, 2, none⟩ = some (.int .i64 C) := by rw [m3.cell (by simp)]; simp
  have b3 : w3.cell? ⟨w2.heap.size + 1, 3, none⟩ = some (.int .i64 v) := by rw [m3.cell (by simp)]; simp
  have acc := (((m1.trans m2).alloc #[.int .i64 A, .int .i64 B, .int .i64 C, .int .i64 D] 39).alloc #[.int .i64 A, .int .i64 B, .int .i64 C, .int .i64 v] 39).trans m3
  by_cases heq : v = D
  · have hm1 : (((v : Nat) : Int) == D) = true := by simp; omega
    have hx1 : ((X : Int) == V) = true := by have := hX.out; have := ha.out; have := hb.out; have := hc.out; have := hd.out; simp; omega
    clear heq
    go_wp2_with fail
    go_ret
    exact ⟨rfl, acc⟩
  · have hm1 : (((v : Nat) : Int) == D) = false := by simp; omega
    have hx1 : ((X : Int) == V) = false := by have := hX.out; have := ha.out; have := hb.out; have := hc.out; have := hd.out; simp; omega
    clear heq
    go_wp2_with fail
    go_ret
    exact ⟨rfl, acc⟩

theorem mask_and (M : Nat) : bits .and .i64 (M : Int) 255 = ((M % 256 : Nat) : Int) ∧ bits .and .i64 (M : Int) 3 = ((M % 4 : Nat) : Int) :=
  ⟨(and_i64 (M : Int) 8 (by omega)).trans (by show (M : Int) % 256 = _; omega), (and_i64 (M : Int) 2 (by omega)).trans (by show (M : Int) % 4 = _; omega)⟩

/-! ### STEP 1: THE WALK: the Go text returns true. 'Grown w w'': the world has at most new blocks (Derived/RowKit3.lean). Part the cases AHEAD of 'go_enter' where a test parts the walk; take each callee by a contract of your own. -/
theorem walk (a0 : Int) (a1 : Int) (a2 : Int) (w0 : (Lit.int .u32 a0).wf = true) (w1 : (Lit.int .i64 a1).wf = true) (w2 : (Lit.int .i64 a2).wf = true) (w : World) :
    Calls Try.prog 10 #[.int .u32 a0, .int .i64 a1, .int .i64 a2] w fun e w' => e = .returned (.bool true) ∧ Grown w w' := by
  obtain ⟨A0, A1⟩ := bounds_u32 w0
  obtain ⟨W, rfl⟩ := Int.eq_ofNat_of_zero_le A0
  have hW : W < 4294967296 := by omega
  have hV := mask28 hW
  obtain ⟨V, eV⟩ : ∃ V, W % 268435456 = V := ⟨_, rfl⟩
  rw [eV] at hV
  have lV : V < 268435456 := by omega
  obtain ⟨A, ha⟩ : ∃ A, V % 256 = A := ⟨_, rfl⟩
  obtain ⟨B, hb⟩ : ∃ B, V / 256 % 4 = B := ⟨_, rfl⟩
  obtain ⟨C, hc⟩ : ∃ C, V / 1024 % 256 = C := ⟨_, rfl⟩
  obtain ⟨D, hd⟩ : ∃ D, V / 262144 = D := ⟨_, rfl⟩
  obtain ⟨f0, f1, f2, f3⟩ := fields_of eV ha hb hc hd
  obtain ⟨M, eM⟩ := Int.eq_ofNat_of_zero_le (show 0 ≤ a2 % 1024 by omega)
  have hM : bits .and .i64 a2 1023 = (M : Int) := (and_i64 a2 10 (by omega)).trans eM
  have lM : M < 1024 := by omega
  have h1 := Int.tmod_lt_of_pos a1 (show (0 : Int) < 4 by omega)
  have h2 := Int.tmod_lt_of_pos (-a1) (show (0 : Int) < 4 by omega)
  rw [Int.neg_tmod] at h2
  have hh : a1.tmod 4 = 0 ∨ a1.tmod 4 = 1 ∨ a1.tmod 4 = -1 ∨ a1.tmod 4 = 2 ∨ a1.tmod 4 = -2 ∨ a1.tmod 4 = 3 ∨ a1.tmod 4 = -3 := by omega
  rcases hh with hp | hp | hp | hp | hp | hp | hp
  · obtain ⟨v, hv⟩ : ∃ v, M % 256 = v := ⟨_, rfl⟩
    have hm := (mask_and M).1
    rw [hv] at hm
    obtain ⟨X, hX⟩ : ∃ X, v + 256 * B + 1024 * C + 262144 * D = X := ⟨_, rfl⟩
    have t1 := spread_zero (W := W) (X := X) (l := 0) (m := 8) hW (by omega) (by omega) (fun i hi hn => by
        rw [pack_bit (by omega) (by omega) (by omega) (by omega) hX i hi]
        by_cases c1 : i < 8
        · rw [if_pos c1]; omega
        · by_cases c2 : i < 10
          · rw [if_neg c1, if_pos c2]; rw [bit_of f1 (by omega)]; exact congrArg W.testBit (by omega)
          · by_cases c3 : i < 18
            · rw [if_neg c1, if_neg c2, if_pos c3]; rw [bit_of f2 (by omega)]; exact congrArg W.testBit (by omega)
            · rw [if_neg c1, if_neg c2, if_neg c3]; rw [bit_of f3 (by omega)]; exact congrArg W.testBit (by omega))
    rw [show ((maskN 8 0 : Nat) : Int) = 255 by decide +kernel] at t1
    exact (coreP0 W V A B C D M v X a1 a2 w ⟨hW⟩ hV ⟨lV⟩ ⟨ha⟩ ⟨hb⟩ ⟨hc⟩ ⟨hd⟩ (by omega) (by omega) (by omega) (by omega) hM hm (by omega) ⟨hX⟩ hp t1).mono fun e w' ⟨h, m⟩ => ⟨h, m.grown⟩
  · obtain ⟨v, hv⟩ : ∃ v, M % 4 = v := ⟨_, rfl⟩
    have hm := (mask_and M).2
    rw [hv] at hm
    obtain ⟨X, hX⟩ : ∃ X, A + 256 * v + 1024 * C + 262144 * D = X := ⟨_, rfl⟩
    have t1 := spread_zero (W := W) (X := X) (l := 8) (m := 2) hW (by omega) (by omega) (fun i hi hn => by
        rw [pack_bit (by omega) (by omega) (by omega) (by omega) hX i hi]
        by_cases c1 : i < 8
        · rw [if_pos c1]; rw [bit_of f0 (by omega)]; exact congrArg W.testBit (by omega)
        · by_cases c2 : i < 10
          · rw [if_neg c1, if_pos c2]; omega
          · by_cases c3 : i < 18
            · rw [if_neg c1, if_neg c2, if_pos c3]; rw [bit_of f2 (by omega)]; exact congrArg W.testBit (by omega)
            · rw [if_neg c1, if_neg c2, if_neg c3]; rw [bit_of f3 (by omega)]; exact congrArg W.testBit (by omega))
    rw [show ((maskN 2 8 : Nat) : Int) = 768 by decide +kernel] at t1
    exact (coreP1 W V A B C D M v X a1 a2 w ⟨hW⟩ hV ⟨lV⟩ ⟨ha⟩ ⟨hb⟩ ⟨hc⟩ ⟨hd⟩ (by omega) (by omega) (by omega) (by omega) hM hm (by omega) ⟨hX⟩ hp t1).mono fun e w' ⟨h, m⟩ => ⟨h, m.grown⟩
  · obtain ⟨v, hv⟩ : ∃ v, M % 4 = v := ⟨_, rfl⟩
    have hm := (mask_and M).2
    rw [hv] at hm
    obtain ⟨X, hX⟩ : ∃ X, A + 256 * v + 1024 * C + 262144 * D = X := ⟨_, rfl⟩
    have t1 := spread_zero (W := W) (X := X) (l := 8) (m := 2) hW (by omega) (by omega) (fun i hi hn => by
        rw [pack_bit (by omega) (by omega) (by omega) (by omega) hX i hi]
        by_cases c1 : i < 8
        · rw [if_pos c1]; rw [bit_of f0 (by omega)]; exact congrArg W.testBit (by omega)
        · by_cases c2 : i < 10
          · rw [if_neg c1, if_pos c2]; omega
          · by_cases c3 : i < 18
            · rw [if_neg c1, if_neg c2, if_pos c3]; rw [bit_of f2 (by omega)]; exact congrArg W.testBit (by omega)
            · rw [if_neg c1, if_neg c2, if_neg c3]; rw [bit_of f3 (by omega)]; exact congrArg W.testBit (by omega))
    rw [show ((maskN 2 8 : Nat) : Int) = 768 by decide +kernel] at t1
    exact (coreN1 W V A B C D M v X a1 a2 w ⟨hW⟩ hV ⟨lV⟩ ⟨ha⟩ ⟨hb⟩ ⟨hc⟩ ⟨hd⟩ (by omega) (by omega) (by omega) (by omega) hM hm (by omega) ⟨hX⟩ hp t1).mono fun e w' ⟨h, m⟩ => ⟨h, m.grown⟩
  · obtain ⟨v, hv⟩ : ∃ v, M % 256 = v := ⟨_, rfl⟩
    have hm := (mask_and M).1
    rw [hv] at hm
    obtain ⟨X, hX⟩ : ∃ X, A + 256 * B + 1024 * v + 262144 * D = X := ⟨_, rfl⟩
    have t1 := spread_zero (W := W) (X := X) (l := 10) (m := 8) hW (by omega) (by omega) (fun i hi hn => by
        rw [pack_bit (by omega) (by omega) (by omega) (by omega) hX i hi]
        by_cases c1 : i < 8
        · rw [if_pos c1]; rw [bit_of f0 (by omega)]; exact congrArg W.testBit (by omega)
        · by_cases c2 : i < 10
          · rw [if_neg c1, if_pos c2]; rw [bit_of f1 (by omega)]; exact congrArg W.testBit (by omega)
          · by_cases c3 : i < 18
            · rw [if_neg c1, if_neg c2, if_pos c3]; omega
            · rw [if_neg c1, if_neg c2, if_neg c3]; rw [bit_of f3 (by omega)]; exact congrArg W.testBit (by omega))
    rw [show ((maskN 8 10 : Nat) : Int) = 261120 by decide +kernel] at t1
    exact (coreP2 W V A B C D M v X a1 a2 w ⟨hW⟩ hV ⟨lV⟩ ⟨ha⟩ ⟨hb⟩ ⟨hc⟩ ⟨hd⟩ (by omega) (by omega) (by omega) (by omega) hM hm (by omega) ⟨hX⟩ hp t1).mono fun e w' ⟨h, m⟩ => ⟨h, m.grown⟩
  · obtain ⟨v, hv⟩ : ∃ v, M % 256 = v := ⟨_, rfl⟩
    have hm := (mask_and M).1
    rw [hv] at hm
    obtain ⟨X, hX⟩ : ∃ X, A + 256 * B + 1024 * v + 262144 * D = X := ⟨_, rfl⟩
    have t1 := spread_zero (W := W) (X := X) (l := 10) (m := 8) hW (by omega) (by omega) (fun i hi hn => by
        rw [pack_bit (by omega) (by omega) (by omega) (by omega) hX i hi]
        by_cases c1 : i < 8
        · rw [if_pos c1]; rw [bit_of f0 (by omega)]; exact congrArg W.testBit (by omega)
        · by_cases c2 : i < 10
          · rw [if_neg c1, if_pos c2]; rw [bit_of f1 (by omega)]; exact congrArg W.testBit (by omega)
          · by_cases c3 : i < 18
            · rw [if_neg c1, if_neg c2, if_pos c3]; omega
            · rw [if_neg c1, if_neg c2, if_neg c3]; rw [bit_of f3 (by omega)]; exact congrArg W.testBit (by omega))
    rw [show ((maskN 8 10 : Nat) : Int) = 261120 by decide +kernel] at t1
    exact (coreN2 W V A B C D M v X a1 a2 w ⟨hW⟩ hV ⟨lV⟩ ⟨ha⟩ ⟨hb⟩ ⟨hc⟩ ⟨hd⟩ (by omega) (by omega) (by omega) (by omega) hM hm (by omega) ⟨hX⟩ hp t1).mono fun e w' ⟨h, m⟩ => ⟨h, m.grown⟩
  · obtain ⟨v, hv⟩ : ∃ v, M = v := ⟨_, rfl⟩
    have hm : (M : Int) = v := by rw [hv]
    obtain ⟨X, hX⟩ : ∃ X, A + 256 * B + 1024 * C + 262144 * v = X := ⟨_, rfl⟩
    have t1 := spread_zero (W := W) (X := X) (l := 18) (m := 10) hW (by omega) (by omega) (fun i hi hn => by
        rw [pack_bit (by omega) (by omega) (by omega) (by omega) hX i hi]
        by_cases c1 : i < 8
        · rw [if_pos c1]; rw [bit_of f0 (by omega)]; exact congrArg W.testBit (by omega)
        · by_cases c2 : i < 10
          · rw [if_neg c1, if_pos c2]; rw [bit_of f1 (by omega)]; exact congrArg W.testBit (by omega)
          · by_cases c3 : i < 18
            · rw [if_neg c1, if_neg c2, if_pos c3]; rw [bit_of f2 (by omega)]; exact congrArg W.testBit (by omega)
            · rw [if_neg c1, if_neg c2, if_neg c3]; omega)
    rw [show ((maskN 10 18 : Nat) : Int) = 268173312 by decide +kernel] at t1
    exact (coreP3 W V A B C D M v X a1 a2 w ⟨hW⟩ hV ⟨lV⟩ ⟨ha⟩ ⟨hb⟩ ⟨hc⟩ ⟨hd⟩ (by omega) (by omega) (by omega) (by omega) hM hm (by omega) ⟨hX⟩ hp t1).mono fun e w' ⟨h, m⟩ => ⟨h, m.grown⟩
  · obtain ⟨v, hv⟩ : ∃ v, M = v := ⟨_, rfl⟩
    have hm : (M : Int) = v := by rw [hv]
    obtain ⟨X, hX⟩ : ∃ X, A + 256 * B + 1024 * C + 262144 * v = X := ⟨_, rfl⟩
    have t1 := spread_zero (W := W) (X := X) (l := 18) (m := 10) hW (by omega) (by omega) (fun i hi hn => by
        rw [pack_bit (by omega) (by omega) (by omega) (by omega) hX i hi]
        by_cases c1 : i < 8
        · rw [if_pos c1]; rw [bit_of f0 (by omega)]; exact congrArg W.testBit (by omega)
        · by_cases c2 : i < 10
          · rw [if_neg c1, if_pos c2]; rw [bit_of f1 (by omega)]; exact congrArg W.testBit (by omega)
          · by_cases c3 : i < 18
            · rw [if_neg c1, if_neg c2, if_pos c3]; rw [bit_of f2 (by omega)]; exact congrArg W.testBit (by omega)
            · rw [if_neg c1, if_neg c2, if_neg c3]; omega)
    rw [show ((maskN 10 18 : Nat) : Int) = 268173312 by decide +kernel] at t1
    exact (coreN3 W V A B C D M v X a1 a2 w ⟨hW⟩ hV ⟨lV⟩ ⟨ha⟩ ⟨hb⟩ ⟨hc⟩ ⟨hd⟩ (by omega) (by omega) (by omega) (by omega) hM hm (by omega) ⟨hX⟩ hp t1).mono fun e w' ⟨h, m⟩ => ⟨h, m.grown⟩

/-! ### THE ROW's STEP: WRITTEN OUT: LEAVE IT -/
set_option maxRecDepth 100000 in
theorem lifted (os : Os) (started : os.Started) (H : Type) (enc : TypeId × Value → H) :
    ReturnsInHanded {} Try.checked os 10 .any (Rows.wordSpreadSpec.pre6 enc Try.prog Try.f10 Rows.wordSpreadRow.domain false) (Rows.wordSpreadSpec.post enc Try.prog Try.f10 false true false false) := by
  refine returnsInHanded_of_change (C := Try.checked) own started (by kernel_rfl) Try.func10
    (ChangeSpec.witness6 (enc := enc) (C := Try.checked) false ⟨#[], #[.int .u32 0, .int .i64 0, .int .i64 0], []⟩ 8 (by kernel_rfl) (by kernel_rfl) (by kernel_rfl) (by kernel_rfl)) ?_
  intro W base args ds gs before hval0 hW hcnd _
  have hval : ∀ (j : Nat) t v, Try.f10.params[j]? = some t → args[j]? = some v → Value.okWide Try.prog W .any base t v := hval0
  have hW' := hW
  obtain ⟨p, q, hA0, hV, rfl, hfz, hnd⟩ := hW
  have hA : DataW.TrodAll enc Try.prog W 0 (fun _ => true) true Try.f10.params.toList args.toList ds p := hA0
  rw [Try.params10] at hA hval
  obtain ⟨v0, vs0, d0, ds0, p0, q0, hargs, rfl, rfl, h0, r0⟩ := trodAll_cons hA
  obtain ⟨v1, vs1, d1, ds1, p1, q1, rfl, rfl, rfl, h1, r1⟩ := trodAll_cons r0
  obtain ⟨v2, vs2, d2, ds2, p2, q2, rfl, rfl, rfl, h2, r2⟩ := trodAll_cons r1
  obtain ⟨rfl, rfl, rfl⟩ := trodAll_nil r2
  obtain rfl : args = #[v0, v1, v2] := by cases args; simp_all
  obtain ⟨rfl, rfl⟩ := trodVars_none hV
  obtain ⟨a0, rfl, rfl, rfl, w0⟩ := open_int Try.underlying22 (hval 0 22 v0 rfl rfl) h0
  obtain ⟨a1, rfl, rfl, rfl, w1⟩ := open_int Try.underlying3 (hval 1 3 v1 rfl rfl) h1
  obtain ⟨a2, rfl, rfl, rfl, w2⟩ := open_int Try.underlying3 (hval 2 3 v2 rfl rfl) h2
  clear hA0 hval0
  simp only [List.append_nil] at hW'
  refine (walk a0 a1 a2 w0 w1 w2 W).mono fun e W' ⟨he, hg⟩ => ?_
  subst he
  exact ⟨_, rfl, post_of_same (pa := []) (pv := []) hW' (fun _ _ _ => (trodAll_cons_mk (shut_bool Try.underlying4 _) trodAll_mk0)) (fun sp _ => (trodAll_cons_mk (shut_int Try.underlying22 w0) (trodAll_cons_mk (shut_int Try.underlying3 w1) (trodAll_cons_mk (shut_int Try.underlying3 w2) trodAll_mk0)))) (fun _ _ => rfl) rfl
    (hg.frame _) hg.2.1 (ok_one (by kernel_rfl) rfl (okWide_bool_mk Try.underlying4 _))⟩

theorem over : Rows.wordSpreadRow.holds Try.pinned (OpenSpec.ofChange Rows.wordSpreadSpec) :=
  OpenClaim.holds_of_wide 10 Try.f10 rfl rfl rfl rfl rfl rfl rfl ⟨rfl, rfl, rfl, rfl, rfl⟩ rfl rfl rfl rfl rfl (by kernel_rfl) Try.func10 (by kernel_rfl)
    (of_decide_eq_true (by kernel_rfl)) (by unfold Func.isWrapper; first | (rw [if_pos (by decide +kernel)]; kernel_rfl) | (rw [if_neg (by decide +kernel)]; exact ⟨rfl, rfl⟩))
    (fun os started H enc _ => lifted os started H enc)

theorem proved : Rows.WordSpreadSaid :=
  over
#print axioms proved
end Go.Proofs.Ytojfhebejfibkaa.wordSpread
