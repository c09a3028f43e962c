/- BusAddresses: for every input the law returns true, and each argument reads afterwards as it read before. No condition. -/
import Derived.Test.YtdjjgloloahlgaaRows
import Derived.WalkKit
import Derived.ProofKit
import Derived.OpenShut
import Derived.Test.YtdjjgloloahlgaaBusLaw
namespace Go.Proofs.Ytdjjgloloahlgaa.busAddresses
open Go.ChangeShapes Go.WideShapes Go.ChangeAt Go.RowKit
set_option linter.unusedVariables false      -- a walk need not use every 'w<i>' (that an integer argument fits its kind)

theorem own : ownKnob Try.prog.godebug = none := by kernel_rfl


set_option maxRecDepth 100000 in
set_option maxHeartbeats 4000000 in
theorem coreB0 (a b c d : Int) (W : Nat) (w : World) (HW : Kept (W < 4294967296)) (KC : Kept (-9223372036854775808 ≤ c ∧ c ≤ 9223372036854775807)) (KD : Kept (-9223372036854775808 ≤ d ∧ d ≤ 9223372036854775807))
    (h1 : a < 0)
    (s t z g : Int) (HS : Kept (SplitR W s t)) (HZ : Kept (AddrR s t z g))
    (hB : ((16777216 ≤ W) ∧ s = -1 ∧ t = -1 ∧ g = 1) ∨ (W < 16777216 ∧ (bits .and .u32 (W : Int) 3 != 0) = true ∧ s = -1 ∧ t = -1 ∧ g = 1) ∨ (W < 16777216 ∧ (bits .and .u32 (W : Int) 3 != 0) = false ∧ g = 0 ∧ z = W)) :
    Calls Try.prog 3 #[.int .i64 a, .int .i64 b, .int .i64 c, .int .i64 d, .int .u32 W] w fun e w' => e = .returned (.bool true) ∧ Mild w w' := by
  rcases hB with ⟨b1, rfl, rfl, rfl⟩ | ⟨b1, b2, rfl, rfl, rfl⟩ | ⟨b1, b2, rfl, rfl⟩
  all_goals
    go_enter Try.func3, Try.ntmps3
    go_wp2_with fail
    refine (shown_any _).mono ?_; rintro z w1 ⟨rfl, m1⟩
    go_wp2_with fail
    refine (address_is (v := 0) (e := 1) _ (Or.inl ⟨by omega, rfl, rfl⟩)).mono ?_; rintro z w2 ⟨rfl, m2⟩
    go_wp2_with fail
    refine (split_is _ HW.out rfl HS.out).mono ?_; rintro z w5 ⟨rfl, m5⟩
    go_wp2_with fail
    refine (address_is _ HZ.out).mono ?_; rintro z w6 ⟨rfl, m6⟩
    go_wp2_with fail
    go_ret
    exact ⟨rfl, ((m1.trans m2).trans m5).trans m6⟩

set_option maxRecDepth 100000 in
set_option maxHeartbeats 4000000 in
theorem coreB1 (a b c d : Int) (W : Nat) (w : World) (HW : Kept (W < 4294967296)) (KC : Kept (-9223372036854775808 ≤ c ∧ c ≤ 9223372036854775807)) (KD : Kept (-9223372036854775808 ≤ d ∧ d ≤ 9223372036854775807))
    (h0 : 0 ≤ a) (h1 : 256 ≤ a)
    (s t z g : Int) (HS : Kept (SplitR W s t)) (HZ : Kept (AddrR s t z g))
    (hB : ((16777216 ≤ W) ∧ s = -1 ∧ t = -1 ∧ g = 1) ∨ (W < 16777216 ∧ (bits .and .u32 (W : Int) 3 != 0) = true ∧ s = -1 ∧ t = -1 ∧ g = 1) ∨ (W < 16777216 ∧ (bits .and .u32 (W : Int) 3 != 0) = false ∧ g = 0 ∧ z = W)) :
    Calls Try.prog 3 #[.int .i64 a, .int .i64 b, .int .i64 c, .int .i64 d, .int .u32 W] w fun e w' => e = .returned (.bool true) ∧ Mild w w' := by
  rcases hB with ⟨b1, rfl, rfl, rfl⟩ | ⟨b1, b2, rfl, rfl, rfl⟩ | ⟨b1, b2, rfl, rfl⟩
  all_goals
    go_enter Try.func3, Try.ntmps3
    go_wp2_with fail
    refine (shown_any _).mono ?_; rintro z w1 ⟨rfl, m1⟩
    go_wp2_with fail
    refine (address_is (v := 0) (e := 1) _ (Or.inl ⟨by omega, rfl, rfl⟩)).mono ?_; rintro z w2 ⟨rfl, m2⟩
    go_wp2_with fail
    refine (split_is _ HW.out rfl HS.out).mono ?_; rintro z w5 ⟨rfl, m5⟩
    go_wp2_with fail
    refine (address_is _ HZ.out).mono ?_; rintro z w6 ⟨rfl, m6⟩
    go_wp2_with fail
    go_ret
    exact ⟨rfl, ((m1.trans m2).trans m5).trans m6⟩

set_option maxRecDepth 100000 in
set_option maxHeartbeats 4000000 in
theorem coreB2 (a b c d : Int) (W : Nat) (w : World) (HW : Kept (W < 4294967296)) (KC : Kept (-9223372036854775808 ≤ c ∧ c ≤ 9223372036854775807)) (KD : Kept (-9223372036854775808 ≤ d ∧ d ≤ 9223372036854775807))
    (h0 : 0 ≤ a) (h1 : a < 256) (h2 : b < 0)
    (s t z g : Int) (HS : Kept (SplitR W s t)) (HZ : Kept (AddrR s t z g))
    (hB : ((16777216 ≤ W) ∧ s = -1 ∧ t = -1 ∧ g = 1) ∨ (W < 16777216 ∧ (bits .and .u32 (W : Int) 3 != 0) = true ∧ s = -1 ∧ t = -1 ∧ g = 1) ∨ (W < 16777216 ∧ (bits .and .u32 (W : Int) 3 != 0) = false ∧ g = 0 ∧ z = W)) :
    Calls Try.prog 3 #[.int .i64 a, .int .i64 b, .int .i64 c, .int .i64 d, .int .u32 W] w fun e w' => e = .returned (.bool true) ∧ Mild w w' := by
  rcases hB with ⟨b1, rfl, rfl, rfl⟩ | ⟨b1, b2, rfl, rfl, rfl⟩ | ⟨b1, b2, rfl, rfl⟩
  all_goals
    go_enter Try.func3, Try.ntmps3
    go_wp2_with fail
    refine (shown_any _).mono ?_; rintro z w1 ⟨rfl, m1⟩
    go_wp2_with fail
    refine (address_is (v := 0) (e := 1) _ (Or.inl ⟨by omega, rfl, rfl⟩)).mono ?_; rintro z w2 ⟨rfl, m2⟩
    go_wp2_with fail
    refine (split_is _ HW.out rfl HS.out).mono ?_; rintro z w5 ⟨rfl, m5⟩
    go_wp2_with fail
    refine (address_is _ HZ.out).mono ?_; rintro z w6 ⟨rfl, m6⟩
    go_wp2_with fail
    go_ret
    exact ⟨rfl, ((m1.trans m2).trans m5).trans m6⟩

set_option maxRecDepth 100000 in
set_option maxHeartbeats 4000000 in
theorem coreB3 (a b c d : Int) (W : Nat) (w : World) (HW : Kept (W < 4294967296)) (KC : Kept (-9223372036854775808 ≤ c ∧ c ≤ 9223372036854775807)) (KD : Kept (-9223372036854775808 ≤ d ∧ d ≤ 9223372036854775807))
    (h0 : 0 ≤ a) (h1 : a < 256) (h2 : 0 ≤ b) (h3 : 16384 ≤ b)
    (s t z g : Int) (HS : Kept (SplitR W s t)) (HZ : Kept (AddrR s t z g))
    (hB : ((16777216 ≤ W) ∧ s = -1 ∧ t = -1 ∧ g = 1) ∨ (W < 16777216 ∧ (bits .and .u32 (W : Int) 3 != 0) = true ∧ s = -1 ∧ t = -1 ∧ g = 1) ∨ (W < 16777216 ∧ (bits .and .u32 (W : Int) 3 != 0) = false ∧ g = 0 ∧ z = W)) :
    Calls Try.prog 3 #[.int .i64 a, .int .i64 b, .int .i64 c, .int .i64 d, .int .u32 W] w fun e w' => e = .returned (.bool true) ∧ Mild w w' := by
  rcases hB with ⟨b1, rfl, rfl, rfl⟩ | ⟨b1, b2, rfl, rfl, rfl⟩ | ⟨b1, b2, rfl, rfl⟩
  all_goals
    go_enter Try.func3, Try.ntmps3
    go_wp2_with fail
    refine (shown_any _).mono ?_; rintro z w1 ⟨rfl, m1⟩
    go_wp2_with fail
    refine (address_is (v := 0) (e := 1) _ (Or.inl ⟨by omega, rfl, rfl⟩)).mono ?_; rintro z w2 ⟨rfl, m2⟩
    go_wp2_with fail
    refine (split_is _ HW.out rfl HS.out).mono ?_; rintro z w5 ⟨rfl, m5⟩
    go_wp2_with fail
    refine (address_is _ HZ.out).mono ?_; rintro z w6 ⟨rfl, m6⟩
    go_wp2_with fail
    go_ret
    exact ⟨rfl, ((m1.trans m2).trans m5).trans m6⟩

set_option maxRecDepth 100000 in
set_option maxHeartbeats 4000000 in
theorem coreE (a b c d P Q y : Int) (W : Nat) (w : World) (HW : Kept (W < 4294967296)) (KC : Kept (-9223372036854775808 ≤ c ∧ c ≤ 9223372036854775807)) (KD : Kept (-9223372036854775808 ≤ d ∧ d ≤ 9223372036854775807))
    (h0 : 0 ≤ a) (h1 : a < 256) (h2 : 0 ≤ b) (h3 : b < 16384) (X : Nat) (HX : Kept (AddrR a b X 0)) (HX1 : Kept (X < 4294967296)) (HX2 : Kept (SplitR X a b)) (HP : Kept (pk c 256 = P)) (HQ : Kept (pk d 16384 = Q)) (p0 : 0 ≤ P) (p1 : P < 256) (q0 : 0 ≤ Q) (q1 : Q < 16384) (HY : Kept (AddrR P Q y 0)) (e1 : (a == P) = true) (e2 : (b == Q) = true) (e3 : ((X : Int) == y) = true)
    (s t z g : Int) (HS : Kept (SplitR W s t)) (HZ : Kept (AddrR s t z g))
    (hB : ((16777216 ≤ W) ∧ s = -1 ∧ t = -1 ∧ g = 1) ∨ (W < 16777216 ∧ (bits .and .u32 (W : Int) 3 != 0) = true ∧ s = -1 ∧ t = -1 ∧ g = 1) ∨ (W < 16777216 ∧ (bits .and .u32 (W : Int) 3 != 0) = false ∧ g = 0 ∧ z = W)) :
    Calls Try.prog 3 #[.int .i64 a, .int .i64 b, .int .i64 c, .int .i64 d, .int .u32 W] w fun e w' => e = .returned (.bool true) ∧ Mild w w' := by
  rcases hB with ⟨b1, rfl, rfl, rfl⟩ | ⟨b1, b2, rfl, rfl, rfl⟩ | ⟨b1, b2, rfl, rfl⟩
  all_goals
    go_enter Try.func3, Try.ntmps3
    go_wp2_with fail
    refine (shown_any _).mono ?_; rintro z w1 ⟨rfl, m1⟩
    go_wp2_with fail
    refine (address_is _ HX.out).mono ?_; rintro z w2 ⟨rfl, m2⟩
    go_wp2_with fail
    refine (split_is _ HX1.out rfl HX2.out).mono ?_; rintro z w3 ⟨rfl, m3⟩
    go_wp2_with fail
    refine (pick_is _ KC.out (by omega) (by omega) HP.out).mono ?_; rintro z w' ⟨rfl, rfl⟩
    go_wp2_with fail
    refine (pick_is _ KD.out (by omega) (by omega) HQ.out).mono ?_; rintro z w' ⟨rfl, rfl⟩
    go_wp2_with fail
    refine (address_is _ HY.out).mono ?_; rintro z w4 ⟨rfl, m4⟩
    go_wp2_with fail
    refine (pick_is _ KC.out (by omega) (by omega) HP.out).mono ?_; rintro z w' ⟨rfl, rfl⟩
    go_wp2_with fail
    refine (pick_is _ KD.out (by omega) (by omega) HQ.out).mono ?_; rintro z w' ⟨rfl, rfl⟩
    go_wp2_with fail
    refine (split_is _ HW.out rfl HS.out).mono ?_; rintro z w5 ⟨rfl, m5⟩
    go_wp2_with fail
    refine (address_is _ HZ.out).mono ?_; rintro z w6 ⟨rfl, m6⟩
    go_wp2_with fail
    go_ret
    exact ⟨rfl, ((((m1.trans m2).trans m3).trans m4).trans m5).trans m6⟩

set_option maxRecDepth 100000 in
set_option maxHeartbeats 4000000 in
theorem coreF (a b c d P Q y : Int) (W : Nat) (w : World) (HW : Kept (W < 4294967296)) (KC : Kept (-9223372036854775808 ≤ c ∧ c ≤ 9223372036854775807)) (KD : Kept (-9223372036854775808 ≤ d ∧ d ≤ 9223372036854775807))
    (h0 : 0 ≤ a) (h1 : a < 256) (h2 : 0 ≤ b) (h3 : b < 16384) (X : Nat) (HX : Kept (AddrR a b X 0)) (HX1 : Kept (X < 4294967296)) (HX2 : Kept (SplitR X a b)) (HP : Kept (pk c 256 = P)) (HQ : Kept (pk d 16384 = Q)) (p0 : 0 ≤ P) (p1 : P < 256) (q0 : 0 ≤ Q) (q1 : Q < 16384) (HY : Kept (AddrR P Q y 0)) (e1 : (a == P) = true) (e2 : (b == Q) = false) (e3 : ((X : Int) == y) = false)
    (s t z g : Int) (HS : Kept (SplitR W s t)) (HZ : Kept (AddrR s t z g))
    (hB : ((16777216 ≤ W) ∧ s = -1 ∧ t = -1 ∧ g = 1) ∨ (W < 16777216 ∧ (bits .and .u32 (W : Int) 3 != 0) = true ∧ s = -1 ∧ t = -1 ∧ g = 1) ∨ (W < 16777216 ∧ (bits .and .u32 (W : Int) 3 != 0) = false ∧ g = 0 ∧ z = W)) :
    Calls Try.prog 3 #[.int .i64 a, .int .i64 b, .int .i64 c, .int .i64 d, .int .u32 W] w fun e w' => e = .returned (.bool true) ∧ Mild w w' := by
  rcases hB with ⟨b1, rfl, rfl, rfl⟩ | ⟨b1, b2, rfl, rfl, rfl⟩ | ⟨b1, b2, rfl, rfl⟩
  all_goals
    go_enter Try.func3, Try.ntmps3
    go_wp2_with fail
    refine (shown_any _).mono ?_; rintro z w1 ⟨rfl, m1⟩
    go_wp2_with fail
    refine (address_is _ HX.out).mono ?_; rintro z w2 ⟨rfl, m2⟩
    go_wp2_with fail
    refine (split_is _ HX1.out rfl HX2.out).mono ?_; rintro z w3 ⟨rfl, m3⟩
    go_wp2_with fail
    refine (pick_is _ KC.out (by omega) (by omega) HP.out).mono ?_; rintro z w' ⟨rfl, rfl⟩
    go_wp2_with fail
    refine (pick_is _ KD.out (by omega) (by omega) HQ.out).mono ?_; rintro z w' ⟨rfl, rfl⟩
    go_wp2_with fail
    refine (address_is _ HY.out).mono ?_; rintro z w4 ⟨rfl, m4⟩
    go_wp2_with fail
    refine (pick_is _ KC.out (by omega) (by omega) HP.out).mono ?_; rintro z w' ⟨rfl, rfl⟩
    go_wp2_with fail
    refine (pick_is _ KD.out (by omega) (by omega) HQ.out).mono ?_; rintro z w' ⟨rfl, rfl⟩
    go_wp2_with fail
    refine (split_is _ HW.out rfl HS.out).mono ?_; rintro z w5 ⟨rfl, m5⟩
    go_wp2_with fail
    refine (address_is _ HZ.out).mono ?_; rintro z w6 ⟨rfl, m6⟩
    go_wp2_with fail
    go_ret
    exact ⟨rfl, ((((m1.trans m2).trans m3).trans m4).trans m5).trans m6⟩

set_option maxRecDepth 100000 in
set_option maxHeartbeats 4000000 in
theorem coreG (a b c d P Q y : Int) (W : Nat) (w : World) (HW : Kept (W < 4294967296)) (KC : Kept (-9223372036854775808 ≤ c ∧ c ≤ 9223372036854775807)) (KD : Kept (-9223372036854775808 ≤ d ∧ d ≤ 9223372036854775807))
    (h0 : 0 ≤ a) (h1 : a < 256) (h2 : 0 ≤ b) (h3 : b < 16384) (X : Nat) (HX : Kept (AddrR a b X 0)) (HX1 : Kept (X < 4294967296)) (HX2 : Kept (SplitR X a b)) (HP : Kept (pk c 256 = P)) (HQ : Kept (pk d 16384 = Q)) (p0 : 0 ≤ P) (p1 : P < 256) (q0 : 0 ≤ Q) (q1 : Q < 16384) (HY : Kept (AddrR P Q y 0)) (e1 : (a == P) = false) (e3 : ((X : Int) == y) = false)
    (s t z g : Int) (HS : Kept (SplitR W s t)) (HZ : Kept (AddrR s t z g))
    (hB : ((16777216 ≤ W) ∧ s = -1 ∧ t = -1 ∧ g = 1) ∨ (W < 16777216 ∧ (bits .and .u32 (W : Int) 3 != 0) = true ∧ s = -1 ∧ t = -1 ∧ g = 1) ∨ (W < 16777216 ∧ (bits .and .u32 (W : Int) 3 != 0) = false ∧ g = 0 ∧ z = W)) :
    Calls Try.prog 3 #[.int .i64 a, .int .i64 b, .int .i64 c, .int .i64 d, .int .u32 W] w fun e w' => e = .returned (.bool true) ∧ Mild w w' := by
  rcases hB with ⟨b1, rfl, rfl, rfl⟩ | ⟨b1, b2, rfl, rfl, rfl⟩ | ⟨b1, b2, rfl, rfl⟩
  all_goals
    go_enter Try.func3, Try.ntmps3
    go_wp2_with fail
    refine (shown_any _).mono ?_; rintro z w1 ⟨rfl, m1⟩
    go_wp2_with fail
    refine (address_is _ HX.out).mono ?_; rintro z w2 ⟨rfl, m2⟩
    go_wp2_with fail
    refine (split_is _ HX1.out rfl HX2.out).mono ?_; rintro z w3 ⟨rfl, m3⟩
    go_wp2_with fail
    refine (pick_is _ KC.out (by omega) (by omega) HP.out).mono ?_; rintro z w' ⟨rfl, rfl⟩
    go_wp2_with fail
    refine (pick_is _ KD.out (by omega) (by omega) HQ.out).mono ?_; rintro z w' ⟨rfl, rfl⟩
    go_wp2_with fail
    refine (address_is _ HY.out).mono ?_; rintro z w4 ⟨rfl, m4⟩
    go_wp2_with fail
    refine (pick_is _ KC.out (by omega) (by omega) HP.out).mono ?_; rintro z w' ⟨rfl, rfl⟩
    go_wp2_with fail
    refine (split_is _ HW.out rfl HS.out).mono ?_; rintro z w5 ⟨rfl, m5⟩
    go_wp2_with fail
    refine (address_is _ HZ.out).mono ?_; rintro z w6 ⟨rfl, m6⟩
    go_wp2_with fail
    go_ret
    exact ⟨rfl, ((((m1.trans m2).trans m3).trans m4).trans m5).trans m6⟩

theorem and3 {W : Nat} (hW : W < 4294967296) : bits .and .u32 (W : Int) 3 = ((W % 4 : Nat) : Int) := by
  have h := u32_and_nat W 3 hW (by omega)
  rw [show W &&& 3 = W % 4 from Nat.and_two_pow_sub_one_eq_mod W 2] at h
  exact h

theorem way_cases {W : Nat} {s t z g : Int} (hW : W < 4294967296) (HS : SplitR W s t) (HZ : AddrR s t z g) :
    ((16777216 ≤ W) ∧ s = -1 ∧ t = -1 ∧ g = 1) ∨ (W < 16777216 ∧ (bits .and .u32 (W : Int) 3 != 0) = true ∧ s = -1 ∧ t = -1 ∧ g = 1) ∨ (W < 16777216 ∧ (bits .and .u32 (W : Int) 3 != 0) = false ∧ g = 0 ∧ z = W) := by
  rw [and3 hW]
  rcases HS with ⟨h, rfl, rfl⟩ | ⟨h1, h2, rfl, rfl⟩
  · have hg : g = 1 := by rcases HZ with ⟨_, _, e⟩ | ⟨h0, _⟩; exact e; omega
    by_cases c : 16777216 ≤ W
    · exact Or.inl ⟨c, rfl, rfl, hg⟩
    · exact Or.inr (Or.inl ⟨by omega, by simp; omega, rfl, rfl, hg⟩)
  · rcases HZ with ⟨b, _⟩ | ⟨a1, a2, a3, a4, e1, e2⟩
    · omega
    · exact Or.inr (Or.inr ⟨h2, by simp; omega, e2, by omega⟩)

/-! ### STEP 1: THE WALK: the Go text returns true. 'Grown w w'': the world has at most new blocks (Derived/RowKit3.lean). Part the cases AHEAD of 'go_enter' where a test parts the walk; take each callee by a contract of your own. -/
theorem walk (a0 : Int) (a1 : Int) (a2 : Int) (a3 : Int) (a4 : Int) (w0 : (Lit.int .i64 a0).wf = true) (w1 : (Lit.int .i64 a1).wf = true) (w2 : (Lit.int .i64 a2).wf = true) (w3 : (Lit.int .i64 a3).wf = true) (w4 : (Lit.int .u32 a4).wf = true) (w : World) :
    Calls Try.prog 3 #[.int .i64 a0, .int .i64 a1, .int .i64 a2, .int .i64 a3, .int .u32 a4] w fun e w' => e = .returned (.bool true) ∧ Grown w w' := by
  have KC := Kept.mk (bounds_i64 w2)
  have KD := Kept.mk (bounds_i64 w3)
  obtain ⟨A0, A1⟩ := bounds_u32 w4
  obtain ⟨W, rfl⟩ := Int.eq_ofNat_of_zero_le A0
  have hW : W < 4294967296 := by omega
  obtain ⟨s, t, HS⟩ := split_exists W
  obtain ⟨z, g, HZ⟩ := addr_exists s t
  have hB := way_cases hW HS HZ
  by_cases c1 : a0 < 0
  · exact (coreB0 a0 a1 a2 a3 W w ⟨hW⟩ KC KD c1 s t z g ⟨HS⟩ ⟨HZ⟩ hB).mono fun e w' ⟨h, m⟩ => ⟨h, m.grown⟩
  by_cases c2 : 256 ≤ a0
  · exact (coreB1 a0 a1 a2 a3 W w ⟨hW⟩ KC KD (by omega) c2 s t z g ⟨HS⟩ ⟨HZ⟩ hB).mono fun e w' ⟨h, m⟩ => ⟨h, m.grown⟩
  by_cases c3 : a1 < 0
  · exact (coreB2 a0 a1 a2 a3 W w ⟨hW⟩ KC KD (by omega) (by omega) c3 s t z g ⟨HS⟩ ⟨HZ⟩ hB).mono fun e w' ⟨h, m⟩ => ⟨h, m.grown⟩
  by_cases c4 : 16384 ≤ a1
  · exact (coreB3 a0 a1 a2 a3 W w ⟨hW⟩ KC KD (by omega) (by omega) (by omega) c4 s t z g ⟨HS⟩ ⟨HZ⟩ hB).mono fun e w' ⟨h, m⟩ => ⟨h, m.grown⟩
  have p0 := pk_lo a2 256 (by omega)
  have p1 := pk_hi a2 256 (by omega)
  have q0 := pk_lo a3 16384 (by omega)
  have q1 := pk_hi a3 16384 (by omega)
  obtain ⟨P, eP⟩ : ∃ P, pk a2 256 = P := ⟨_, rfl⟩
  obtain ⟨Q, eQ⟩ : ∃ P, pk a3 16384 = P := ⟨_, rfl⟩
  rw [eP] at p0 p1
  rw [eQ] at q0 q1
  obtain ⟨X, eX⟩ := Int.eq_ofNat_of_zero_le (show 0 ≤ 65536 * a0 + 4 * a1 by omega)
  have HX : Kept (AddrR a0 a1 X 0) := ⟨Or.inr ⟨by omega, by omega, by omega, by omega, eX.symm, rfl⟩⟩
  have HX1 : Kept (X < 4294967296) := ⟨by omega⟩
  have HX2 : Kept (SplitR X a0 a1) := ⟨Or.inr ⟨by omega, by omega, by omega, by omega⟩⟩
  obtain ⟨y, ey⟩ : ∃ y, 65536 * P + 4 * Q = y := ⟨_, rfl⟩
  have HY : Kept (AddrR P Q y 0) := ⟨Or.inr ⟨p0, p1, q0, q1, ey.symm, rfl⟩⟩
  by_cases d1 : a0 = P
  · by_cases d2 : a1 = Q
    · exact (coreE a0 a1 a2 a3 P Q y W w ⟨hW⟩ KC KD (by omega) (by omega) (by omega) (by omega) X HX HX1 HX2 ⟨eP⟩ ⟨eQ⟩ p0 p1 q0 q1 HY (by simpa using d1) (by simpa using d2) (by simp; omega) s t z g ⟨HS⟩ ⟨HZ⟩ hB).mono fun e w' ⟨h, m⟩ => ⟨h, m.grown⟩
    · exact (coreF a0 a1 a2 a3 P Q y W w ⟨hW⟩ KC KD (by omega) (by omega) (by omega) (by omega) X HX HX1 HX2 ⟨eP⟩ ⟨eQ⟩ p0 p1 q0 q1 HY (by simpa using d1) (by simpa using d2) (by simp; omega) s t z g ⟨HS⟩ ⟨HZ⟩ hB).mono fun e w' ⟨h, m⟩ => ⟨h, m.grown⟩
  · exact (coreG a0 a1 a2 a3 P Q y W w ⟨hW⟩ KC KD (by omega) (by omega) (by omega) (by omega) X HX HX1 HX2 ⟨eP⟩ ⟨eQ⟩ p0 p1 q0 q1 HY (by simpa using d1) (by simp; omega) s t z g ⟨HS⟩ ⟨HZ⟩ hB).mono fun e w' ⟨h, m⟩ => ⟨h, m.grown⟩

/-! ### THE ROW's STEP: WRITTEN OUT: LEAVE IT -/
set_option maxRecDepth 100000 in
theorem lifted (os : Os) (started : os.Started) (H : Type) (enc : TypeId × Value → H) :
    ReturnsInHanded {} Try.checked os 3 .any (Rows.busAddressesSpec.pre6 enc Try.prog Try.f3 Rows.busAddressesRow.domain false) (Rows.busAddressesSpec.post enc Try.prog Try.f3 false true false false) := by
  refine returnsInHanded_of_change (C := Try.checked) own started (by kernel_rfl) Try.func3
    (ChangeSpec.witness6 (enc := enc) (C := Try.checked) false ⟨#[], #[.int .i64 0, .int .i64 0, .int .i64 0, .int .i64 0, .int .u32 0], []⟩ 8 (by kernel_rfl) (by kernel_rfl) (by kernel_rfl) (by kernel_rfl)) ?_
  intro W base args ds gs before hval0 hW hcnd _
  have hval : ∀ (j : Nat) t v, Try.f3.params[j]? = some t → args[j]? = some v → Value.okWide Try.prog W .any base t v := hval0
  have hW' := hW
  obtain ⟨p, q, hA0, hV, rfl, hfz, hnd⟩ := hW
  have hA : DataW.TrodAll enc Try.prog W 0 (fun _ => true) true Try.f3.params.toList args.toList ds p := hA0
  rw [Try.params3] at hA hval
  obtain ⟨v0, vs0, d0, ds0, p0, q0, hargs, rfl, rfl, h0, r0⟩ := trodAll_cons hA
  obtain ⟨v1, vs1, d1, ds1, p1, q1, rfl, rfl, rfl, h1, r1⟩ := trodAll_cons r0
  obtain ⟨v2, vs2, d2, ds2, p2, q2, rfl, rfl, rfl, h2, r2⟩ := trodAll_cons r1
  obtain ⟨v3, vs3, d3, ds3, p3, q3, rfl, rfl, rfl, h3, r3⟩ := trodAll_cons r2
  obtain ⟨v4, vs4, d4, ds4, p4, q4, rfl, rfl, rfl, h4, r4⟩ := trodAll_cons r3
  obtain ⟨rfl, rfl, rfl⟩ := trodAll_nil r4
  obtain rfl : args = #[v0, v1, v2, v3, v4] := by cases args; simp_all
  obtain ⟨rfl, rfl⟩ := trodVars_none hV
  obtain ⟨a0, rfl, rfl, rfl, w0⟩ := open_int Try.underlying3 (hval 0 3 v0 rfl rfl) h0
  obtain ⟨a1, rfl, rfl, rfl, w1⟩ := open_int Try.underlying3 (hval 1 3 v1 rfl rfl) h1
  obtain ⟨a2, rfl, rfl, rfl, w2⟩ := open_int Try.underlying3 (hval 2 3 v2 rfl rfl) h2
  obtain ⟨a3, rfl, rfl, rfl, w3⟩ := open_int Try.underlying3 (hval 3 3 v3 rfl rfl) h3
  obtain ⟨a4, rfl, rfl, rfl, w4⟩ := open_int Try.underlying22 (hval 4 22 v4 rfl rfl) h4
  clear hA0 hval0
  simp only [List.append_nil] at hW'
  refine (walk a0 a1 a2 a3 a4 w0 w1 w2 w3 w4 W).mono fun e W' ⟨he, hg⟩ => ?_
  subst he
  exact ⟨_, rfl, post_of_same (pa := []) (pv := []) hW' (fun _ _ _ => (trodAll_cons_mk (shut_bool Try.underlying4 _) trodAll_mk0)) (fun sp _ => (trodAll_cons_mk (shut_int Try.underlying3 w0) (trodAll_cons_mk (shut_int Try.underlying3 w1) (trodAll_cons_mk (shut_int Try.underlying3 w2) (trodAll_cons_mk (shut_int Try.underlying3 w3) (trodAll_cons_mk (shut_int Try.underlying22 w4) trodAll_mk0)))))) (fun _ _ => rfl) rfl
    (hg.frame _) hg.2.1 (ok_one (by kernel_rfl) rfl (okWide_bool_mk Try.underlying4 _))⟩

theorem over : Rows.busAddressesRow.holds Try.pinned (OpenSpec.ofChange Rows.busAddressesSpec) :=
  OpenClaim.holds_of_wide 3 Try.f3 rfl rfl rfl rfl rfl rfl rfl ⟨rfl, rfl, rfl, rfl, rfl⟩ rfl rfl rfl rfl rfl (by kernel_rfl) Try.func3 (by kernel_rfl)
    (of_decide_eq_true (by kernel_rfl)) (by unfold Func.isWrapper; first | (rw [if_pos (by decide +kernel)]; kernel_rfl) | (rw [if_neg (by decide +kernel)]; exact ⟨rfl, rfl⟩))
    (fun os started H enc _ => lifted os started H enc)

theorem proved : Rows.BusAddressesSaid :=
  over
#print axioms proved
end Go.Proofs.Ytdjjgloloahlgaa.busAddresses
