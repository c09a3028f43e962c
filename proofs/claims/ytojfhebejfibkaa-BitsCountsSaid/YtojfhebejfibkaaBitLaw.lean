/- What the laws of chapter 1 lean on besides: the example at their head, the remainder that is not below 0. For every input. -/
import Derived.Test.YtojfhebejfibkaaBitWalk
import Derived.DataShut
namespace Go.Proofs.Ytojfhebejfibkaa
open Go.RowKit

theorem shown_any (w : World) : Calls Try.prog 14 #[] w fun e w' => e = .returned (.bool true) ∧ Mild w w' := by
  have hv : ((getN 43981 4 8 : Nat) : Int) = 188 := by decide +kernel
  have g := get_nat 43981 4 8
  rw [hv] at g
  have G := Lib.hid g
  clear g hv
  go_enter Try.func14, Try.ntmps14
  go_wp2_with (go_at_call 16; refine (G.out _ (by omega) (by omega) (by omega)).mono ?_; rintro e w' ⟨rfl, hm⟩)
  go_ret
  exact ⟨rfl, hm⟩

def md (a n : Int) : Int := if a.tmod n < 0 then -(a.tmod n) else a.tmod n
theorem md_neg {a n : Int} (h : a.tmod n < 0) : md a n = -(a.tmod n) := if_pos h
theorem md_pos {a n : Int} (h : ¬ a.tmod n < 0) : md a n = a.tmod n := if_neg h
theorem md_lo (a n : Int) : 0 ≤ md a n := by unfold md; split <;> omega
theorem md_hi (a : Int) {n : Int} (h : 0 < n) : md a n < n := by
  unfold md
  have h1 := Int.tmod_lt_of_pos a h
  have h2 := Int.tmod_lt_of_pos (-a) h
  rw [Int.neg_tmod] at h2
  split <;> omega

theorem ret_i64 {a b : Int} (h : a = b) : Ending.returned (.int .i64 a) = .returned (.int .i64 b) := by rw [h]

theorem mod_any (a n : Int) (w : World) (n0 : 0 < n) (n1 : n ≤ 1073741824) :
    Calls Try.prog 15 #[.int .i64 a, .int .i64 n] w fun e w' => e = .returned (.int .i64 (md a n)) ∧ w' = w := by
  have h1 := Int.tmod_lt_of_pos a n0
  have h2 := Int.tmod_lt_of_pos (-a) n0
  rw [Int.neg_tmod] at h2
  have hn : ¬ n = 0 := by omega
  by_cases h : a.tmod n < 0
  · have E := Lib.hid (md_neg h)
    go_enter Try.func15, Try.ntmps15
    go_wp2_with fail
    go_ret
    exact ⟨ret_i64 E.out.symm, rfl⟩
  · have E := Lib.hid (md_pos h)
    go_enter Try.func15, Try.ntmps15
    go_wp2_with fail
    go_ret
    exact ⟨ret_i64 E.out.symm, rfl⟩

theorem mod_is {a n : Int} {R : Nat} (w : World) (n0 : 0 < n) (n1 : n ≤ 1073741824) (hr : md a n = R) :
    Calls Try.prog 15 #[.int .i64 a, .int .i64 n] w fun e w' => e = .returned (.int .i64 R) ∧ w' = w := by
  rw [← hr]; exact mod_any a n w n0 n1

/-! Turning all bits of a word round. -/
def notI (n : Int) : Int := bits .xor .u32 4294967295 n
theorem not_op (n : Int) : Op.intBits .xor .u32 (if IntKind.u32.signed then -1 else IntKind.u32.max) n = pure (.int .u32 (notI n)) := by
  rw [intBits_xor]
  unfold notI
  rw [show IntKind.u32.signed = false from rfl, IntKind.max_u32]
  rfl
theorem notI_nat {W : Nat} (hW : W < 4294967296) : notI W = ((4294967295 - W : Nat) : Int) := by
  unfold notI
  have h := u32_xor_nat 4294967295 W (by omega) hW
  have e : 4294967295 ^^^ W = 4294967295 - W := by
    apply Nat.eq_of_testBit_eq; intro i
    rw [not_bit hW, Nat.testBit_xor, show (4294967295 : Nat) = 2 ^ 32 - 1 by omega, Nat.testBit_two_pow_sub_one]
    by_cases c : i < 32
    · simp [c]
    · rw [bit_high hW (by omega)]; simp [c]
  rw [e] at h
  exact h

end Go.Proofs.Ytojfhebejfibkaa
