/- What the laws of chapter 1 lean on besides: the example at their head, the remainder that is not below 0. For every input. -/
import Derived.Test.YtojfhebejfibkaaBitWalk
namespace Go.Proofs.Ytojfhebejfibkaa
open Go.RowKit

theorem shown_any (w : World) : Calls Try.prog 14 #[] w fun e w' => e = .returned (.bool true) ∧ Mild w w' := by
  have hv : ((getN 43981 4 8 : Nat) : Int) = 188 := by decide +kernel
  have g := get_nat 43981 4 8
  rw [hv] at g
  have G := Lib.hid g
  clear g hv
  go_enter Try.func14, Try.ntmps14
  go_wp2_with (go_at_call 16; refine (G.out _ (by omega) (by omega) (by omega)).mono ?_; rintro e w' ⟨rfl, hm⟩)
  go_ret
  exact ⟨rfl, hm⟩

def md (a n : Int) : Int := if a.tmod n < 0 then -(a.tmod n) else a.tmod n
theorem md_neg {a n : Int} (h : a.tmod n < 0) : md a n = -(a.tmod n) := if_pos h
theorem md_pos {a n : Int} (h : ¬ a.tmod n < 0) : md a n = a.tmod n := if_neg h
theorem md_lo (a n : Int) : 0 ≤ md a n := by unfold md; split <;> omega
theorem md_hi (a : Int) {n : Int} (h : 0 < n) : md a n < n := by
  unfold md
  have h1 := Int.tmod_lt_of_pos a h
  have h2 := Int.tmod_lt_of_pos (-a) h
  rw [Int.neg_tmod] at h2
  split <;> omega

theorem ret_i64 {a b : Int} (h : a = b) : Ending.returned (.int .i64 a) = .returned (.int .i64 b) := by rw [h]

theorem mod_any (a n : Int) (w : World) (n0 : 0 < n) (n1 : n ≤ 1073741824) :
    Calls Try.prog 15 #[.int .i64 a, .int .i64 n] w fun e w' => e = .returned (.int .i64 (md a n)) ∧ w' = w := by
  have h1 := Int.tmod_lt_of_pos a n0
  have h2 := Int.tmod_lt_of_pos (-a) n0
  rw [Int.neg_tmod] at h2
  have hn : ¬ n = 0 := by omega
  by_cases h : a.tmod n < 0
  · have E := Lib.hid (md_neg h)
    go_enter Try.func15, Try.ntmps15
    go_wp2_with fail
    go_ret
    exact ⟨ret_i64 E.out.symm, rfl⟩
  · have E := Lib.hid (md_pos h)
    go_enter Try.func15, Try.ntmps15
    go_wp2_with fail
    go_ret
    exact ⟨ret_i64 E.out.symm, rfl⟩

theorem mod_is {a n : Int} {R : Nat} (w : World) (n0 : 0 < n) (n1 : n ≤ 1073741824) (hr : md a n = R) :
    Calls Try.prog 15 #[.int .i64 a, .int .i64 n] w fun e w' => e = .returned (.int .i64 R) ∧ w' = w := by
  rw [← hr]; exact mod_any a n w n0 n1

end Go.Proofs.Ytojfhebejfibkaa
