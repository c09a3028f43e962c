/- What the laws of chapter 11 lean on besides: the example at their head, which of n things a raw number speaks of. For every input. -/
import Derived.Test.YtdjjgloloahlgaaBus
namespace Go.Proofs.Ytdjjgloloahlgaa
open Go.RowKit

theorem shown_any (w : World) : Calls Try.prog 6 #[] w fun e w' => e = .returned (.bool true) ∧ Mild w w' := by
  go_enter Try.func6, Try.ntmps6
  go_wp2_with fail
  refine (address_is (v := 65544) (e := 0) _ (Or.inr ⟨by omega, by omega, by omega, by omega, by omega, rfl⟩)).mono ?_; rintro z w1 ⟨rfl, m1⟩
  go_wp2_with fail
  go_ret
  exact ⟨rfl, m1⟩

def pk (c n : Int) : Int := (if c < 0 then -(c + 1) else c) % n
theorem pk_neg {c n : Int} (h : c < 0) : pk c n = (-(c + 1)) % n := by rw [pk, if_pos h]
theorem pk_pos {c n : Int} (h : ¬ c < 0) : pk c n = c % n := by rw [pk, if_neg h]
theorem pk_lo (c n : Int) (h : 0 < n) : 0 ≤ pk c n := Int.emod_nonneg _ (by omega)
theorem pk_hi (c n : Int) (h : 0 < n) : pk c n < n := Int.emod_lt_of_pos _ h
theorem ret_i64 {a b : Int} (h : a = b) : Ending.returned (.int .i64 a) = .returned (.int .i64 b) := by rw [h]

theorem pick_any (c n : Int) (w : World) (c0 : -9223372036854775808 ≤ c) (c1 : c ≤ 9223372036854775807) (n0 : 0 < n) (n1 : n ≤ 1000000) :
    Calls Try.prog 9 #[.int .i64 c, .int .i64 n] w fun e w' => e = .returned (.int .i64 (pk c n)) ∧ w' = w := by
  by_cases h : c < 0
  · go_enter Try.func9, Try.ntmps9
    go_wp2_with fail
    go_ret
    exact ⟨ret_i64 (by rw [pk_neg h, ← Int.neg_tmod, Int.tmod_eq_emod_of_nonneg (by omega)]), rfl⟩
  · go_enter Try.func9, Try.ntmps9
    go_wp2_with fail
    go_ret
    exact ⟨ret_i64 (pk_pos (by omega)).symm, rfl⟩

theorem pick_is {c n p : Int} (w : World) (hc : -9223372036854775808 ≤ c ∧ c ≤ 9223372036854775807) (n0 : 0 < n) (n1 : n ≤ 1000000) (hp : pk c n = p) :
    Calls Try.prog 9 #[.int .i64 c, .int .i64 n] w fun e w' => e = .returned (.int .i64 p) ∧ w' = w := by
  subst hp; exact pick_any c n w hc.1 hc.2 n0 n1

end Go.Proofs.Ytdjjgloloahlgaa
