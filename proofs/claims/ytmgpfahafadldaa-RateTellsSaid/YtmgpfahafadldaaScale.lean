/- What rate.Scale, the reference's Scale, both Gcds, pick and the example at the laws' head compute. For every input. -/
import Derived.Test.YtmgpfahafadldaaFit
import Derived.Deep.QuietTactic
import Derived.BigQuiet
import Derived.Deep.RegionWith
namespace Go.Proofs.Ytmgpfahafadldaa
open Go.RowKit

abbrev pairU (d e : Int) : Ending := .returned (.tuple #[.int .u64 d, .int .i64 e])

theorem shown_any (w : World) : Calls Try.prog 11 #[] w fun e w' => e = .returned (.bool true) ∧ Mild w w' := by
  have hv : found (eqP 33) 100 = 3 := by decide +kernel
  have he : errOf 3 = 0 := rfl
  go_enter Try.func11, Try.ntmps11
  go_wp2_with (go_at_call 12; refine (fit_any 100 33 _ (by omega) (by omega) (by omega)).mono ?_; rintro e w' ⟨rfl, hm⟩)
  go_ret
  exact ⟨rfl, hm⟩

theorem factor_yes (n : Int) (w : World) (h0 : 1 ≤ n) (h1 : n ≤ 1000) : Calls Try.prog 24 #[.int .i64 n] w fun e w' => e = .returned (.bool true) ∧ w' = w := by
  go_enter Try.func24, Try.ntmps24
  go_wp2
  go_ret
  exact ⟨rfl, rfl⟩

theorem factor_no (n : Int) (w : World) (h : n < 1 ∨ 1000 < n) : Calls Try.prog 24 #[.int .i64 n] w fun e w' => e = .returned (.bool false) ∧ w' = w := by
  by_cases h1 : n < 1
  · clear h
    go_enter Try.func24, Try.ntmps24
    go_wp2
    go_ret
    exact ⟨rfl, rfl⟩
  · have h2 : 1000 < n := by omega
    clear h
    go_enter Try.func24, Try.ntmps24
    go_wp2
    go_ret
    exact ⟨by simp; omega, rfl⟩

theorem scale_ok (r m d : Int) (w : World) (h0 : 0 ≤ r) (h1 : r ≤ 1099511627776) (m0 : 1 ≤ m) (m1 : m ≤ 1000) (d0 : 1 ≤ d) (d1 : d ≤ 1000) (h : r * m / d ≤ 1099511627776) :
    Calls Try.prog 16 #[.int .u64 r, .int .i64 m, .int .i64 d] w fun e w' => e = pairU (r * m / d) 0 ∧ w' = w := by
  have p0 : 0 ≤ r * m := Int.mul_nonneg h0 (by omega)
  have p1 : r * m ≤ 1099511627776 * 1000 := Int.mul_le_mul h1 m1 (by omega) (by omega)
  go_enter Try.func16, Try.ntmps16
  go_wp2_with (first | (go_at_call_of 24 m; refine (factor_yes m _ m0 m1).mono ?_; rintro e w' ⟨rfl, rfl⟩) | (go_at_call_of 24 d; refine (factor_yes d _ d0 d1).mono ?_; rintro e w' ⟨rfl, rfl⟩))
  go_ret2
  exact ⟨rfl, rfl⟩


theorem scale_over (r m d : Int) (w : World) (h0 : 0 ≤ r) (h1 : r ≤ 1099511627776) (m0 : 1 ≤ m) (m1 : m ≤ 1000) (d0 : 1 ≤ d) (d1 : d ≤ 1000) (h : 1099511627776 < r * m / d) :
    Calls Try.prog 16 #[.int .u64 r, .int .i64 m, .int .i64 d] w fun e w' => e = pairU 0 3 ∧ w' = w := by
  have p0 : 0 ≤ r * m := Int.mul_nonneg h0 (by omega)
  have p1 : r * m ≤ 1099511627776 * 1000 := Int.mul_le_mul h1 m1 (by omega) (by omega)
  go_enter Try.func16, Try.ntmps16
  go_wp2_with (go_at_call 24; refine (factor_yes _ _ (by omega) (by omega)).mono ?_; rintro e w' ⟨rfl, rfl⟩)
  go_ret2
  exact ⟨rfl, rfl⟩

theorem scale_bad (r m d : Int) (w : World) (h : 1099511627776 < r ∨ m < 1 ∨ 1000 < m ∨ d < 1 ∨ 1000 < d) :
    Calls Try.prog 16 #[.int .u64 r, .int .i64 m, .int .i64 d] w fun e w' => e = pairU 0 1 ∧ w' = w := by
  by_cases h1 : 1099511627776 < r
  · clear h
    go_enter Try.func16, Try.ntmps16
    go_wp2_with fail
    go_ret2
    exact ⟨rfl, rfl⟩
  · by_cases h2 : m < 1 ∨ 1000 < m
    · clear h
      have H := Lib.hid h2
      clear h2
      go_enter Try.func16, Try.ntmps16
      go_wp2_with (go_at_call 24; refine (factor_no _ _ H.out).mono ?_; rintro e w' ⟨rfl, rfl⟩)
      go_ret2
      exact ⟨rfl, rfl⟩
    · have m0 : 1 ≤ m := by omega
      have m1 : m ≤ 1000 := by omega
      have H : d < 1 ∨ 1000 < d := by omega
      have H := Lib.hid H
      clear h h2
      go_enter Try.func16, Try.ntmps16
      go_wp2_with (first | (go_at_call_of 24 m; refine (factor_yes _ _ (by omega) (by omega)).mono ?_; rintro e w' ⟨rfl, rfl⟩) | (go_at_call_of 24 d; refine (factor_no _ _ H.out).mono ?_; rintro e w' ⟨rfl, rfl⟩))
      go_ret2
      exact ⟨rfl, rfl⟩

theorem ref_scale_ok (r m d : Int) (w : World) (h0 : 0 ≤ r) (h1 : r ≤ 1099511627776) (m0 : 1 ≤ m) (m1 : m ≤ 1000) (d0 : 1 ≤ d) (d1 : d ≤ 1000) (h : r * m / d ≤ 1099511627776) :
    Calls Try.prog 17 #[.int .u64 r, .int .i64 m, .int .i64 d] w fun e w' => e = pairU (r * m / d) 0 ∧ w' = w := by
  have p0 : 0 ≤ r * m := Int.mul_nonneg h0 (by omega)
  have p1 : r * m ≤ 1099511627776 * 1000 := Int.mul_le_mul h1 m1 (by omega) (by omega)
  go_enter Try.func17, Try.ntmps17
  go_wp2_with fail
  go_ret2
  exact ⟨rfl, rfl⟩

theorem ref_scale_over (r m d : Int) (w : World) (h0 : 0 ≤ r) (h1 : r ≤ 1099511627776) (m0 : 1 ≤ m) (m1 : m ≤ 1000) (d0 : 1 ≤ d) (d1 : d ≤ 1000) (h : 1099511627776 < r * m / d) :
    Calls Try.prog 17 #[.int .u64 r, .int .i64 m, .int .i64 d] w fun e w' => e = pairU 0 3 ∧ w' = w := by
  have p0 : 0 ≤ r * m := Int.mul_nonneg h0 (by omega)
  have p1 : r * m ≤ 1099511627776 * 1000 := Int.mul_le_mul h1 m1 (by omega) (by omega)
  go_enter Try.func17, Try.ntmps17
  go_wp2_with fail
  go_ret2
  exact ⟨rfl, rfl⟩

theorem ref_scale_bad (r m d : Int) (w : World) (h : 1099511627776 < r ∨ m < 1 ∨ 1000 < m ∨ d < 1 ∨ 1000 < d) :
    Calls Try.prog 17 #[.int .u64 r, .int .i64 m, .int .i64 d] w fun e w' => e = pairU 0 1 ∧ w' = w := by
  by_cases h1 : 1099511627776 < r <;> by_cases h2 : m < 1 <;> by_cases h3 : 1000 < m <;> by_cases h4 : d < 1 <;> by_cases h5 : 1000 < d <;> first | (exfalso; omega) | skip
  all_goals
    clear h
    go_enter Try.func17, Try.ntmps17
    go_wp2_with fail
    go_ret2
    exact ⟨rfl, rfl⟩

def pk (c n : Int) : Int := (if c < 0 then -(c + 1) else c) % n
theorem pk_neg {c n : Int} (h : c < 0) : pk c n = (-(c + 1)) % n := by rw [pk, if_pos h]
theorem pk_pos {c n : Int} (h : ¬ c < 0) : pk c n = c % n := by rw [pk, if_neg h]
theorem pk_lo (c n : Int) (h : 0 < n) : 0 ≤ pk c n := Int.emod_nonneg _ (by omega)
theorem pk_hi (c n : Int) (h : 0 < n) : pk c n < n := Int.emod_lt_of_pos _ h

theorem ret_i64 {a b : Int} (h : a = b) : Ending.returned (.int .i64 a) = .returned (.int .i64 b) := by rw [h]
theorem ret_u64 {a b : Int} (h : a = b) : Ending.returned (.int .u64 a) = .returned (.int .u64 b) := by rw [h]

theorem pick_any (c n : Int) (w : World) (c0 : -9223372036854775808 ≤ c) (c1 : c ≤ 9223372036854775807) (n0 : 0 < n) (n1 : n ≤ 1000) :
    Calls Try.prog 14 #[.int .i64 c, .int .i64 n] w fun e w' => e = .returned (.int .i64 (pk c n)) ∧ w' = w := by
  by_cases h : c < 0
  · go_enter Try.func14, Try.ntmps14
    go_wp2_with fail
    go_ret
    exact ⟨ret_i64 (by rw [pk_neg h, ← Int.neg_tmod, Int.tmod_eq_emod_of_nonneg (by omega)]), rfl⟩
  · go_enter Try.func14, Try.ntmps14
    go_wp2_with fail
    go_ret
    exact ⟨ret_i64 (pk_pos (by omega)).symm, rfl⟩

def gcd (a b : Int) : Int := ((Nat.gcd a.toNat b.toNat : Nat) : Int)

theorem gcd_zero {a : Int} (h : 0 ≤ a) : gcd a 0 = a := by unfold gcd; simp; omega

theorem gcd_step {a b : Int} (ha : 0 ≤ a) (hb : 0 < b) : gcd a b = gcd b (a % b) := by
  unfold gcd
  have e : (a % b).toNat = a.toNat % b.toNat := by
    obtain ⟨x, rfl⟩ := Int.eq_ofNat_of_zero_le ha
    obtain ⟨y, rfl⟩ := Int.eq_ofNat_of_zero_le (Int.le_of_lt hb)
    rfl
  rw [e, Nat.gcd_comm, Nat.gcd_rec, Nat.gcd_comm]

theorem gcd_any (a b : Int) (w : World) (ha : 0 ≤ a) (hb : 0 ≤ b) :
    Calls Try.prog 15 #[.int .u64 a, .int .u64 b] w fun e w' => e = .returned (.int .u64 (gcd a b)) ∧ ∃ n, w' = w.drewN n := by
  go_enter Try.func15, Try.ntmps15
  go_wp2
  go_loopw [0, 1] (fun u v wr => ∃ x y : Int, 0 ≤ x ∧ 0 ≤ y ∧ u = .int .u64 x ∧ v = .int .u64 y ∧ Hid (gcd a b = gcd x y) ∧ ∃ n, wr = w.drewN n) (fun _ v _ => (intOf v).toNat)
  case atStart => exact ⟨a, b, ha, hb, rfl, rfl, rfl, 0, rfl⟩
  case round =>
    obtain ⟨x, y, hx, hy, rfl, rfl, hs, m, rfl⟩ := hrel
    by_cases h0 : y = 0
    · subst h0
      go_wp2
      go_ret
      exact ⟨ret_u64 (by rw [hs.out, gcd_zero hx]), m, rfl⟩
    · have hz : (y != 0) = true := by simp; exact h0
      have hp : 1 ≤ y := by omega
      have hml := Int.emod_lt_of_pos x (show 0 < y by omega)
      have hmn := Int.emod_nonneg x h0
      go_wp2
      go_quiet (fail)
      go_wp2
      go_roundw
      case rel => exact ⟨y, x % y, hy, hmn, rfl, rfl, by rw [Hid, hs.out, gcd_step hx hp], m + nq, World.drewN_drewN _ _ _⟩
      case measure => simp [intOf]; omega

theorem ref_gcd_any (a b : Int) (w : World) (ha : 0 ≤ a) (hb : 0 ≤ b) :
    Calls Try.prog 20 #[.int .u64 a, .int .u64 b] w fun e w' => e = .returned (.int .u64 (gcd a b)) ∧ w' = w := by
  go_enter Try.func20, Try.ntmps20
  go_wp2
  go_loop [0, 1] (fun u v => ∃ x y : Int, 0 ≤ x ∧ 0 ≤ y ∧ u = .int .u64 x ∧ v = .int .u64 y ∧ Hid (gcd a b = gcd x y)) (fun _ v => (intOf v).toNat)
  case atStart => exact ⟨a, b, ha, hb, rfl, rfl, rfl⟩
  case round =>
    obtain ⟨x, y, hx, hy, rfl, rfl, hs⟩ := hrel
    by_cases h0 : y = 0
    · subst h0
      go_wp2
      go_ret
      exact ⟨ret_u64 (by rw [hs.out, gcd_zero hx]), rfl⟩
    · have hz : (y != 0) = true := by simp; exact h0
      have hp : 1 ≤ y := by omega
      have hml := Int.emod_lt_of_pos x (show 0 < y by omega)
      have hmn := Int.emod_nonneg x h0
      go_wp2
      go_round
      case rel => exact ⟨y, x % y, hy, hmn, rfl, rfl, by rw [Hid, hs.out, gcd_step hx hp]⟩
      case measure => simp [intOf]; omega

end Go.Proofs.Ytmgpfahafadldaa
