/- What rate.Fit, rate.Below and the reference's seek compute: the least divisor by scan, or what is wrong. For every two words. -/
import Derived.Test.YtmgpfahafadldaaBase
import Derived.Test.YtmgpfahafadldaaPlain
import Derived.LoopTactic
import Derived.Outline
import Derived.WalkLawsBesides
import Derived.WalkSpells
namespace Go.Proofs.Ytmgpfahafadldaa
open Go.RowKit

theorem eq_any (got want : Int) (a : Addr) (w : World) (hc : w.cell? a = some (.int .u64 want)) :
    Calls Try.prog 22 #[.int .u64 got, .pointer (some a)] w fun e w' => e = .returned (.bool (eqP want got)) ∧ w' = w := by
  go_enter Try.func22, Try.ntmps22
  go_wp2
  go_ret
  exact ⟨by simp [eqP]; rfl, rfl⟩

theorem le_any (got want : Int) (a : Addr) (w : World) (hc : w.cell? a = some (.int .u64 want)) :
    Calls Try.prog 23 #[.int .u64 got, .pointer (some a)] w fun e w' => e = .returned (.bool (leP want got)) ∧ w' = w := by
  go_enter Try.func23, Try.ntmps23
  go_wp2
  go_ret
  exact ⟨by simp [leP], rfl⟩


theorem mkf (fn : Fn) (first cap : Array Value) (w : World) : (Instr.makeFunc fn first cap).run Try.prog w = .ok (.func fn first cap) w := rfl

abbrev pairE (d e : Int) : Ending := .returned (.tuple #[.int .i64 d, .int .i64 e])

theorem pairE_of {a b c d : Int} (h : a = c) (k : b = d) : Ending.returned (.tuple #[.int .i64 a, .int .i64 b]) = pairE c d := by rw [h, k]

theorem divisor_bad (f : Nat) (r want : Int) (a : Addr) (w : World) (hb : 1099511627776 < r ∨ want = 0) :
    Calls Try.prog 21 #[.int .u64 r, .int .u64 want, .func (.func f) #[] #[.pointer (some a)]] w fun e w' => e = pairE 0 1 ∧ w' = w := by
  by_cases h1 : 1099511627776 < r
  · go_enter Try.func21, Try.ntmps21
    go_wp2
    go_ret2
    exact ⟨rfl, rfl⟩
  · have h2 : want = 0 := by omega
    clear hb
    subst h2
    go_enter Try.func21, Try.ntmps21
    go_wp2
    go_ret2
    exact ⟨rfl, rfl⟩

set_option maxRecDepth 100000 in
theorem divisor_eq (r want : Int) (a : Addr) (w : World) (h0 : 0 ≤ r) (h1 : r ≤ 1099511627776) (h2 : 0 < want) (hc : w.cell? a = some (.int .u64 want)) :
    Calls Try.prog 21 #[.int .u64 r, .int .u64 want, .func (.func 22) #[] #[.pointer (some a)]] w fun e w' => e = pairE (found (eqP want) r) (errOf (found (eqP want) r)) ∧ w' = w := by
  have hz : (want == 0) = false := by simp; omega
  go_enter Try.func21, Try.ntmps21
  go_wp2_with fail
  go_loop [15] (fun c => ∃ k n : Nat, n + k = 1000 ∧ c = .int .i64 k ∧ Hid (found (eqP want) r = scan (eqP want) r n k)) (fun c => 1000 - (intOf c).toNat)
  case atStart => exact ⟨0, 1000, rfl, rfl, rfl⟩
  case round =>
    obtain ⟨k, n, hk, rfl, hs⟩ := hrel
    have hk1 : k ≤ 1000 := by omega
    have HK := Lib.hid hk
    clear hk
    by_cases hlt : k < 1000
    · by_cases hp : eqP want (r / ((k : Int) + 1)) = true
      · go_wp2_with (go_at_call 22; refine (eq_any _ _ _ _ hc).mono ?_; rintro e w' ⟨rfl, rfl⟩)
        go_ret2
        exact ⟨pairE_of (scan_now hs.out HK.out hlt hp).1 (scan_now hs.out HK.out hlt hp).2, rfl⟩
      · go_wp2_with (go_at_call 22; refine (eq_any _ _ _ _ hc).mono ?_; rintro e w' ⟨rfl, rfl⟩)
        go_round
        case rel =>
          obtain ⟨m, hm, hm2⟩ := scan_next hs.out HK.out hlt hp
          exact ⟨k + 1, m, hm, by go_num, hm2⟩
        case measure => simp [intOf]; omega
    · go_wp2
      go_ret2
      exact ⟨pairE_of (scan_none hs.out HK.out hlt).1 (scan_none hs.out HK.out hlt).2, rfl⟩

set_option maxRecDepth 100000 in
theorem divisor_le (r want : Int) (a : Addr) (w : World) (h0 : 0 ≤ r) (h1 : r ≤ 1099511627776) (h2 : 0 < want) (hc : w.cell? a = some (.int .u64 want)) :
    Calls Try.prog 21 #[.int .u64 r, .int .u64 want, .func (.func 23) #[] #[.pointer (some a)]] w fun e w' => e = pairE (found (leP want) r) (errOf (found (leP want) r)) ∧ w' = w := by
  have hz : (want == 0) = false := by simp; omega
  go_enter Try.func21, Try.ntmps21
  go_wp2_with fail
  go_loop [15] (fun c => ∃ k n : Nat, n + k = 1000 ∧ c = .int .i64 k ∧ Hid (found (leP want) r = scan (leP want) r n k)) (fun c => 1000 - (intOf c).toNat)
  case atStart => exact ⟨0, 1000, rfl, rfl, rfl⟩
  case round =>
    obtain ⟨k, n, hk, rfl, hs⟩ := hrel
    have hk1 : k ≤ 1000 := by omega
    have HK := Lib.hid hk
    clear hk
    by_cases hlt : k < 1000
    · by_cases hp : leP want (r / ((k : Int) + 1)) = true
      · go_wp2_with (go_at_call 23; refine (le_any _ _ _ _ hc).mono ?_; rintro e w' ⟨rfl, rfl⟩)
        go_ret2
        exact ⟨pairE_of (scan_now hs.out HK.out hlt hp).1 (scan_now hs.out HK.out hlt hp).2, rfl⟩
      · go_wp2_with (go_at_call 23; refine (le_any _ _ _ _ hc).mono ?_; rintro e w' ⟨rfl, rfl⟩)
        go_round
        case rel =>
          obtain ⟨m, hm, hm2⟩ := scan_next hs.out HK.out hlt hp
          exact ⟨k + 1, m, hm, by go_num, hm2⟩
        case measure => simp [intOf]; omega
    · go_wp2
      go_ret2
      exact ⟨pairE_of (scan_none hs.out HK.out hlt).1 (scan_none hs.out HK.out hlt).2, rfl⟩


theorem fit_bad (r want : Int) (w : World) (hb : 1099511627776 < r ∨ want = 0) :
    Calls Try.prog 12 #[.int .u64 r, .int .u64 want] w fun e w' => e = pairE 0 1 ∧ Mild w w' := by
  have H := Lib.hid hb
  clear hb
  have hmf := mkf
  go_enter Try.func12, Try.ntmps12
  go_wp2_with (go_at_call 21; refine (divisor_bad _ _ _ _ _ H.out).mono ?_; rintro e w' ⟨rfl, rfl⟩)
  go_ret2
  exact ⟨rfl, (Mild.refl _).alloc _ _⟩

theorem below_bad (r want : Int) (w : World) (hb : 1099511627776 < r ∨ want = 0) :
    Calls Try.prog 13 #[.int .u64 r, .int .u64 want] w fun e w' => e = pairE 0 1 ∧ Mild w w' := by
  have H := Lib.hid hb
  clear hb
  have hmf := mkf
  go_enter Try.func13, Try.ntmps13
  go_wp2_with (go_at_call 21; refine (divisor_bad _ _ _ _ _ H.out).mono ?_; rintro e w' ⟨rfl, rfl⟩)
  go_ret2
  exact ⟨rfl, (Mild.refl _).alloc _ _⟩

theorem fit_any (r want : Int) (w : World) (h0 : 0 ≤ r) (h1 : r ≤ 1099511627776) (h2 : 0 < want) :
    Calls Try.prog 12 #[.int .u64 r, .int .u64 want] w fun e w' => e = pairE (found (eqP want) r) (errOf (found (eqP want) r)) ∧ Mild w w' := by
  have hmf := mkf
  go_enter Try.func12, Try.ntmps12
  go_wp2_with (go_at_call 21; refine (divisor_eq _ _ _ _ h0 h1 h2 (by simp)).mono ?_; rintro e w' ⟨rfl, rfl⟩)
  go_ret2
  exact ⟨rfl, (Mild.refl _).alloc _ _⟩

theorem below_any (r want : Int) (w : World) (h0 : 0 ≤ r) (h1 : r ≤ 1099511627776) (h2 : 0 < want) :
    Calls Try.prog 13 #[.int .u64 r, .int .u64 want] w fun e w' => e = pairE (found (leP want) r) (errOf (found (leP want) r)) ∧ Mild w w' := by
  have hmf := mkf
  go_enter Try.func13, Try.ntmps13
  go_wp2_with (go_at_call 21; refine (divisor_le _ _ _ _ h0 h1 h2 (by simp)).mono ?_; rintro e w' ⟨rfl, rfl⟩)
  go_ret2
  exact ⟨rfl, (Mild.refl _).alloc _ _⟩

end Go.Proofs.Ytmgpfahafadldaa
