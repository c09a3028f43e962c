/- What the reference's Fit and Below compute: the same least divisors by scan. For every two words. -/
import Derived.Test.YtmgpfahafadldaaScale
namespace Go.Proofs.Ytmgpfahafadldaa
open Go.RowKit

theorem seek_bad (r want : Int) (b : Bool) (w : World) (hb : 1099511627776 < r ∨ want = 0) :
    Calls Try.prog 25 #[.int .u64 r, .int .u64 want, .bool b] w fun e w' => e = pairE 0 1 ∧ w' = w := by
  by_cases h1 : 1099511627776 < r
  · clear hb
    go_enter Try.func25, Try.ntmps25
    go_wp2
    go_ret2
    exact ⟨rfl, rfl⟩
  · have h2 : want = 0 := by omega
    clear hb
    subst h2
    go_enter Try.func25, Try.ntmps25
    go_wp2
    go_ret2
    exact ⟨rfl, rfl⟩

theorem eqP_yes {want q : Int} (h : eqP want q = true) : (q == want) = true := by simpa [eqP] using h
theorem eqP_no {want q : Int} (h : ¬ eqP want q = true) : (q == want) = false := by simpa [eqP] using h
theorem leP_of {want q : Int} (h : leP want q = true) : q ≤ want := by simpa [leP] using h
theorem leP_no {want q : Int} (h : ¬ leP want q = true) : want < q := by simp [leP] at h; exact h

set_option maxRecDepth 100000 in
theorem seek_eq (r want : Int) (w : World) (h0 : 0 ≤ r) (h1 : r ≤ 1099511627776) (h2 : 0 < want) :
    Calls Try.prog 25 #[.int .u64 r, .int .u64 want, .bool false] w fun e w' => e = pairE (found (eqP want) r) (errOf (found (eqP want) r)) ∧ w' = w := by
  have hz : (want == 0) = false := by simp; omega
  go_enter Try.func25, Try.ntmps25
  go_wp2_with fail
  go_loop [8] (fun c => ∃ k n : Nat, n + k = 1000 ∧ c = .int .i64 (k + 1) ∧ Hid (found (eqP want) r = scan (eqP want) r n k)) (fun c => 1001 - (intOf c).toNat)
  case atStart => exact ⟨0, 1000, rfl, rfl, rfl⟩
  case round =>
    obtain ⟨k, n, hk, rfl, hs⟩ := hrel
    have hk1 : k ≤ 1000 := by omega
    have HK := Lib.hid hk
    clear hk
    by_cases hlt : k < 1000
    · by_cases hp : eqP want (r / ((k : Int) + 1)) = true
      · have hq := eqP_yes hp
        have HP := Lib.hid hp
        clear hp
        go_wp2_with fail
        go_ret2
        exact ⟨pairE_of (scan_now hs.out HK.out hlt HP.out).1 (scan_now hs.out HK.out hlt HP.out).2, rfl⟩
      · have hq := eqP_no hp
        have HP := Lib.hid hp
        clear hp
        go_wp2_with fail
        go_round
        case rel =>
          obtain ⟨m, hm, hm2⟩ := scan_next hs.out HK.out hlt HP.out
          exact ⟨k + 1, m, hm, by go_num, hm2⟩
        case measure => simp [intOf]; omega
    · go_wp2_with fail
      go_ret2
      exact ⟨pairE_of (scan_none hs.out HK.out hlt).1 (scan_none hs.out HK.out hlt).2, rfl⟩

set_option maxRecDepth 100000 in
theorem seek_le (r want : Int) (w : World) (h0 : 0 ≤ r) (h1 : r ≤ 1099511627776) (h2 : 0 < want) :
    Calls Try.prog 25 #[.int .u64 r, .int .u64 want, .bool true] w fun e w' => e = pairE (found (leP want) r) (errOf (found (leP want) r)) ∧ w' = w := by
  have hz : (want == 0) = false := by simp; omega
  go_enter Try.func25, Try.ntmps25
  go_wp2_with fail
  go_loop [8] (fun c => ∃ k n : Nat, n + k = 1000 ∧ c = .int .i64 (k + 1) ∧ Hid (found (leP want) r = scan (leP want) r n k)) (fun c => 1001 - (intOf c).toNat)
  case atStart => exact ⟨0, 1000, rfl, rfl, rfl⟩
  case round =>
    obtain ⟨k, n, hk, rfl, hs⟩ := hrel
    have hk1 : k ≤ 1000 := by omega
    have HK := Lib.hid hk
    clear hk
    by_cases hlt : k < 1000
    · by_cases hp : leP want (r / ((k : Int) + 1)) = true
      · have hq := leP_of hp
        have HP := Lib.hid hp
        clear hp
        by_cases he : (r / ((k : Int) + 1) == want) = true
        · go_wp2_with fail
          go_ret2
          exact ⟨pairE_of (scan_now hs.out HK.out hlt HP.out).1 (scan_now hs.out HK.out hlt HP.out).2, rfl⟩
        · have he2 : (r / ((k : Int) + 1) == want) = false := by simpa using he
          have hl : r / ((k : Int) + 1) < want := by simp at he2; omega
          clear he hq
          go_wp2_with fail
          go_ret2
          exact ⟨pairE_of (scan_now hs.out HK.out hlt HP.out).1 (scan_now hs.out HK.out hlt HP.out).2, rfl⟩
      · have hq := leP_no hp
        have he2 : (r / ((k : Int) + 1) == want) = false := by simp; omega
        have HP := Lib.hid hp
        clear hp
        go_wp2_with fail
        go_round
        case rel =>
          obtain ⟨m, hm, hm2⟩ := scan_next hs.out HK.out hlt HP.out
          exact ⟨k + 1, m, hm, by go_num, hm2⟩
        case measure => simp [intOf]; omega
    · go_wp2_with fail
      go_ret2
      exact ⟨pairE_of (scan_none hs.out HK.out hlt).1 (scan_none hs.out HK.out hlt).2, rfl⟩

theorem ref_fit_bad (r want : Int) (w : World) (hb : 1099511627776 < r ∨ want = 0) :
    Calls Try.prog 18 #[.int .u64 r, .int .u64 want] w fun e w' => e = pairE 0 1 ∧ w' = w := by
  have H := Lib.hid hb
  clear hb
  go_enter Try.func18, Try.ntmps18
  go_wp2_with (go_at_call 25; refine (seek_bad _ _ _ _ H.out).mono ?_; rintro e w' ⟨rfl, rfl⟩)
  go_ret2
  exact ⟨rfl, rfl⟩

theorem ref_below_bad (r want : Int) (w : World) (hb : 1099511627776 < r ∨ want = 0) :
    Calls Try.prog 19 #[.int .u64 r, .int .u64 want] w fun e w' => e = pairE 0 1 ∧ w' = w := by
  have H := Lib.hid hb
  clear hb
  go_enter Try.func19, Try.ntmps19
  go_wp2_with (go_at_call 25; refine (seek_bad _ _ _ _ H.out).mono ?_; rintro e w' ⟨rfl, rfl⟩)
  go_ret2
  exact ⟨rfl, rfl⟩

theorem ref_fit_any (r want : Int) (w : World) (h0 : 0 ≤ r) (h1 : r ≤ 1099511627776) (h2 : 0 < want) :
    Calls Try.prog 18 #[.int .u64 r, .int .u64 want] w fun e w' => e = pairE (found (eqP want) r) (errOf (found (eqP want) r)) ∧ w' = w := by
  go_enter Try.func18, Try.ntmps18
  go_wp2_with (go_at_call 25; refine (seek_eq _ _ _ h0 h1 h2).mono ?_; rintro e w' ⟨rfl, rfl⟩)
  go_ret2
  exact ⟨rfl, rfl⟩

theorem ref_below_any (r want : Int) (w : World) (h0 : 0 ≤ r) (h1 : r ≤ 1099511627776) (h2 : 0 < want) :
    Calls Try.prog 19 #[.int .u64 r, .int .u64 want] w fun e w' => e = pairE (found (leP want) r) (errOf (found (leP want) r)) ∧ w' = w := by
  go_enter Try.func19, Try.ntmps19
  go_wp2_with (go_at_call 25; refine (seek_le _ _ _ h0 h1 h2).mono ?_; rintro e w' ⟨rfl, rfl⟩)
  go_ret2
  exact ⟨rfl, rfl⟩

end Go.Proofs.Ytmgpfahafadldaa
