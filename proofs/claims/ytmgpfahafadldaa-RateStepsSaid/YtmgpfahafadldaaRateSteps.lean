/- RateSteps: for every input the law returns true, and each argument reads afterwards as it read before. No condition. -/
import Derived.Test.YtmgpfahafadldaaRows
import Derived.WalkKit
import Derived.ProofKit
import Derived.OpenShut
import Derived.Test.YtmgpfahafadldaaScale
namespace Go.Proofs.Ytmgpfahafadldaa.rateSteps
open Go.ChangeShapes Go.WideShapes Go.ChangeAt Go.RowKit
set_option linter.unusedVariables false      -- a walk need not use every 'w<i>' (that an integer argument fits its kind)

theorem own : ownKnob Try.prog.godebug = none := by kernel_rfl

theorem step_facts (n k : Int) (hn : 0 ≤ n) (k0 : 1 ≤ k) (k1 : k ≤ 1000) (hq : 0 < n / k) :
    1 ≤ found (eqP (n / k)) n ∧ found (eqP (n / k)) n ≤ k ∧ (n / found (eqP (n / k)) n == n / k) = true ∧ (found (eqP (n / k)) n = 1 ∨ (1 < found (eqP (n / k)) n ∧ n / k < n / (found (eqP (n / k)) n - 1))) ∧ found (leP (n / k)) n = found (eqP (n / k)) n := by
  rcases fit_facts n (n / k) with ⟨d1, d2⟩ | ⟨d1, d2, d3, d4⟩
  · exact absurd rfl (d2 k k0 k1)
  · refine ⟨d1, ?_, by simpa using d3, ?_, (both_facts n (n / k) hn d1).symm⟩
    · by_cases c : k < found (eqP (n / k)) n
      · exact absurd rfl (d4 k k0 c)
      · omega
    · by_cases h1 : found (eqP (n / k)) n = 1
      · exact Or.inl h1
      · right
        have a := d4 (found (eqP (n / k)) n - 1) (by omega) (by omega)
        have b := div_anti n hn (show 0 < found (eqP (n / k)) n - 1 by omega) (show found (eqP (n / k)) n - 1 ≤ found (eqP (n / k)) n by omega)
        exact ⟨by omega, by omega⟩

theorem zero_walk (r c : Int) (w : World) (n0 : 0 ≤ r % 1099511627777) (n1 : r % 1099511627777 ≤ 1099511627776) (r0 : 0 ≤ r) (c0 : -9223372036854775808 ≤ c) (c1 : c ≤ 9223372036854775807)
    (k0 : 0 ≤ pk c 1000) (k1 : pk c 1000 < 1000) (hq : (r % 1099511627777 / (1 + pk c 1000) == 0) = true) :
    Calls Try.prog 4 #[.int .u64 r, .int .i64 c] w fun e w' => e = .returned (.bool true) ∧ Mild w w' := by
  have H := Lib.hid (show 1099511627776 < r % 1099511627777 ∨ r % 1099511627777 / (1 + pk c 1000) = 0 from Or.inr (by simpa using hq))
  go_enter Try.func4, Try.ntmps4
  go_wp2_with (first | (go_at_call 11; refine (shown_any _).mono ?_; rintro e w1 ⟨rfl, hm1⟩) | (go_at_call 12; refine (fit_bad _ _ _ H.out).mono ?_; rintro e w2 ⟨rfl, hm2⟩) | (go_at_call 14; refine (pick_any _ _ _ c0 c1 (by omega) (by omega)).mono ?_; rintro e w' ⟨rfl, rfl⟩))
  go_ret
  exact ⟨rfl, hm1.trans hm2⟩

set_option maxHeartbeats 1000000 in
theorem some_walk (r c : Int) (w : World) (n0 : 0 ≤ r % 1099511627777) (n1 : r % 1099511627777 ≤ 1099511627776) (r0 : 0 ≤ r) (c0 : -9223372036854775808 ≤ c) (c1 : c ≤ 9223372036854775807)
    (k0 : 0 ≤ pk c 1000) (k1 : pk c 1000 < 1000) (hq : 0 < r % 1099511627777 / (1 + pk c 1000)) (f : Int) (hf : Hid (found (eqP (r % 1099511627777 / (1 + pk c 1000))) (r % 1099511627777) = f))
    (hg : Hid (found (leP (r % 1099511627777 / (1 + pk c 1000))) (r % 1099511627777) = f)) (f0 : 1 ≤ f) (f1 : f ≤ 1 + pk c 1000)
    (hd : (r % 1099511627777 / f == r % 1099511627777 / (1 + pk c 1000)) = true) (he : errOf f = 0)
    (hs : (f == 1) = true ∨ ((f == 1) = false ∧ 1 < f ∧ r % 1099511627777 / (1 + pk c 1000) < r % 1099511627777 / (f - 1))) :
    Calls Try.prog 4 #[.int .u64 r, .int .i64 c] w fun e w' => e = .returned (.bool true) ∧ Mild w w' := by
  have hz : (r % 1099511627777 / (1 + pk c 1000) == 0) = false := by simp; omega
  rcases hs with hs | ⟨hs, hs1, hs2⟩
  all_goals
    go_enter Try.func4, Try.ntmps4
    go_wp2_with (first | (go_at_call 11; refine (shown_any _).mono ?_; rintro e w1 ⟨rfl, hm1⟩) | (go_at_call 12; refine (fit_any _ _ _ n0 n1 hq).mono ?_; rw [hf.out]; rintro e w2 ⟨rfl, hm2⟩) | (go_at_call 13; refine (below_any _ _ _ n0 n1 hq).mono ?_; rw [hg.out]; rintro e w3 ⟨rfl, hm3⟩) | (go_at_call 14; refine (pick_any _ _ _ c0 c1 (by omega) (by omega)).mono ?_; rintro e w' ⟨rfl, rfl⟩))
    go_ret
    exact ⟨rfl, (hm1.trans hm2).trans hm3⟩

/-! ### STEP 1: THE WALK: the Go text returns true. 'Grown w w'': the world has at most new blocks (Derived/RowKit3.lean). Part the cases AHEAD of 'go_enter' where a test parts the walk; take each callee by a contract of your own. -/
theorem walk (a0 : Int) (a1 : Int) (w0 : (Lit.int .u64 a0).wf = true) (w1 : (Lit.int .i64 a1).wf = true) (w : World) :
    Calls Try.prog 4 #[.int .u64 a0, .int .i64 a1] w fun e w' => e = .returned (.bool true) ∧ Grown w w' := by
  obtain ⟨r0, r1⟩ := bounds_u64 w0
  obtain ⟨c0, c1⟩ := bounds_i64 w1
  have k0 := pk_lo a1 1000 (by omega)
  have k1 := pk_hi a1 1000 (by omega)
  have n0 : 0 ≤ a0 % 1099511627777 := by omega
  have n1 : a0 % 1099511627777 ≤ 1099511627776 := by omega
  have q0 : 0 ≤ a0 % 1099511627777 / (1 + pk a1 1000) := Int.ediv_nonneg n0 (by omega)
  by_cases hq : a0 % 1099511627777 / (1 + pk a1 1000) = 0
  · exact (zero_walk a0 a1 w n0 n1 r0 c0 c1 k0 k1 (by simpa using hq)).mono fun e w' ⟨h, m⟩ => ⟨h, m.grown⟩
  · obtain ⟨f1, f2, f3, f4, f5⟩ := step_facts (a0 % 1099511627777) (1 + pk a1 1000) n0 (by omega) (by omega) (by omega)
    refine (some_walk a0 a1 w n0 n1 r0 c0 c1 k0 k1 (by omega) _ rfl f5 f1 f2 f3 (errOf_pos f1) ?_).mono fun e w' ⟨h, m⟩ => ⟨h, m.grown⟩
    rcases f4 with f4 | ⟨f4, f5⟩
    · exact Or.inl (by simpa using f4)
    · exact Or.inr ⟨by simp; omega, f4, f5⟩

/-! ### THE ROW's STEP: WRITTEN OUT: LEAVE IT -/
set_option maxRecDepth 100000 in
theorem lifted (os : Os) (started : os.Started) (H : Type) (enc : TypeId × Value → H) :
    ReturnsInHanded {} Try.checked os 4 .any (Rows.rateStepsSpec.pre6 enc Try.prog Try.f4 Rows.rateStepsRow.domain false) (Rows.rateStepsSpec.post enc Try.prog Try.f4 false true false false) := by
  refine returnsInHanded_of_change (C := Try.checked) own started (by kernel_rfl) Try.func4
    (ChangeSpec.witness6 (enc := enc) (C := Try.checked) false ⟨#[], #[.int .u64 0, .int .i64 0], []⟩ 8 (by kernel_rfl) (by kernel_rfl) (by kernel_rfl) (by kernel_rfl)) ?_
  intro W base args ds gs before hval0 hW hcnd _
  have hval : ∀ (j : Nat) t v, Try.f4.params[j]? = some t → args[j]? = some v → Value.okWide Try.prog W .any base t v := hval0
  have hW' := hW
  obtain ⟨p, q, hA0, hV, rfl, hfz, hnd⟩ := hW
  have hA : DataW.TrodAll enc Try.prog W 0 (fun _ => true) true Try.f4.params.toList args.toList ds p := hA0
  rw [Try.params4] at hA hval
  obtain ⟨v0, vs0, d0, ds0, p0, q0, hargs, rfl, rfl, h0, r0⟩ := trodAll_cons hA
  obtain ⟨v1, vs1, d1, ds1, p1, q1, rfl, rfl, rfl, h1, r1⟩ := trodAll_cons r0
  obtain ⟨rfl, rfl, rfl⟩ := trodAll_nil r1
  obtain rfl : args = #[v0, v1] := by cases args; simp_all
  obtain ⟨rfl, rfl⟩ := trodVars_none hV
  obtain ⟨a0, rfl, rfl, rfl, w0⟩ := open_int Try.underlying22 (hval 0 22 v0 rfl rfl) h0
  obtain ⟨a1, rfl, rfl, rfl, w1⟩ := open_int Try.underlying3 (hval 1 3 v1 rfl rfl) h1
  clear hA0 hval0
  simp only [List.append_nil] at hW'
  refine (walk a0 a1 w0 w1 W).mono fun e W' ⟨he, hg⟩ => ?_
  subst he
  exact ⟨_, rfl, post_of_same (pa := []) (pv := []) hW' (fun _ _ _ => (trodAll_cons_mk (shut_bool Try.underlying4 _) trodAll_mk0)) (fun sp _ => (trodAll_cons_mk (shut_int Try.underlying22 w0) (trodAll_cons_mk (shut_int Try.underlying3 w1) trodAll_mk0))) (fun _ _ => rfl) rfl
    (hg.frame _) hg.2.1 (ok_one (by kernel_rfl) rfl (okWide_bool_mk Try.underlying4 _))⟩

theorem over : Rows.rateStepsRow.holds Try.pinned (OpenSpec.ofChange Rows.rateStepsSpec) :=
  OpenClaim.holds_of_wide 4 Try.f4 rfl rfl rfl rfl rfl rfl rfl ⟨rfl, rfl, rfl, rfl, rfl⟩ rfl rfl rfl rfl rfl (by kernel_rfl) Try.func4 (by kernel_rfl)
    (of_decide_eq_true (by kernel_rfl)) (by unfold Func.isWrapper; first | (rw [if_pos (by decide +kernel)]; kernel_rfl) | (rw [if_neg (by decide +kernel)]; exact ⟨rfl, rfl⟩))
    (fun os started H enc _ => lifted os started H enc)

theorem proved : Rows.RateStepsSaid :=
  over
#print axioms proved
end Go.Proofs.Ytmgpfahafadldaa.rateSteps
