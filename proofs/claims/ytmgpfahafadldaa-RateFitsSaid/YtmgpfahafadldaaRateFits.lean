/- RateFits: for every input the law returns true, and each argument reads afterwards as it read before. No condition. -/
import Derived.Test.YtmgpfahafadldaaRows
import Derived.WalkKit
import Derived.ProofKit
import Derived.OpenShut
import Derived.Test.YtmgpfahafadldaaScale
namespace Go.Proofs.Ytmgpfahafadldaa.rateFits
open Go.ChangeShapes Go.WideShapes Go.ChangeAt Go.RowKit
set_option linter.unusedVariables false      -- a walk need not use every 'w<i>' (that an integer argument fits its kind)

theorem own : ownKnob Try.prog.godebug = none := by kernel_rfl

theorem bad_walk (r want c : Int) (w : World) (h : 1099511627776 < r ∨ want = 0) :
    Calls Try.prog 3 #[.int .u64 r, .int .u64 want, .int .i64 c] w fun e w' => e = .returned (.bool true) ∧ Mild w w' := by
  have H := Lib.hid h
  by_cases h1 : 1099511627776 < r
  · clear h
    go_enter Try.func3, Try.ntmps3
    go_wp2_with (first | (go_at_call 11; refine (shown_any _).mono ?_; rintro e w1 ⟨rfl, hm1⟩) | (go_at_call 12; refine (fit_bad _ _ _ H.out).mono ?_; rintro e w2 ⟨rfl, hm2⟩) | (go_at_call 13; refine (below_bad _ _ _ H.out).mono ?_; rintro e w3 ⟨rfl, hm3⟩))
    go_ret
    exact ⟨rfl, (hm1.trans hm2).trans hm3⟩
  · have h2 : (want == 0) = true := by simp; omega
    clear h
    go_enter Try.func3, Try.ntmps3
    go_wp2_with (first | (go_at_call 11; refine (shown_any _).mono ?_; rintro e w1 ⟨rfl, hm1⟩) | (go_at_call 12; refine (fit_bad _ _ _ H.out).mono ?_; rintro e w2 ⟨rfl, hm2⟩) | (go_at_call 13; refine (below_bad _ _ _ H.out).mono ?_; rintro e w3 ⟨rfl, hm3⟩))
    go_ret
    exact ⟨rfl, (hm1.trans hm2).trans hm3⟩

/-- The walk where nothing leads below. -/
theorem none_walk (r want c : Int) (w : World) (h0 : 0 ≤ r) (h1 : r ≤ 1099511627776) (h2 : 0 < want) (c0 : -9223372036854775808 ≤ c) (c1 : c ≤ 9223372036854775807)
    (k0 : 0 ≤ pk c 1000) (k1 : pk c 1000 < 1000) (hd : errOf (found (eqP want) r) = 9) (hb : errOf (found (leP want) r) = 9)
    (hq : want < r / (1 + pk c 1000)) (hn : (r / (1 + pk c 1000) != want) = true) :
    Calls Try.prog 3 #[.int .u64 r, .int .u64 want, .int .i64 c] w fun e w' => e = .returned (.bool true) ∧ Mild w w' := by
  have hz : (want == 0) = false := by simp; omega
  go_enter Try.func3, Try.ntmps3
  go_wp2_with (first | (go_at_call 11; refine (shown_any _).mono ?_; rintro e w1 ⟨rfl, hm1⟩) | (go_at_call 12; refine (fit_any _ _ _ h0 h1 h2).mono ?_; rintro e w2 ⟨rfl, hm2⟩) | (go_at_call 13; refine (below_any _ _ _ h0 h1 h2).mono ?_; rintro e w3 ⟨rfl, hm3⟩) | (go_at_call 14; refine (pick_any _ _ _ c0 c1 (by omega) (by omega)).mono ?_; rintro e w' ⟨rfl, rfl⟩))
  go_ret
  exact ⟨rfl, (hm1.trans hm2).trans hm3⟩

set_option maxHeartbeats 2000000 in
/-- The walk where something leads below: by the divisor that is asked, and by whether anything fits. -/
theorem some_walk (r want c : Int) (w : World) (h0 : 0 ≤ r) (h1 : r ≤ 1099511627776) (h2 : 0 < want) (c0 : -9223372036854775808 ≤ c) (c1 : c ≤ 9223372036854775807)
    (k0 : 0 ≤ pk c 1000) (k1 : pk c 1000 < 1000) (hb : errOf (found (leP want) r) = 0) (b0 : 1 ≤ found (leP want) r) (b1 : found (leP want) r ≤ 1000) (hl : r / found (leP want) r ≤ want)
    (hk : (1 + pk c 1000 < found (leP want) r ∧ want < r / (1 + pk c 1000)) ∨ (found (leP want) r ≤ 1 + pk c 1000 ∧ r / (1 + pk c 1000) ≤ want))
    (hd : (errOf (found (eqP want) r) = 9 ∧ (r / (1 + pk c 1000) != want) = true) ∨ (errOf (found (eqP want) r) = 0 ∧ 1 ≤ found (eqP want) r ∧ found (eqP want) r ≤ 1000 ∧ (found (eqP want) r == found (leP want) r) = true ∧ (r / found (eqP want) r == want) = true)) :
    Calls Try.prog 3 #[.int .u64 r, .int .u64 want, .int .i64 c] w fun e w' => e = .returned (.bool true) ∧ Mild w w' := by
  have hz : (want == 0) = false := by simp; omega
  rcases hk with ⟨hk1, hk2⟩ | ⟨hk1, hk2⟩ <;> rcases hd with ⟨hd1, hd2⟩ | ⟨hd1, hd2, hd3, hd4, hd5⟩
  all_goals
    go_enter Try.func3, Try.ntmps3
    go_wp2_with (first | (go_at_call 11; refine (shown_any _).mono ?_; rintro e w1 ⟨rfl, hm1⟩) | (go_at_call 12; refine (fit_any _ _ _ h0 h1 h2).mono ?_; rintro e w2 ⟨rfl, hm2⟩) | (go_at_call 13; refine (below_any _ _ _ h0 h1 h2).mono ?_; rintro e w3 ⟨rfl, hm3⟩) | (go_at_call 14; refine (pick_any _ _ _ c0 c1 (by omega) (by omega)).mono ?_; rintro e w' ⟨rfl, rfl⟩))
    go_ret
    exact ⟨rfl, (hm1.trans hm2).trans hm3⟩

/-! ### STEP 1: THE WALK: the Go text returns true. 'Grown w w'': the world has at most new blocks (Derived/RowKit3.lean). Part the cases AHEAD of 'go_enter' where a test parts the walk; take each callee by a contract of your own. -/
theorem walk (a0 : Int) (a1 : Int) (a2 : Int) (w0 : (Lit.int .u64 a0).wf = true) (w1 : (Lit.int .u64 a1).wf = true) (w2 : (Lit.int .i64 a2).wf = true) (w : World) :
    Calls Try.prog 3 #[.int .u64 a0, .int .u64 a1, .int .i64 a2] w fun e w' => e = .returned (.bool true) ∧ Grown w w' := by
  obtain ⟨r0, r1⟩ := bounds_u64 w0
  obtain ⟨s0, s1⟩ := bounds_u64 w1
  obtain ⟨c0, c1⟩ := bounds_i64 w2
  by_cases hb : 1099511627776 < a0 ∨ a1 = 0
  · exact (bad_walk a0 a1 a2 w hb).mono fun e w' ⟨h, m⟩ => ⟨h, m.grown⟩
  · have h1 : a0 ≤ 1099511627776 := by omega
    have h2 : 0 < a1 := by omega
    have k0 := pk_lo a2 1000 (by omega)
    have k1 := pk_hi a2 1000 (by omega)
    rcases below_facts a0 a1 r0 with ⟨b1, b2⟩ | ⟨b1, b2, b3, b4, b5⟩
    · have hd : found (eqP a1) a0 = 0 := by
        rcases fit_facts a0 a1 with ⟨d1, d2⟩ | ⟨d1, d2, d3, d4⟩
        · exact d1
        · have := b2 _ d1 d2; omega
      have hq := b2 (1 + pk a2 1000) (by omega) (by omega)
      exact (none_walk a0 a1 a2 w r0 h1 h2 c0 c1 k0 k1 (errOf_zero hd) (errOf_zero b1) hq (by simp; omega)).mono fun e w' ⟨h, m⟩ => ⟨h, m.grown⟩
    · refine (some_walk a0 a1 a2 w r0 h1 h2 c0 c1 k0 k1 (errOf_pos b1) b1 b2 b3 ?_ ?_).mono fun e w' ⟨h, m⟩ => ⟨h, m.grown⟩
      · by_cases hk : 1 + pk a2 1000 < found (leP a1) a0
        · exact Or.inl ⟨hk, b4 _ (by omega) hk⟩
        · exact Or.inr ⟨by omega, b5 _ (by omega)⟩
      · rcases fit_facts a0 a1 with ⟨d1, d2⟩ | ⟨d1, d2, d3, d4⟩
        · exact Or.inl ⟨errOf_zero d1, by simpa using d2 (1 + pk a2 1000) (by omega) (by omega)⟩
        · exact Or.inr ⟨errOf_pos d1, d1, d2, by simpa using both_facts a0 a1 r0 d1, by simpa using d3⟩

/-! ### THE ROW's STEP: WRITTEN OUT: LEAVE IT -/
set_option maxRecDepth 100000 in
theorem lifted (os : Os) (started : os.Started) (H : Type) (enc : TypeId × Value → H) :
    ReturnsInHanded {} Try.checked os 3 .any (Rows.rateFitsSpec.pre6 enc Try.prog Try.f3 Rows.rateFitsRow.domain false) (Rows.rateFitsSpec.post enc Try.prog Try.f3 false true false false) := by
  refine returnsInHanded_of_change (C := Try.checked) own started (by kernel_rfl) Try.func3
    (ChangeSpec.witness6 (enc := enc) (C := Try.checked) false ⟨#[], #[.int .u64 0, .int .u64 0, .int .i64 0], []⟩ 8 (by kernel_rfl) (by kernel_rfl) (by kernel_rfl) (by kernel_rfl)) ?_
  intro W base args ds gs before hval0 hW hcnd _
  have hval : ∀ (j : Nat) t v, Try.f3.params[j]? = some t → args[j]? = some v → Value.okWide Try.prog W .any base t v := hval0
  have hW' := hW
  obtain ⟨p, q, hA0, hV, rfl, hfz, hnd⟩ := hW
  have hA : DataW.TrodAll enc Try.prog W 0 (fun _ => true) true Try.f3.params.toList args.toList ds p := hA0
  rw [Try.params3] at hA hval
  obtain ⟨v0, vs0, d0, ds0, p0, q0, hargs, rfl, rfl, h0, r0⟩ := trodAll_cons hA
  obtain ⟨v1, vs1, d1, ds1, p1, q1, rfl, rfl, rfl, h1, r1⟩ := trodAll_cons r0
  obtain ⟨v2, vs2, d2, ds2, p2, q2, rfl, rfl, rfl, h2, r2⟩ := trodAll_cons r1
  obtain ⟨rfl, rfl, rfl⟩ := trodAll_nil r2
  obtain rfl : args = #[v0, v1, v2] := by cases args; simp_all
  obtain ⟨rfl, rfl⟩ := trodVars_none hV
  obtain ⟨a0, rfl, rfl, rfl, w0⟩ := open_int Try.underlying22 (hval 0 22 v0 rfl rfl) h0
  obtain ⟨a1, rfl, rfl, rfl, w1⟩ := open_int Try.underlying22 (hval 1 22 v1 rfl rfl) h1
  obtain ⟨a2, rfl, rfl, rfl, w2⟩ := open_int Try.underlying3 (hval 2 3 v2 rfl rfl) h2
  clear hA0 hval0
  simp only [List.append_nil] at hW'
  refine (walk a0 a1 a2 w0 w1 w2 W).mono fun e W' ⟨he, hg⟩ => ?_
  subst he
  exact ⟨_, rfl, post_of_same (pa := []) (pv := []) hW' (fun _ _ _ => (trodAll_cons_mk (shut_bool Try.underlying4 _) trodAll_mk0)) (fun sp _ => (trodAll_cons_mk (shut_int Try.underlying22 w0) (trodAll_cons_mk (shut_int Try.underlying22 w1) (trodAll_cons_mk (shut_int Try.underlying3 w2) trodAll_mk0)))) (fun _ _ => rfl) rfl
    (hg.frame _) hg.2.1 (ok_one (by kernel_rfl) rfl (okWide_bool_mk Try.underlying4 _))⟩

theorem over : Rows.rateFitsRow.holds Try.pinned (OpenSpec.ofChange Rows.rateFitsSpec) :=
  OpenClaim.holds_of_wide 3 Try.f3 rfl rfl rfl rfl rfl rfl rfl ⟨rfl, rfl, rfl, rfl, rfl⟩ rfl rfl rfl rfl rfl (by kernel_rfl) Try.func3 (by kernel_rfl)
    (of_decide_eq_true (by kernel_rfl)) (by unfold Func.isWrapper; first | (rw [if_pos (by decide +kernel)]; kernel_rfl) | (rw [if_neg (by decide +kernel)]; exact ⟨rfl, rfl⟩))
    (fun os started H enc _ => lifted os started H enc)

theorem proved : Rows.RateFitsSaid :=
  over
#print axioms proved
end Go.Proofs.Ytmgpfahafadldaa.rateFits
