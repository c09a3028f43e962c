/- RateTells: for every input the law returns true, and each argument reads afterwards as it read before. No condition. -/
import Derived.Test.YtmgpfahafadldaaRows
import Derived.WalkKit
import Derived.ProofKit
import Derived.OpenShut
import Derived.Test.YtmgpfahafadldaaRef
namespace Go.Proofs.Ytmgpfahafadldaa.rateTells
open Go.ChangeShapes Go.WideShapes Go.ChangeAt Go.RowKit
set_option linter.unusedVariables false      -- a walk need not use every 'w<i>' (that an integer argument fits its kind)

theorem own : ownKnob Try.prog.godebug = none := by kernel_rfl

def Scaled (r m d v e : Int) : Prop :=
  ((1099511627776 < r ∨ m < 1 ∨ 1000 < m ∨ d < 1 ∨ 1000 < d) ∧ v = 0 ∧ e = 1) ∨
  (0 ≤ r ∧ r ≤ 1099511627776 ∧ 1 ≤ m ∧ m ≤ 1000 ∧ 1 ≤ d ∧ d ≤ 1000 ∧ ((r * m / d ≤ 1099511627776 ∧ v = r * m / d ∧ e = 0) ∨ (1099511627776 < r * m / d ∧ v = 0 ∧ e = 3)))

theorem scaled_exists (r m d : Int) (h : 0 ≤ r) : ∃ v e, Scaled r m d v e := by
  by_cases b : 1099511627776 < r ∨ m < 1 ∨ 1000 < m ∨ d < 1 ∨ 1000 < d
  · exact ⟨0, 1, Or.inl ⟨b, rfl, rfl⟩⟩
  · by_cases c : r * m / d ≤ 1099511627776
    · exact ⟨_, _, Or.inr ⟨h, by omega, by omega, by omega, by omega, by omega, Or.inl ⟨c, rfl, rfl⟩⟩⟩
    · exact ⟨_, _, Or.inr ⟨h, by omega, by omega, by omega, by omega, by omega, Or.inr ⟨by omega, rfl, rfl⟩⟩⟩

theorem scale_rel {r m d v e : Int} (w : World) (h : Scaled r m d v e) : Calls Try.prog 16 #[.int .u64 r, .int .i64 m, .int .i64 d] w fun z w' => z = pairU v e ∧ w' = w := by
  rcases h with ⟨b, rfl, rfl⟩ | ⟨h0, h1, m0, m1, d0, d1, ⟨c, rfl, rfl⟩ | ⟨c, rfl, rfl⟩⟩
  · exact scale_bad r m d w b
  · exact scale_ok r m d w h0 h1 m0 m1 d0 d1 c
  · exact scale_over r m d w h0 h1 m0 m1 d0 d1 c

theorem ref_scale_rel {r m d v e : Int} (w : World) (h : Scaled r m d v e) : Calls Try.prog 17 #[.int .u64 r, .int .i64 m, .int .i64 d] w fun z w' => z = pairU v e ∧ w' = w := by
  rcases h with ⟨b, rfl, rfl⟩ | ⟨h0, h1, m0, m1, d0, d1, ⟨c, rfl, rfl⟩ | ⟨c, rfl, rfl⟩⟩
  · exact ref_scale_bad r m d w b
  · exact ref_scale_ok r m d w h0 h1 m0 m1 d0 d1 c
  · exact ref_scale_over r m d w h0 h1 m0 m1 d0 d1 c

def Led (p : Int → Bool) (r want d e : Int) : Prop :=
  ((1099511627776 < r ∨ want = 0) ∧ d = 0 ∧ e = 1) ∨ (0 ≤ r ∧ r ≤ 1099511627776 ∧ 0 < want ∧ d = found p r ∧ e = errOf (found p r))

theorem led_exists (p : Int → Bool) (r want : Int) (h : 0 ≤ r) (h2 : 0 ≤ want) : ∃ d e, Led p r want d e := by
  by_cases b : 1099511627776 < r ∨ want = 0
  · exact ⟨0, 1, Or.inl ⟨b, rfl, rfl⟩⟩
  · exact ⟨_, _, Or.inr ⟨h, by omega, by omega, rfl, rfl⟩⟩

theorem fit_rel {r want d e : Int} (w : World) (h : Led (eqP want) r want d e) : Calls Try.prog 12 #[.int .u64 r, .int .u64 want] w fun z w' => z = pairE d e ∧ Mild w w' := by
  rcases h with ⟨b, rfl, rfl⟩ | ⟨h0, h1, h2, rfl, rfl⟩
  · exact fit_bad r want w b
  · exact fit_any r want w h0 h1 h2
theorem below_rel {r want d e : Int} (w : World) (h : Led (leP want) r want d e) : Calls Try.prog 13 #[.int .u64 r, .int .u64 want] w fun z w' => z = pairE d e ∧ Mild w w' := by
  rcases h with ⟨b, rfl, rfl⟩ | ⟨h0, h1, h2, rfl, rfl⟩
  · exact below_bad r want w b
  · exact below_any r want w h0 h1 h2
theorem ref_fit_rel {r want d e : Int} (w : World) (h : Led (eqP want) r want d e) : Calls Try.prog 18 #[.int .u64 r, .int .u64 want] w fun z w' => z = pairE d e ∧ w' = w := by
  rcases h with ⟨b, rfl, rfl⟩ | ⟨h0, h1, h2, rfl, rfl⟩
  · exact ref_fit_bad r want w b
  · exact ref_fit_any r want w h0 h1 h2
theorem ref_below_rel {r want d e : Int} (w : World) (h : Led (leP want) r want d e) : Calls Try.prog 19 #[.int .u64 r, .int .u64 want] w fun z w' => z = pairE d e ∧ w' = w := by
  rcases h with ⟨b, rfl, rfl⟩ | ⟨h0, h1, h2, rfl, rfl⟩
  · exact ref_below_bad r want w b
  · exact ref_below_any r want w h0 h1 h2

set_option maxHeartbeats 1000000 in
theorem core (r want m d v e d1 e1 d2 e2 : Int) (w : World) (r0 : 0 ≤ r) (n0 : 0 ≤ want) (S : Hid (Scaled r m d v e)) (F : Hid (Led (eqP want) r want d1 e1)) (B : Hid (Led (leP want) r want d2 e2)) :
    Calls Try.prog 9 #[.int .u64 r, .int .u64 want, .int .i64 m, .int .i64 d] w fun e w' => e = .returned (.bool true) ∧ Mild w w' := by
  go_enter Try.func9, Try.ntmps9
  go_wp2_with fail
  refine (shown_any _).mono ?_; rintro z w1 ⟨rfl, hm1⟩
  go_wp2_with fail
  refine (scale_rel _ S.out).mono ?_; rintro z w' ⟨rfl, rfl⟩
  go_wp2_with fail
  refine (ref_scale_rel _ S.out).mono ?_; rintro z w' ⟨rfl, rfl⟩
  go_wp2_with fail
  refine (fit_rel _ F.out).mono ?_; rintro z w2 ⟨rfl, hm2⟩
  go_wp2_with fail
  refine (ref_fit_rel _ F.out).mono ?_; rintro z w' ⟨rfl, rfl⟩
  go_wp2_with fail
  refine (below_rel _ B.out).mono ?_; rintro z w3 ⟨rfl, hm3⟩
  go_wp2_with fail
  refine (ref_below_rel _ B.out).mono ?_; rintro z w' ⟨rfl, rfl⟩
  go_wp2_with fail
  refine (gcd_any _ _ _ r0 n0).mono ?_; rintro z w4 ⟨rfl, hm⟩
  have hm4 := Mild.of_drew hm
  clear hm
  go_wp2_with fail
  refine (ref_gcd_any _ _ _ r0 n0).mono ?_; rintro z w' ⟨rfl, rfl⟩
  go_wp2_with fail
  go_ret
  exact ⟨rfl, ((hm1.trans hm2).trans hm3).trans hm4⟩

/-! ### STEP 1: THE WALK: the Go text returns true. 'Grown w w'': the world has at most new blocks (Derived/RowKit3.lean). Part the cases AHEAD of 'go_enter' where a test parts the walk; take each callee by a contract of your own. -/
theorem walk (a0 : Int) (a1 : Int) (a2 : Int) (a3 : Int) (w0 : (Lit.int .u64 a0).wf = true) (w1 : (Lit.int .u64 a1).wf = true) (w2 : (Lit.int .i64 a2).wf = true) (w3 : (Lit.int .i64 a3).wf = true) (w : World) :
    Calls Try.prog 9 #[.int .u64 a0, .int .u64 a1, .int .i64 a2, .int .i64 a3] w fun e w' => e = .returned (.bool true) ∧ Grown w w' := by
  obtain ⟨A0, _⟩ := bounds_u64 w0
  obtain ⟨B0, _⟩ := bounds_u64 w1
  obtain ⟨v, e, S⟩ := scaled_exists a0 a2 a3 A0
  obtain ⟨d1, e1, F⟩ := led_exists (eqP a1) a0 a1 A0 B0
  obtain ⟨d2, e2, B⟩ := led_exists (leP a1) a0 a1 A0 B0
  exact (core a0 a1 a2 a3 v e d1 e1 d2 e2 w A0 B0 S F B).mono fun e w' ⟨h, m⟩ => ⟨h, m.grown⟩

/-! ### THE ROW's STEP: WRITTEN OUT: LEAVE IT -/
set_option maxRecDepth 100000 in
theorem lifted (os : Os) (started : os.Started) (H : Type) (enc : TypeId × Value → H) :
    ReturnsInHanded {} Try.checked os 9 .any (Rows.rateTellsSpec.pre6 enc Try.prog Try.f9 Rows.rateTellsRow.domain false) (Rows.rateTellsSpec.post enc Try.prog Try.f9 false true false false) := by
  refine returnsInHanded_of_change (C := Try.checked) own started (by kernel_rfl) Try.func9
    (ChangeSpec.witness6 (enc := enc) (C := Try.checked) false ⟨#[], #[.int .u64 0, .int .u64 0, .int .i64 0, .int .i64 0], []⟩ 8 (by kernel_rfl) (by kernel_rfl) (by kernel_rfl) (by kernel_rfl)) ?_
  intro W base args ds gs before hval0 hW hcnd _
  have hval : ∀ (j : Nat) t v, Try.f9.params[j]? = some t → args[j]? = some v → Value.okWide Try.prog W .any base t v := hval0
  have hW' := hW
  obtain ⟨p, q, hA0, hV, rfl, hfz, hnd⟩ := hW
  have hA : DataW.TrodAll enc Try.prog W 0 (fun _ => true) true Try.f9.params.toList args.toList ds p := hA0
  rw [Try.params9] at hA hval
  obtain ⟨v0, vs0, d0, ds0, p0, q0, hargs, rfl, rfl, h0, r0⟩ := trodAll_cons hA
  obtain ⟨v1, vs1, d1, ds1, p1, q1, rfl, rfl, rfl, h1, r1⟩ := trodAll_cons r0
  obtain ⟨v2, vs2, d2, ds2, p2, q2, rfl, rfl, rfl, h2, r2⟩ := trodAll_cons r1
  obtain ⟨v3, vs3, d3, ds3, p3, q3, rfl, rfl, rfl, h3, r3⟩ := trodAll_cons r2
  obtain ⟨rfl, rfl, rfl⟩ := trodAll_nil r3
  obtain rfl : args = #[v0, v1, v2, v3] := by cases args; simp_all
  obtain ⟨rfl, rfl⟩ := trodVars_none hV
  obtain ⟨a0, rfl, rfl, rfl, w0⟩ := open_int Try.underlying22 (hval 0 22 v0 rfl rfl) h0
  obtain ⟨a1, rfl, rfl, rfl, w1⟩ := open_int Try.underlying22 (hval 1 22 v1 rfl rfl) h1
  obtain ⟨a2, rfl, rfl, rfl, w2⟩ := open_int Try.underlying3 (hval 2 3 v2 rfl rfl) h2
  obtain ⟨a3, rfl, rfl, rfl, w3⟩ := open_int Try.underlying3 (hval 3 3 v3 rfl rfl) h3
  clear hA0 hval0
  simp only [List.append_nil] at hW'
  refine (walk a0 a1 a2 a3 w0 w1 w2 w3 W).mono fun e W' ⟨he, hg⟩ => ?_
  subst he
  exact ⟨_, rfl, post_of_same (pa := []) (pv := []) hW' (fun _ _ _ => (trodAll_cons_mk (shut_bool Try.underlying4 _) trodAll_mk0)) (fun sp _ => (trodAll_cons_mk (shut_int Try.underlying22 w0) (trodAll_cons_mk (shut_int Try.underlying22 w1) (trodAll_cons_mk (shut_int Try.underlying3 w2) (trodAll_cons_mk (shut_int Try.underlying3 w3) trodAll_mk0))))) (fun _ _ => rfl) rfl
    (hg.frame _) hg.2.1 (ok_one (by kernel_rfl) rfl (okWide_bool_mk Try.underlying4 _))⟩

theorem over : Rows.rateTellsRow.holds Try.pinned (OpenSpec.ofChange Rows.rateTellsSpec) :=
  OpenClaim.holds_of_wide 9 Try.f9 rfl rfl rfl rfl rfl rfl rfl ⟨rfl, rfl, rfl, rfl, rfl⟩ rfl rfl rfl rfl rfl (by kernel_rfl) Try.func9 (by kernel_rfl)
    (of_decide_eq_true (by kernel_rfl)) (by unfold Func.isWrapper; first | (rw [if_pos (by decide +kernel)]; kernel_rfl) | (rw [if_neg (by decide +kernel)]; exact ⟨rfl, rfl⟩))
    (fun os started H enc _ => lifted os started H enc)

theorem proved : Rows.RateTellsSaid :=
  over
#print axioms proved
end Go.Proofs.Ytmgpfahafadldaa.rateTells
