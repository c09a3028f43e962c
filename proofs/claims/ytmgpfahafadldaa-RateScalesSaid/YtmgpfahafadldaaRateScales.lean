/- RateScales: for every input the law returns true, and each argument reads afterwards as it read before. No condition. -/
import Derived.Test.YtmgpfahafadldaaRows
import Derived.WalkKit
import Derived.ProofKit
import Derived.OpenShut
import Derived.Test.YtmgpfahafadldaaScale
namespace Go.Proofs.Ytmgpfahafadldaa.rateScales
open Go.ChangeShapes Go.WideShapes Go.ChangeAt Go.RowKit
set_option linter.unusedVariables false      -- a walk need not use every 'w<i>' (that an integer argument fits its kind)

theorem own : ownKnob Try.prog.godebug = none := by kernel_rfl

theorem scale_is {r m d v : Int} (w : World) (h0 : 0 ≤ r) (h1 : r ≤ 1099511627776) (m0 : 1 ≤ m) (m1 : m ≤ 1000) (d0 : 1 ≤ d) (d1 : d ≤ 1000) (hv : r * m / d = v) (h : v ≤ 1099511627776) :
    Calls Try.prog 16 #[.int .u64 r, .int .i64 m, .int .i64 d] w fun e w' => e = pairU v 0 ∧ w' = w := by
  subst hv; exact scale_ok r m d w h0 h1 m0 m1 d0 d1 h

theorem pick_is {c n p : Int} (w : World) (c0 : -9223372036854775808 ≤ c) (c1 : c ≤ 9223372036854775807) (n0 : 0 < n) (n1 : n ≤ 1000) (hp : pk c n = p) :
    Calls Try.prog 14 #[.int .i64 c, .int .i64 n] w fun e w' => e = .returned (.int .i64 p) ∧ w' = w := by
  subst hp; exact pick_any c n w c0 c1 n0 n1

set_option maxHeartbeats 1000000 in
theorem core (r a b p q U T : Int) (w : World) (r0 : 0 ≤ r) (A : Hid (-9223372036854775808 ≤ a ∧ a ≤ 9223372036854775807)) (B : Hid (-9223372036854775808 ≤ b ∧ b ≤ 9223372036854775807))
    (P : Hid (pk a 1000 = p)) (Q : Hid (pk b 1000 = q)) (p0 : 0 ≤ p) (p1 : p < 1000) (q0 : 0 ≤ q) (q1 : q < 1000) (n0 : 0 ≤ r % 1073741824) (n1 : r % 1073741824 < 1073741824)
    (E1 : Hid (r % 1073741824 * (1 + p) / 1 = U)) (E2 : Hid (U * 1 / (1 + p) = r % 1073741824)) (E3 : Hid (r % 1073741824 * (1 + p) / (1 + q) = T)) (E4 : Hid (r % 1073741824 * (1 + p) / (1 + p) = r % 1073741824))
    (u0 : 0 ≤ U) (u1 : U ≤ 1099511627776) (t0 : 0 ≤ T) (t1 : T ≤ 1099511627776) (z0 : 0 ≤ T * (1 + q)) (z1 : T * (1 + q) ≤ U) (z2 : U - T * (1 + q) < 1 + q) :
    Calls Try.prog 6 #[.int .u64 r, .int .i64 a, .int .i64 b] w fun e w' => e = .returned (.bool true) ∧ Mild w w' := by
  go_enter Try.func6, Try.ntmps6
  go_wp2_with fail
  refine (shown_any _).mono ?_; rintro e w1 ⟨rfl, hm1⟩
  go_wp2_with fail
  refine (pick_is _ A.out.1 A.out.2 (by omega) (by omega) P.out).mono ?_; rintro e w' ⟨rfl, rfl⟩
  go_wp2_with fail
  refine (pick_is _ B.out.1 B.out.2 (by omega) (by omega) Q.out).mono ?_; rintro e w' ⟨rfl, rfl⟩
  go_wp2_with fail
  refine (scale_is _ n0 (by omega) (by omega) (by omega) (by omega) (by omega) E1.out u1).mono ?_; rintro e w' ⟨rfl, rfl⟩
  go_wp2_with fail
  refine (scale_is _ u0 (by omega) (by omega) (by omega) (by omega) (by omega) E2.out (by omega)).mono ?_; rintro e w' ⟨rfl, rfl⟩
  go_wp2_with fail
  refine (scale_is _ n0 (by omega) (by omega) (by omega) (by omega) (by omega) E3.out t1).mono ?_; rintro e w' ⟨rfl, rfl⟩
  go_wp2_with fail
  refine (scale_is _ n0 (by omega) (by omega) (by omega) (by omega) (by omega) E4.out (by omega)).mono ?_; rintro e w' ⟨rfl, rfl⟩
  go_wp2_with fail
  refine (scale_over _ _ _ _ (by omega) (by omega) (by omega) (by omega) (by omega) (by omega) (by omega)).mono ?_; rintro e w' ⟨rfl, rfl⟩
  go_wp2_with fail
  refine (scale_bad _ _ _ _ (by omega)).mono ?_; rintro e w' ⟨rfl, rfl⟩
  go_wp2_with fail
  go_ret
  exact ⟨rfl, hm1⟩

/-! ### STEP 1: THE WALK: the Go text returns true. 'Grown w w'': the world has at most new blocks (Derived/RowKit3.lean). Part the cases AHEAD of 'go_enter' where a test parts the walk; take each callee by a contract of your own. -/
theorem walk (a0 : Int) (a1 : Int) (a2 : Int) (w0 : (Lit.int .u64 a0).wf = true) (w1 : (Lit.int .i64 a1).wf = true) (w2 : (Lit.int .i64 a2).wf = true) (w : World) :
    Calls Try.prog 6 #[.int .u64 a0, .int .i64 a1, .int .i64 a2] w fun e w' => e = .returned (.bool true) ∧ Grown w w' := by
  obtain ⟨r0, _⟩ := bounds_u64 w0
  have A := bounds_i64 w1
  have B := bounds_i64 w2
  have p0 := pk_lo a1 1000 (by omega)
  have p1 := pk_hi a1 1000 (by omega)
  have q0 := pk_lo a2 1000 (by omega)
  have q1 := pk_hi a2 1000 (by omega)
  have n0 : 0 ≤ a0 % 1073741824 := by omega
  have n1 : a0 % 1073741824 < 1073741824 := by omega
  generalize hN : a0 % 1073741824 = N at n0 n1
  generalize hp : pk a1 1000 = p at p0 p1
  generalize hq : pk a2 1000 = q at q0 q1
  have u0 : 0 ≤ N * (1 + p) := Int.mul_nonneg n0 (by omega)
  have u1 : N * (1 + p) ≤ 1073741823 * 1000 := Int.mul_le_mul (by omega) (by omega) (by omega) (by omega)
  have t0 : 0 ≤ N * (1 + p) / (1 + q) := Int.ediv_nonneg u0 (by omega)
  have t1 : N * (1 + p) / (1 + q) ≤ N * (1 + p) := Int.ediv_le_self _ u0
  have z1 := Int.ediv_mul_le (N * (1 + p)) (b := 1 + q) (by omega)
  have z2 := Int.lt_ediv_add_one_mul_self (N * (1 + p)) (b := 1 + q) (by omega)
  rw [Int.add_mul] at z2
  have e2 : N * (1 + p) / (1 + p) = N := Int.mul_ediv_cancel _ (by omega)
  subst hN
  exact (core a0 a1 a2 p q _ _ w r0 A B hp hq p0 p1 q0 q1 n0 n1 (Int.ediv_one _) (by rw [Hid, Int.mul_one]; exact e2) rfl e2 u0 (by omega) t0 (by omega) (Int.mul_nonneg t0 (by omega)) z1 (by omega)).mono fun e w' ⟨h, m⟩ => ⟨h, m.grown⟩

/-! ### THE ROW's STEP: WRITTEN OUT: LEAVE IT -/
set_option maxRecDepth 100000 in
theorem lifted (os : Os) (started : os.Started) (H : Type) (enc : TypeId × Value → H) :
    ReturnsInHanded {} Try.checked os 6 .any (Rows.rateScalesSpec.pre6 enc Try.prog Try.f6 Rows.rateScalesRow.domain false) (Rows.rateScalesSpec.post enc Try.prog Try.f6 false true false false) := by
  refine returnsInHanded_of_change (C := Try.checked) own started (by kernel_rfl) Try.func6
    (ChangeSpec.witness6 (enc := enc) (C := Try.checked) false ⟨#[], #[.int .u64 0, .int .i64 0, .int .i64 0], []⟩ 8 (by kernel_rfl) (by kernel_rfl) (by kernel_rfl) (by kernel_rfl)) ?_
  intro W base args ds gs before hval0 hW hcnd _
  have hval : ∀ (j : Nat) t v, Try.f6.params[j]? = some t → args[j]? = some v → Value.okWide Try.prog W .any base t v := hval0
  have hW' := hW
  obtain ⟨p, q, hA0, hV, rfl, hfz, hnd⟩ := hW
  have hA : DataW.TrodAll enc Try.prog W 0 (fun _ => true) true Try.f6.params.toList args.toList ds p := hA0
  rw [Try.params6] at hA hval
  obtain ⟨v0, vs0, d0, ds0, p0, q0, hargs, rfl, rfl, h0, r0⟩ := trodAll_cons hA
  obtain ⟨v1, vs1, d1, ds1, p1, q1, rfl, rfl, rfl, h1, r1⟩ := trodAll_cons r0
  obtain ⟨v2, vs2, d2, ds2, p2, q2, rfl, rfl, rfl, h2, r2⟩ := trodAll_cons r1
  obtain ⟨rfl, rfl, rfl⟩ := trodAll_nil r2
  obtain rfl : args = #[v0, v1, v2] := by cases args; simp_all
  obtain ⟨rfl, rfl⟩ := trodVars_none hV
  obtain ⟨a0, rfl, rfl, rfl, w0⟩ := open_int Try.underlying22 (hval 0 22 v0 rfl rfl) h0
  obtain ⟨a1, rfl, rfl, rfl, w1⟩ := open_int Try.underlying3 (hval 1 3 v1 rfl rfl) h1
  obtain ⟨a2, rfl, rfl, rfl, w2⟩ := open_int Try.underlying3 (hval 2 3 v2 rfl rfl) h2
  clear hA0 hval0
  simp only [List.append_nil] at hW'
  refine (walk a0 a1 a2 w0 w1 w2 W).mono fun e W' ⟨he, hg⟩ => ?_
  subst he
  exact ⟨_, rfl, post_of_same (pa := []) (pv := []) hW' (fun _ _ _ => (trodAll_cons_mk (shut_bool Try.underlying4 _) trodAll_mk0)) (fun sp _ => (trodAll_cons_mk (shut_int Try.underlying22 w0) (trodAll_cons_mk (shut_int Try.underlying3 w1) (trodAll_cons_mk (shut_int Try.underlying3 w2) trodAll_mk0)))) (fun _ _ => rfl) rfl
    (hg.frame _) hg.2.1 (ok_one (by kernel_rfl) rfl (okWide_bool_mk Try.underlying4 _))⟩

theorem over : Rows.rateScalesRow.holds Try.pinned (OpenSpec.ofChange Rows.rateScalesSpec) :=
  OpenClaim.holds_of_wide 6 Try.f6 rfl rfl rfl rfl rfl rfl rfl ⟨rfl, rfl, rfl, rfl, rfl⟩ rfl rfl rfl rfl rfl (by kernel_rfl) Try.func6 (by kernel_rfl)
    (of_decide_eq_true (by kernel_rfl)) (by unfold Func.isWrapper; first | (rw [if_pos (by decide +kernel)]; kernel_rfl) | (rw [if_neg (by decide +kernel)]; exact ⟨rfl, rfl⟩))
    (fun os started H enc _ => lifted os started H enc)

theorem proved : Rows.RateScalesSaid :=
  over
#print axioms proved
end Go.Proofs.Ytmgpfahafadldaa.rateScales
