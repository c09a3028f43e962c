/- RateCommon: for every input the law returns true, and each argument reads afterwards as it read before. No condition. -/
import Derived.Test.YtmgpfahafadldaaRows
import Derived.WalkKit
import Derived.ProofKit
import Derived.OpenShut
import Derived.Test.YtmgpfahafadldaaScale
namespace Go.Proofs.Ytmgpfahafadldaa.rateCommon
open Go.ChangeShapes Go.WideShapes Go.ChangeAt Go.RowKit
set_option linter.unusedVariables false      -- a walk need not use every 'w<i>' (that an integer argument fits its kind)

theorem own : ownKnob Try.prog.godebug = none := by kernel_rfl

theorem scale_is {r m d v : Int} (w : World) (h0 : 0 ≤ r) (h1 : r ≤ 1099511627776) (m0 : 1 ≤ m) (m1 : m ≤ 1000) (d0 : 1 ≤ d) (d1 : d ≤ 1000) (hv : r * m / d = v) (h : v ≤ 1099511627776) :
    Calls Try.prog 16 #[.int .u64 r, .int .i64 m, .int .i64 d] w fun e w' => e = pairU v 0 ∧ w' = w := by
  subst hv; exact scale_ok r m d w h0 h1 m0 m1 d0 d1 h

theorem pick_is {c n p : Int} (w : World) (c0 : -9223372036854775808 ≤ c) (c1 : c ≤ 9223372036854775807) (n0 : 0 < n) (n1 : n ≤ 1000) (hp : pk c n = p) :
    Calls Try.prog 14 #[.int .i64 c, .int .i64 n] w fun e w' => e = .returned (.int .i64 p) ∧ w' = w := by
  subst hp; exact pick_any c n w c0 c1 n0 n1

theorem gcd_is {a b g : Int} (w : World) (h : gcd a b = g) (ha : 0 ≤ a) (hb : 0 ≤ b) : Calls Try.prog 15 #[.int .u64 a, .int .u64 b] w fun e w' => e = .returned (.int .u64 g) ∧ ∃ n, w' = w.drewN n := by
  rw [← h]; exact gcd_any a b w ha hb

theorem gcd_mul {a b m : Int} (ha : 0 ≤ a) (hb : 0 ≤ b) (hm : 0 ≤ m) : gcd (a * m) (b * m) = gcd a b * m := by
  obtain ⟨x, rfl⟩ := Int.eq_ofNat_of_zero_le ha
  obtain ⟨y, rfl⟩ := Int.eq_ofNat_of_zero_le hb
  obtain ⟨z, rfl⟩ := Int.eq_ofNat_of_zero_le hm
  unfold gcd
  have e1 : ((x : Int) * (z : Int)).toNat = x * z := rfl
  have e2 : ((y : Int) * (z : Int)).toNat = y * z := rfl
  rw [e1, e2, Nat.gcd_mul_right]
  rfl

set_option maxHeartbeats 1000000 in
theorem core (a b x y mm dd g h o1 o2 : Int) (w : World) (a0 : 0 ≤ a) (b0 : 0 ≤ b) (A : Hid (-9223372036854775808 ≤ x ∧ x ≤ 9223372036854775807)) (B : Hid (-9223372036854775808 ≤ y ∧ y ≤ 9223372036854775807))
    (M : Hid (pk x 1000 = mm)) (D : Hid (pk y 31 = dd)) (m0 : 0 ≤ mm) (m1 : mm < 1000) (d0 : 0 ≤ dd) (d1 : dd < 31)
    (p0 : 0 ≤ a % 100000000) (p1 : a % 100000000 < 100000000) (q0 : 0 ≤ b % 100000000) (q1 : b % 100000000 < 100000000)
    (y0 : 0 ≤ a % 100000000 * (1 + mm)) (y1 : a % 100000000 * (1 + mm) ≤ 100000000000) (z0 : 0 ≤ b % 100000000 * (1 + mm)) (z1 : b % 100000000 * (1 + mm) ≤ 100000000000)
    (G : Hid (gcd (a % 100000000 * (1 + mm)) (b % 100000000 * (1 + mm)) = h)) (H : Hid (gcd (a % 100000000) (b % 100000000) = g)) (hg : (h != g * (1 + mm)) = false) (g0 : 0 ≤ g * (1 + mm)) (g1 : g * (1 + mm) ≤ 100000000000)
    (s0 : 1 ≤ (1 + dd) * (1 + dd)) (s1 : (1 + dd) * (1 + dd) ≤ 1000)
    (E1 : Hid (a % 100000000 * 1 / (1 + dd) = o1)) (E2 : Hid (o1 * 1 / (1 + dd) = o2)) (E3 : Hid (a % 100000000 * 1 / ((1 + dd) * (1 + dd)) = o2)) (o10 : 0 ≤ o1) (o11 : o1 ≤ 100000000) (o20 : 0 ≤ o2) (o21 : o2 ≤ o1) :
    Calls Try.prog 8 #[.int .u64 a, .int .u64 b, .int .i64 x, .int .i64 y] w fun e w' => e = .returned (.bool true) ∧ Mild w w' := by
  go_enter Try.func8, Try.ntmps8
  go_wp2_with fail
  refine (shown_any _).mono ?_; rintro z w1 ⟨rfl, hm1⟩
  go_wp2_with fail
  refine (pick_is _ A.out.1 A.out.2 (by omega) (by omega) M.out).mono ?_; rintro z w' ⟨rfl, rfl⟩
  go_wp2_with fail
  refine (pick_is _ B.out.1 B.out.2 (by omega) (by omega) D.out).mono ?_; rintro z w' ⟨rfl, rfl⟩
  go_wp2_with fail
  refine (gcd_is _ G.out y0 z0).mono ?_; rintro z w2 ⟨rfl, hm⟩
  have hm2 := Mild.of_drew hm
  clear hm
  go_wp2_with fail
  refine (gcd_is _ H.out p0 q0).mono ?_; rintro z w3 ⟨rfl, hm⟩
  have hm3 := Mild.of_drew hm
  clear hm
  go_wp2_with fail
  refine (scale_is _ p0 (by omega) (by omega) (by omega) (by omega) (by omega) E1.out (by omega)).mono ?_; rintro z w' ⟨rfl, rfl⟩
  go_wp2_with fail
  refine (scale_is _ o10 (by omega) (by omega) (by omega) (by omega) (by omega) E2.out (by omega)).mono ?_; rintro z w' ⟨rfl, rfl⟩
  go_wp2_with fail
  refine (scale_is _ p0 (by omega) (by omega) (by omega) s0 s1 E3.out (by omega)).mono ?_; rintro z w' ⟨rfl, rfl⟩
  go_wp2_with fail
  go_ret
  exact ⟨rfl, (hm1.trans hm2).trans hm3⟩

/-! ### STEP 1: THE WALK: the Go text returns true. 'Grown w w'': the world has at most new blocks (Derived/RowKit3.lean). Part the cases AHEAD of 'go_enter' where a test parts the walk; take each callee by a contract of your own. -/
theorem walk (a0 : Int) (a1 : Int) (a2 : Int) (a3 : Int) (w0 : (Lit.int .u64 a0).wf = true) (w1 : (Lit.int .u64 a1).wf = true) (w2 : (Lit.int .i64 a2).wf = true) (w3 : (Lit.int .i64 a3).wf = true) (w : World) :
    Calls Try.prog 8 #[.int .u64 a0, .int .u64 a1, .int .i64 a2, .int .i64 a3] w fun e w' => e = .returned (.bool true) ∧ Grown w w' := by
  obtain ⟨A0, A1⟩ := bounds_u64 w0
  obtain ⟨B0, B1⟩ := bounds_u64 w1
  have A := bounds_i64 w2
  have B := bounds_i64 w3
  have m0 := pk_lo a2 1000 (by omega)
  have m1 := pk_hi a2 1000 (by omega)
  have d0 := pk_lo a3 31 (by omega)
  have d1 := pk_hi a3 31 (by omega)
  have p0 : 0 ≤ a0 % 100000000 := by omega
  have p1 : a0 % 100000000 < 100000000 := by omega
  have q0 : 0 ≤ a1 % 100000000 := by omega
  have q1 : a1 % 100000000 < 100000000 := by omega
  have y0 : 0 ≤ a0 % 100000000 * (1 + pk a2 1000) := Int.mul_nonneg p0 (by omega)
  have y1 : a0 % 100000000 * (1 + pk a2 1000) ≤ 100000000 * 1000 := Int.mul_le_mul (by omega) (by omega) (by omega) (by omega)
  have z0 : 0 ≤ a1 % 100000000 * (1 + pk a2 1000) := Int.mul_nonneg q0 (by omega)
  have z1 : a1 % 100000000 * (1 + pk a2 1000) ≤ 100000000 * 1000 := Int.mul_le_mul (by omega) (by omega) (by omega) (by omega)
  have hG := gcd_mul p0 q0 (show 0 ≤ 1 + pk a2 1000 by omega)
  have g0 : 0 ≤ gcd (a0 % 100000000) (a1 % 100000000) := by unfold gcd; omega
  have g1 : gcd (a0 % 100000000) (a1 % 100000000) ≤ 100000000 := by
    unfold gcd
    by_cases h : (a0 % 100000000).toNat = 0
    · rw [h, Nat.gcd_zero_left]; omega
    · have := Nat.gcd_le_left (a1 % 100000000).toNat (show 0 < (a0 % 100000000).toNat by omega); omega
  have g2 : 0 ≤ gcd (a0 % 100000000) (a1 % 100000000) * (1 + pk a2 1000) := Int.mul_nonneg g0 (by omega)
  have g3 : gcd (a0 % 100000000) (a1 % 100000000) * (1 + pk a2 1000) ≤ 100000000 * 1000 := Int.mul_le_mul (by omega) (by omega) (by omega) (by omega)
  have s0 : 0 < (1 + pk a3 31) * (1 + pk a3 31) := Int.mul_pos (by omega) (by omega)
  have s1 : (1 + pk a3 31) * (1 + pk a3 31) ≤ 31 * 31 := Int.mul_le_mul (by omega) (by omega) (by omega) (by omega)
  have o0 : 0 ≤ a0 % 100000000 / (1 + pk a3 31) := Int.ediv_nonneg p0 (by omega)
  have o1 : a0 % 100000000 / (1 + pk a3 31) ≤ a0 % 100000000 := Int.ediv_le_self _ p0
  have o2 : 0 ≤ a0 % 100000000 / (1 + pk a3 31) / (1 + pk a3 31) := Int.ediv_nonneg o0 (by omega)
  have o3 : a0 % 100000000 / (1 + pk a3 31) / (1 + pk a3 31) ≤ a0 % 100000000 / (1 + pk a3 31) := Int.ediv_le_self _ o0
  exact (core a0 a1 a2 a3 _ _ _ _ _ _ w A0 B0 A B rfl rfl m0 m1 d0 d1 p0 p1 q0 q1 y0 (by omega) z0 (by omega) hG rfl (by simp) g2 (by omega) (by omega) (by omega)
    (by rw [Hid, Int.mul_one]) (by rw [Hid, Int.mul_one]) (by rw [Hid, Int.mul_one]; exact (Int.ediv_ediv_of_nonneg (by omega)).symm) o0 (by omega) o2 o3).mono fun e w' ⟨h, m⟩ => ⟨h, m.grown⟩

/-! ### THE ROW's STEP: WRITTEN OUT: LEAVE IT -/
set_option maxRecDepth 100000 in
theorem lifted (os : Os) (started : os.Started) (H : Type) (enc : TypeId × Value → H) :
    ReturnsInHanded {} Try.checked os 8 .any (Rows.rateCommonSpec.pre6 enc Try.prog Try.f8 Rows.rateCommonRow.domain false) (Rows.rateCommonSpec.post enc Try.prog Try.f8 false true false false) := by
  refine returnsInHanded_of_change (C := Try.checked) own started (by kernel_rfl) Try.func8
    (ChangeSpec.witness6 (enc := enc) (C := Try.checked) false ⟨#[], #[.int .u64 0, .int .u64 0, .int .i64 0, .int .i64 0], []⟩ 8 (by kernel_rfl) (by kernel_rfl) (by kernel_rfl) (by kernel_rfl)) ?_
  intro W base args ds gs before hval0 hW hcnd _
  have hval : ∀ (j : Nat) t v, Try.f8.params[j]? = some t → args[j]? = some v → Value.okWide Try.prog W .any base t v := hval0
  have hW' := hW
  obtain ⟨p, q, hA0, hV, rfl, hfz, hnd⟩ := hW
  have hA : DataW.TrodAll enc Try.prog W 0 (fun _ => true) true Try.f8.params.toList args.toList ds p := hA0
  rw [Try.params8] at hA hval
  obtain ⟨v0, vs0, d0, ds0, p0, q0, hargs, rfl, rfl, h0, r0⟩ := trodAll_cons hA
  obtain ⟨v1, vs1, d1, ds1, p1, q1, rfl, rfl, rfl, h1, r1⟩ := trodAll_cons r0
  obtain ⟨v2, vs2, d2, ds2, p2, q2, rfl, rfl, rfl, h2, r2⟩ := trodAll_cons r1
  obtain ⟨v3, vs3, d3, ds3, p3, q3, rfl, rfl, rfl, h3, r3⟩ := trodAll_cons r2
  obtain ⟨rfl, rfl, rfl⟩ := trodAll_nil r3
  obtain rfl : args = #[v0, v1, v2, v3] := by cases args; simp_all
  obtain ⟨rfl, rfl⟩ := trodVars_none hV
  obtain ⟨a0, rfl, rfl, rfl, w0⟩ := open_int Try.underlying22 (hval 0 22 v0 rfl rfl) h0
  obtain ⟨a1, rfl, rfl, rfl, w1⟩ := open_int Try.underlying22 (hval 1 22 v1 rfl rfl) h1
  obtain ⟨a2, rfl, rfl, rfl, w2⟩ := open_int Try.underlying3 (hval 2 3 v2 rfl rfl) h2
  obtain ⟨a3, rfl, rfl, rfl, w3⟩ := open_int Try.underlying3 (hval 3 3 v3 rfl rfl) h3
  clear hA0 hval0
  simp only [List.append_nil] at hW'
  refine (walk a0 a1 a2 a3 w0 w1 w2 w3 W).mono fun e W' ⟨he, hg⟩ => ?_
  subst he
  exact ⟨_, rfl, post_of_same (pa := []) (pv := []) hW' (fun _ _ _ => (trodAll_cons_mk (shut_bool Try.underlying4 _) trodAll_mk0)) (fun sp _ => (trodAll_cons_mk (shut_int Try.underlying22 w0) (trodAll_cons_mk (shut_int Try.underlying22 w1) (trodAll_cons_mk (shut_int Try.underlying3 w2) (trodAll_cons_mk (shut_int Try.underlying3 w3) trodAll_mk0))))) (fun _ _ => rfl) rfl
    (hg.frame _) hg.2.1 (ok_one (by kernel_rfl) rfl (okWide_bool_mk Try.underlying4 _))⟩

theorem over : Rows.rateCommonRow.holds Try.pinned (OpenSpec.ofChange Rows.rateCommonSpec) :=
  OpenClaim.holds_of_wide 8 Try.f8 rfl rfl rfl rfl rfl rfl rfl ⟨rfl, rfl, rfl, rfl, rfl⟩ rfl rfl rfl rfl rfl (by kernel_rfl) Try.func8 (by kernel_rfl)
    (of_decide_eq_true (by kernel_rfl)) (by unfold Func.isWrapper; first | (rw [if_pos (by decide +kernel)]; kernel_rfl) | (rw [if_neg (by decide +kernel)]; exact ⟨rfl, rfl⟩))
    (fun os started H enc _ => lifted os started H enc)

theorem proved : Rows.RateCommonSaid :=
  over
#print axioms proved
end Go.Proofs.Ytmgpfahafadldaa.rateCommon
