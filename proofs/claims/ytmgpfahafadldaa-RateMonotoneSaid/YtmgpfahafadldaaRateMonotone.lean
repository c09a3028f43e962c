/- RateMonotone: for every input the law returns true, and each argument reads afterwards as it read before. No condition. -/
import Derived.Test.YtmgpfahafadldaaRows
import Derived.WalkKit
import Derived.ProofKit
import Derived.OpenShut
import Derived.Test.YtmgpfahafadldaaScale
namespace Go.Proofs.Ytmgpfahafadldaa.rateMonotone
open Go.ChangeShapes Go.WideShapes Go.ChangeAt Go.RowKit
set_option linter.unusedVariables false      -- a walk need not use every 'w<i>' (that an integer argument fits its kind)

theorem own : ownKnob Try.prog.godebug = none := by kernel_rfl

def mnI (x y : Int) : Int := if y < x then y else x
def mxI (x y : Int) : Int := if x < y then y else x

theorem min_int (ats : Array TypeId) (ty : TypeId) (k : IntKind) (x y : Int) : Builtin.min_ ats ty #[.int k x, .int k y] = pure (.int k (mnI x y)) := rfl
theorem max_int (ats : Array TypeId) (ty : TypeId) (k : IntKind) (x y : Int) : Builtin.max_ ats ty #[.int k x, .int k y] = pure (.int k (mxI x y)) := rfl
attribute [local go_sem ↓] min_int max_int

def sc (r m d v e : Int) : Prop := (r * m / d ≤ 1099511627776 ∧ v = r * m / d ∧ e = 0) ∨ (1099511627776 < r * m / d ∧ v = 0 ∧ e = 3)

theorem scale_tot {r m d v e : Int} (w : World) (h0 : 0 ≤ r) (h1 : r ≤ 1099511627776) (m0 : 1 ≤ m) (m1 : m ≤ 1000) (d0 : 1 ≤ d) (d1 : d ≤ 1000) (hv : sc r m d v e) :
    Calls Try.prog 16 #[.int .u64 r, .int .i64 m, .int .i64 d] w fun z w' => z = pairU v e ∧ w' = w := by
  rcases hv with ⟨h, rfl, rfl⟩ | ⟨h, rfl, rfl⟩
  · exact scale_ok r m d w h0 h1 m0 m1 d0 d1 h
  · exact scale_over r m d w h0 h1 m0 m1 d0 d1 h

theorem pick_is {c n p : Int} (w : World) (c0 : -9223372036854775808 ≤ c) (c1 : c ≤ 9223372036854775807) (n0 : 0 < n) (n1 : n ≤ 1000) (hp : pk c n = p) :
    Calls Try.prog 14 #[.int .i64 c, .int .i64 n] w fun e w' => e = .returned (.int .i64 p) ∧ w' = w := by
  subst hp; exact pick_any c n w c0 c1 n0 n1

set_option maxHeartbeats 2000000 in
theorem core (a b x y p q mm dd m2 d2 s e t f u g v h : Int) (w : World) (a0 : 0 ≤ a) (b0 : 0 ≤ b) (A : Hid (-9223372036854775808 ≤ x ∧ x ≤ 9223372036854775807)) (B : Hid (-9223372036854775808 ≤ y ∧ y ≤ 9223372036854775807))
    (P : Hid (mnI (a % 1099511627777) (b % 1099511627777) = p)) (Q : Hid (mxI (a % 1099511627777) (b % 1099511627777) = q)) (p0 : 0 ≤ p) (p1 : p ≤ 1099511627776) (q0 : 0 ≤ q) (q1 : q ≤ 1099511627776)
    (M : Hid (pk x 1000 = mm)) (D : Hid (pk y 1000 = dd)) (m0 : 0 ≤ mm) (m1 : mm < 1000) (d0 : 0 ≤ dd) (d1 : dd < 1000) (M2 : Hid (mnI (1 + mm + 1) 1000 = m2)) (D2 : Hid (mxI (1 + dd - 1) 1 = d2)) (m20 : 1 ≤ m2) (m21 : m2 ≤ 1000) (d20 : 1 ≤ d2) (d21 : d2 ≤ 1000)
    (S : Hid (sc p (1 + mm) (1 + dd) s e)) (T : Hid (sc q (1 + mm) (1 + dd) t f)) (U : Hid (sc p m2 (1 + dd) u g)) (V : Hid (sc p (1 + mm) d2 v h)) (z0 : 0 ≤ p * (1 + mm)) (z1 : p * (1 + mm) ≤ 1099511627776000)
    (F : Hid ((e = 0 ∧ p * (1 + mm) / (1 + dd) ≤ 1099511627776 ∧ (f = 3 ∨ (f = 0 ∧ s ≤ t)) ∧ (g = 3 ∨ (g = 0 ∧ s ≤ u)) ∧ (h = 3 ∨ (h = 0 ∧ s ≤ v))) ∨
      (e = 3 ∧ s = 0 ∧ f = 3 ∧ g = 3 ∧ h = 3 ∧ 1099511627776 < p * (1 + mm) / (1 + dd)))) :
    Calls Try.prog 7 #[.int .u64 a, .int .u64 b, .int .i64 x, .int .i64 y] w fun e w' => e = .returned (.bool true) ∧ Mild w w' := by
  go_enter Try.func7, Try.ntmps7
  go_wp2_with fail
  refine (shown_any _).mono ?_; rintro z w1 ⟨rfl, hm1⟩
  go_wp2_with fail
  rw [P.out, Q.out]
  refine (pick_is _ A.out.1 A.out.2 (by omega) (by omega) M.out).mono ?_; rintro z w' ⟨rfl, rfl⟩
  go_wp2_with fail
  refine (pick_is _ B.out.1 B.out.2 (by omega) (by omega) D.out).mono ?_; rintro z w' ⟨rfl, rfl⟩
  go_wp2_with fail
  refine (scale_tot _ p0 p1 (by omega) (by omega) (by omega) (by omega) S.out).mono ?_; rintro z w' ⟨rfl, rfl⟩
  go_wp2_with fail
  refine (scale_tot _ q0 q1 (by omega) (by omega) (by omega) (by omega) T.out).mono ?_; rintro z w' ⟨rfl, rfl⟩
  go_wp2_with fail
  rw [M2.out]
  refine (scale_tot _ p0 p1 (by omega) (by omega) (by omega) (by omega) U.out).mono ?_; rintro z w' ⟨rfl, rfl⟩
  go_wp2_with fail
  rw [D2.out]
  refine (scale_tot _ p0 p1 (by omega) (by omega) (by omega) (by omega) V.out).mono ?_; rintro z w' ⟨rfl, rfl⟩
  rcases F.out with ⟨rfl, hs, F1, F2, F3⟩ | ⟨rfl, rfl, rfl, rfl, rfl, hb⟩
  · clear F
    rcases F1 with rfl | ⟨rfl, hf2⟩ <;> rcases F2 with rfl | ⟨rfl, hg2⟩ <;> rcases F3 with rfl | ⟨rfl, hh2⟩
    all_goals
      go_wp2_with fail
      go_ret
      exact ⟨rfl, hm1⟩
  · clear F
    go_wp2_with fail
    go_ret
    exact ⟨by simp; omega, hm1⟩

theorem sc_exists (r m d : Int) : ∃ v e, sc r m d v e := by
  by_cases h : r * m / d ≤ 1099511627776
  · exact ⟨_, _, Or.inl ⟨h, rfl, rfl⟩⟩
  · exact ⟨_, _, Or.inr ⟨by omega, rfl, rfl⟩⟩

/-- One rate is scaled to no greater one than the other. -/
theorem sc_le {r m d v e r2 m2 d2 v2 e2 : Int} (h : sc r m d v e) (h2 : sc r2 m2 d2 v2 e2) (hle : r * m / d ≤ r2 * m2 / d2) :
    (e = 0 → e2 = 3 ∨ (e2 = 0 ∧ v ≤ v2)) ∧ (e = 3 → e2 = 3) := by
  rcases h with ⟨a, rfl, rfl⟩ | ⟨a, rfl, rfl⟩ <;> rcases h2 with ⟨b, rfl, rfl⟩ | ⟨b, rfl, rfl⟩ <;> constructor <;> intro h <;> first | omega | (right; exact ⟨rfl, hle⟩) | (left; rfl)

theorem div_mono {a b : Int} (d : Int) (hd : 0 < d) (h : a ≤ b) : a / d ≤ b / d := Int.ediv_le_ediv hd h

/-! ### STEP 1: THE WALK: the Go text returns true. 'Grown w w'': the world has at most new blocks (Derived/RowKit3.lean). Part the cases AHEAD of 'go_enter' where a test parts the walk; take each callee by a contract of your own. -/
theorem walk (a0 : Int) (a1 : Int) (a2 : Int) (a3 : Int) (w0 : (Lit.int .u64 a0).wf = true) (w1 : (Lit.int .u64 a1).wf = true) (w2 : (Lit.int .i64 a2).wf = true) (w3 : (Lit.int .i64 a3).wf = true) (w : World) :
    Calls Try.prog 7 #[.int .u64 a0, .int .u64 a1, .int .i64 a2, .int .i64 a3] w fun e w' => e = .returned (.bool true) ∧ Grown w w' := by
  obtain ⟨A0, A1⟩ := bounds_u64 w0
  obtain ⟨B0, B1⟩ := bounds_u64 w1
  have A := bounds_i64 w2
  have B := bounds_i64 w3
  have m0 := pk_lo a2 1000 (by omega)
  have m1 := pk_hi a2 1000 (by omega)
  have d0 := pk_lo a3 1000 (by omega)
  have d1 := pk_hi a3 1000 (by omega)
  obtain ⟨p, hp⟩ : ∃ p, mnI (a0 % 1099511627777) (a1 % 1099511627777) = p := ⟨_, rfl⟩
  obtain ⟨q, hq⟩ : ∃ q, mxI (a0 % 1099511627777) (a1 % 1099511627777) = q := ⟨_, rfl⟩
  obtain ⟨mm, hm⟩ : ∃ q, pk a2 1000 = q := ⟨_, rfl⟩
  obtain ⟨dd, hd⟩ : ∃ q, pk a3 1000 = q := ⟨_, rfl⟩
  obtain ⟨m2, hm2⟩ : ∃ q, mnI (1 + mm + 1) 1000 = q := ⟨_, rfl⟩
  obtain ⟨d2, hd2⟩ : ∃ q, mxI (1 + dd - 1) 1 = q := ⟨_, rfl⟩
  have kpq : 0 ≤ p ∧ p ≤ q ∧ q ≤ 1099511627776 := by unfold mnI at hp; unfold mxI at hq; split at hp <;> split at hq <;> omega
  have km2 : 1 + mm ≤ m2 ∧ m2 ≤ 1000 := by unfold mnI at hm2; split at hm2 <;> omega
  have kd2 : 1 ≤ d2 ∧ d2 ≤ 1 + dd := by unfold mxI at hd2; split at hd2 <;> omega
  rw [hm] at m0 m1
  rw [hd] at d0 d1
  obtain ⟨s, e, S⟩ := sc_exists p (1 + mm) (1 + dd)
  obtain ⟨t, f, T⟩ := sc_exists q (1 + mm) (1 + dd)
  obtain ⟨u, g, U⟩ := sc_exists p m2 (1 + dd)
  obtain ⟨v, h, V⟩ := sc_exists p (1 + mm) d2
  have z0 : 0 ≤ p * (1 + mm) := Int.mul_nonneg kpq.1 (by omega)
  have z1 : p * (1 + mm) ≤ 1099511627776 * 1000 := Int.mul_le_mul (by omega) (by omega) (by omega) (by omega)
  have L1 := sc_le S T (div_mono _ (by omega) (Int.mul_le_mul_of_nonneg_right kpq.2.1 (by omega)))
  have L2 := sc_le S U (div_mono _ (by omega) (Int.mul_le_mul_of_nonneg_left km2.1 kpq.1))
  have L3 := sc_le S V (div_anti _ z0 (by omega) kd2.2)
  refine (core a0 a1 a2 a3 p q mm dd m2 d2 s e t f u g v h w A0 B0 A B hp hq kpq.1 (by omega) (by omega) kpq.2.2 hm hd m0 m1 d0 d1 hm2 hd2 (by omega) km2.2 kd2.1 (by omega) S T U V z0 (by omega) ?_).mono fun e w' ⟨h, m⟩ => ⟨h, m.grown⟩
  rcases S with ⟨a, b, rfl⟩ | ⟨a, b, rfl⟩
  · exact Or.inl ⟨rfl, a, L1.1 rfl, L2.1 rfl, L3.1 rfl⟩
  · exact Or.inr ⟨rfl, b, L1.2 rfl, L2.2 rfl, L3.2 rfl, a⟩

/-! ### THE ROW's STEP: WRITTEN OUT: LEAVE IT -/
set_option maxRecDepth 100000 in
theorem lifted (os : Os) (started : os.Started) (H : Type) (enc : TypeId × Value → H) :
    ReturnsInHanded {} Try.checked os 7 .any (Rows.rateMonotoneSpec.pre6 enc Try.prog Try.f7 Rows.rateMonotoneRow.domain false) (Rows.rateMonotoneSpec.post enc Try.prog Try.f7 false true false false) := by
  refine returnsInHanded_of_change (C := Try.checked) own started (by kernel_rfl) Try.func7
    (ChangeSpec.witness6 (enc := enc) (C := Try.checked) false ⟨#[], #[.int .u64 0, .int .u64 0, .int .i64 0, .int .i64 0], []⟩ 8 (by kernel_rfl) (by kernel_rfl) (by kernel_rfl) (by kernel_rfl)) ?_
  intro W base args ds gs before hval0 hW hcnd _
  have hval : ∀ (j : Nat) t v, Try.f7.params[j]? = some t → args[j]? = some v → Value.okWide Try.prog W .any base t v := hval0
  have hW' := hW
  obtain ⟨p, q, hA0, hV, rfl, hfz, hnd⟩ := hW
  have hA : DataW.TrodAll enc Try.prog W 0 (fun _ => true) true Try.f7.params.toList args.toList ds p := hA0
  rw [Try.params7] at hA hval
  obtain ⟨v0, vs0, d0, ds0, p0, q0, hargs, rfl, rfl, h0, r0⟩ := trodAll_cons hA
  obtain ⟨v1, vs1, d1, ds1, p1, q1, rfl, rfl, rfl, h1, r1⟩ := trodAll_cons r0
  obtain ⟨v2, vs2, d2, ds2, p2, q2, rfl, rfl, rfl, h2, r2⟩ := trodAll_cons r1
  obtain ⟨v3, vs3, d3, ds3, p3, q3, rfl, rfl, rfl, h3, r3⟩ := trodAll_cons r2
  obtain ⟨rfl, rfl, rfl⟩ := trodAll_nil r3
  obtain rfl : args = #[v0, v1, v2, v3] := by cases args; simp_all
  obtain ⟨rfl, rfl⟩ := trodVars_none hV
  obtain ⟨a0, rfl, rfl, rfl, w0⟩ := open_int Try.underlying22 (hval 0 22 v0 rfl rfl) h0
  obtain ⟨a1, rfl, rfl, rfl, w1⟩ := open_int Try.underlying22 (hval 1 22 v1 rfl rfl) h1
  obtain ⟨a2, rfl, rfl, rfl, w2⟩ := open_int Try.underlying3 (hval 2 3 v2 rfl rfl) h2
  obtain ⟨a3, rfl, rfl, rfl, w3⟩ := open_int Try.underlying3 (hval 3 3 v3 rfl rfl) h3
  clear hA0 hval0
  simp only [List.append_nil] at hW'
  refine (walk a0 a1 a2 a3 w0 w1 w2 w3 W).mono fun e W' ⟨he, hg⟩ => ?_
  subst he
  exact ⟨_, rfl, post_of_same (pa := []) (pv := []) hW' (fun _ _ _ => (trodAll_cons_mk (shut_bool Try.underlying4 _) trodAll_mk0)) (fun sp _ => (trodAll_cons_mk (shut_int Try.underlying22 w0) (trodAll_cons_mk (shut_int Try.underlying22 w1) (trodAll_cons_mk (shut_int Try.underlying3 w2) (trodAll_cons_mk (shut_int Try.underlying3 w3) trodAll_mk0))))) (fun _ _ => rfl) rfl
    (hg.frame _) hg.2.1 (ok_one (by kernel_rfl) rfl (okWide_bool_mk Try.underlying4 _))⟩

theorem over : Rows.rateMonotoneRow.holds Try.pinned (OpenSpec.ofChange Rows.rateMonotoneSpec) :=
  OpenClaim.holds_of_wide 7 Try.f7 rfl rfl rfl rfl rfl rfl rfl ⟨rfl, rfl, rfl, rfl, rfl⟩ rfl rfl rfl rfl rfl (by kernel_rfl) Try.func7 (by kernel_rfl)
    (of_decide_eq_true (by kernel_rfl)) (by unfold Func.isWrapper; first | (rw [if_pos (by decide +kernel)]; kernel_rfl) | (rw [if_neg (by decide +kernel)]; exact ⟨rfl, rfl⟩))
    (fun os started H enc _ => lifted os started H enc)

theorem proved : Rows.RateMonotoneSaid :=
  over
#print axioms proved
end Go.Proofs.Ytmgpfahafadldaa.rateMonotone
