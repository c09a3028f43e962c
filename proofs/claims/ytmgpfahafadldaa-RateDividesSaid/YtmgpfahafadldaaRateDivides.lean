/- RateDivides: for every input the law returns true, and each argument reads afterwards as it read before. No condition. -/
import Derived.Test.YtmgpfahafadldaaRows
import Derived.WalkKit
import Derived.ProofKit
import Derived.OpenShut
import Derived.Test.YtmgpfahafadldaaScale
namespace Go.Proofs.Ytmgpfahafadldaa.rateDivides
open Go.ChangeShapes Go.WideShapes Go.ChangeAt Go.RowKit
set_option linter.unusedVariables false      -- a walk need not use every 'w<i>' (that an integer argument fits its kind)

theorem own : ownKnob Try.prog.godebug = none := by kernel_rfl

theorem gcd_comm (a b : Int) : gcd a b = gcd b a := by unfold gcd; rw [Nat.gcd_comm]
theorem gcd_self {a : Int} (h : 0 ≤ a) : gcd a a = a := by unfold gcd; simp; omega
theorem gcd_nonneg (a b : Int) : 0 ≤ gcd a b := by unfold gcd; omega
theorem gcd_dvd {a b : Int} (ha : 0 ≤ a) (hb : 0 ≤ b) : a % gcd a b = 0 ∧ b % gcd a b = 0 := by
  obtain ⟨x, rfl⟩ := Int.eq_ofNat_of_zero_le ha
  obtain ⟨y, rfl⟩ := Int.eq_ofNat_of_zero_le hb
  unfold gcd
  have h1 := Nat.gcd_dvd_left x y
  have h2 := Nat.gcd_dvd_right x y
  constructor
  · show ((x : Int) % ((Nat.gcd x y : Nat) : Int)) = 0
    have := Nat.mod_eq_zero_of_dvd h1
    omega
  · show ((y : Int) % ((Nat.gcd x y : Nat) : Int)) = 0
    have := Nat.mod_eq_zero_of_dvd h2
    omega
theorem gcd_div {a b : Int} (ha : 0 ≤ a) (hb : 0 ≤ b) (h : 0 < gcd a b) : gcd (a / gcd a b) (b / gcd a b) = 1 := by
  obtain ⟨x, rfl⟩ := Int.eq_ofNat_of_zero_le ha
  obtain ⟨y, rfl⟩ := Int.eq_ofNat_of_zero_le hb
  unfold gcd at h ⊢
  have h' : 0 < Nat.gcd x y := by
    have e : ((x : Int).toNat.gcd (y : Int).toNat) = Nat.gcd x y := rfl
    rw [e] at h; omega
  show ((Nat.gcd (((x : Int) / ((Nat.gcd x y : Nat) : Int)).toNat) (((y : Int) / ((Nat.gcd x y : Nat) : Int)).toNat) : Nat) : Int) = 1
  have e1 : ((x : Int) / ((Nat.gcd x y : Nat) : Int)).toNat = x / Nat.gcd x y := rfl
  have e2 : ((y : Int) / ((Nat.gcd x y : Nat) : Int)).toNat = y / Nat.gcd x y := rfl
  rw [e1, e2, Nat.gcd_div (Nat.gcd_dvd_left x y) (Nat.gcd_dvd_right x y), Nat.div_self h']
  rfl
theorem gcd_eq_zero {a b : Int} (ha : 0 ≤ a) (hb : 0 ≤ b) (h : gcd a b = 0) : a = 0 ∧ b = 0 := by
  unfold gcd at h
  have h' : Nat.gcd a.toNat b.toNat = 0 := by omega
  have := Nat.gcd_eq_zero_iff.mp h'
  omega

set_option maxHeartbeats 1000000 in
theorem zero_walk (w : World) : Calls Try.prog 5 #[.int .u64 0, .int .u64 0] w fun e w' => e = .returned (.bool true) ∧ Mild w w' := by
  have acc := Mild.refl w
  have hz : gcd 0 0 = 0 := rfl
  go_enter Try.func5, Try.ntmps5
  go_wp2_with (first | (go_at_call 11; refine (shown_any _).mono ?_; rintro e w1 ⟨rfl, hm⟩; have acc := acc.trans hm; clear hm) | (go_at_call 15; refine (gcd_any 0 0 _ (by omega) (by omega)).mono ?_; rintro e w2 ⟨rfl, hm⟩; have acc := acc.trans (Mild.of_drew hm); clear hm))
  go_ret
  exact ⟨rfl, acc⟩

theorem gcd_is {a b g : Int} (w : World) (h : gcd a b = g) (ha : 0 ≤ a) (hb : 0 ≤ b) : Calls Try.prog 15 #[.int .u64 a, .int .u64 b] w fun e w' => e = .returned (.int .u64 g) ∧ ∃ n, w' = w.drewN n := by
  rw [← h]; exact gcd_any a b w ha hb

set_option maxHeartbeats 1000000 in
theorem some_walk (a b g : Int) (w : World) (ha : 0 ≤ a) (hb : 0 ≤ b) (A : Hid (a ≤ 18446744073709551615)) (B : Hid (b ≤ 18446744073709551615)) (g0 : 1 ≤ g) (E1 : Hid (gcd a b = g)) (E2 : Hid (gcd b a = g)) (E3 : Hid (gcd a 0 = a)) (E4 : Hid (gcd a a = a))
    (d1 : (a % g == 0) = true) (d2 : (b % g == 0) = true) (n1 : 0 ≤ a / g) (n2 : 0 ≤ b / g) (E5 : Hid (gcd (a / g) (b / g) = 1))
    (hc : (b == 0) = true ∨ ((b == 0) = false ∧ 1 ≤ b ∧ 0 ≤ a % b ∧ Hid (gcd (a % b) b = g))) :
    Calls Try.prog 5 #[.int .u64 a, .int .u64 b] w fun e w' => e = .returned (.bool true) ∧ Mild w w' := by
  have hz : (g == 0) = false := by simp; omega
  have hgz : ¬ g = 0 := by omega
  have m1 := Int.emod_nonneg a (show g ≠ 0 by omega)
  have m2 := Int.emod_lt_of_pos a (show 0 < g by omega)
  have m3 := Int.emod_nonneg b (show g ≠ 0 by omega)
  have m4 := Int.emod_lt_of_pos b (show 0 < g by omega)
  have t1 : a.tmod g = a % g := Int.tmod_eq_emod_of_nonneg ha
  have t2 : b.tmod g = b % g := Int.tmod_eq_emod_of_nonneg hb
  have q1 : IntKind.u64.wrap (a.tdiv g) = a / g := IntWalk.u64_quo _ _ ⟨ha, A.out, g0⟩
  have q2 : IntKind.u64.wrap (b.tdiv g) = b / g := IntWalk.u64_quo _ _ ⟨hb, B.out, g0⟩
  have t3 : a.tmod b = a % b := Int.tmod_eq_emod_of_nonneg ha
  have acc := Mild.refl w
  rcases hc with hc | ⟨hc, hc1, hc2, E6⟩
  · go_enter Try.func5, Try.ntmps5
    go_wp2_with (first | (go_at_call 11; refine (shown_any _).mono ?_; rintro e w1 ⟨rfl, hm⟩; have acc := acc.trans hm; clear hm) | (go_at_call 15; refine (gcd_any _ _ _ (by omega) (by omega)).mono ?_; (first | rw [E1.out] | rw [E2.out] | rw [E3.out] | rw [E4.out]); rintro e w2 ⟨rfl, hm⟩; have acc := acc.trans (Mild.of_drew hm); clear hm))
    go_quiet ((go_at_call 15; exact Calls.quiet_of (gcd_is _ E5.out n1 n2)))
    go_wp2
    go_ret
    exact ⟨rfl, acc.drewN _⟩
  · have hbz : ¬ b = 0 := by omega
    have m5 := Int.emod_lt_of_pos a (show 0 < b by omega)
    go_enter Try.func5, Try.ntmps5
    go_wp2_with (first | (go_at_call 11; refine (shown_any _).mono ?_; rintro e w1 ⟨rfl, hm⟩; have acc := acc.trans hm; clear hm) | (go_at_call 15; refine (gcd_any _ _ _ (by omega) (by omega)).mono ?_; (first | rw [E1.out] | rw [E2.out] | rw [E3.out] | rw [E4.out]); rintro e w2 ⟨rfl, hm⟩; have acc := acc.trans (Mild.of_drew hm); clear hm))
    go_quiet ((first | (go_at_call_of 15 (a % b); exact Calls.quiet_of (gcd_is _ E6.out hc2 hb)) | (go_at_call_of 15 (a / g); exact Calls.quiet_of (gcd_is _ E5.out n1 n2))))
    go_wp2
    go_ret
    exact ⟨rfl, acc.drewN _⟩

/-! ### STEP 1: THE WALK: the Go text returns true. 'Grown w w'': the world has at most new blocks (Derived/RowKit3.lean). Part the cases AHEAD of 'go_enter' where a test parts the walk; take each callee by a contract of your own. -/
theorem walk (a0 : Int) (a1 : Int) (w0 : (Lit.int .u64 a0).wf = true) (w1 : (Lit.int .u64 a1).wf = true) (w : World) :
    Calls Try.prog 5 #[.int .u64 a0, .int .u64 a1] w fun e w' => e = .returned (.bool true) ∧ Grown w w' := by
  obtain ⟨a0', a1'⟩ := bounds_u64 w0
  obtain ⟨b0', b1'⟩ := bounds_u64 w1
  have g0 := gcd_nonneg a0 a1
  by_cases h0 : gcd a0 a1 = 0
  · obtain ⟨rfl, rfl⟩ := gcd_eq_zero a0' b0' h0
    exact (zero_walk w).mono fun e w' ⟨h, m⟩ => ⟨h, m.grown⟩
  · obtain ⟨d1, d2⟩ := gcd_dvd a0' b0'
    refine (some_walk a0 a1 (gcd a0 a1) w a0' b0' a1' b1' (by omega) rfl (gcd_comm a1 a0) (gcd_zero a0') (gcd_self a0') (by simpa using d1) (by simpa using d2) (Int.ediv_nonneg a0' g0) (Int.ediv_nonneg b0' g0) (gcd_div a0' b0' (by omega)) ?_).mono fun e w' ⟨h, m⟩ => ⟨h, m.grown⟩
    by_cases hb : a1 = 0
    · exact Or.inl (by simpa using hb)
    · have hm := Int.emod_nonneg a0 hb
      exact Or.inr ⟨by simpa using hb, by omega, hm, by rw [Hid, gcd_comm (a0 % a1) a1, ← gcd_step a0' (by omega)]⟩

/-! ### THE ROW's STEP: WRITTEN OUT: LEAVE IT -/
set_option maxRecDepth 100000 in
theorem lifted (os : Os) (started : os.Started) (H : Type) (enc : TypeId × Value → H) :
    ReturnsInHanded {} Try.checked os 5 .any (Rows.rateDividesSpec.pre6 enc Try.prog Try.f5 Rows.rateDividesRow.domain false) (Rows.rateDividesSpec.post enc Try.prog Try.f5 false true false false) := by
  refine returnsInHanded_of_change (C := Try.checked) own started (by kernel_rfl) Try.func5
    (ChangeSpec.witness6 (enc := enc) (C := Try.checked) false ⟨#[], #[.int .u64 0, .int .u64 0], []⟩ 8 (by kernel_rfl) (by kernel_rfl) (by kernel_rfl) (by kernel_rfl)) ?_
  intro W base args ds gs before hval0 hW hcnd _
  have hval : ∀ (j : Nat) t v, Try.f5.params[j]? = some t → args[j]? = some v → Value.okWide Try.prog W .any base t v := hval0
  have hW' := hW
  obtain ⟨p, q, hA0, hV, rfl, hfz, hnd⟩ := hW
  have hA : DataW.TrodAll enc Try.prog W 0 (fun _ => true) true Try.f5.params.toList args.toList ds p := hA0
  rw [Try.params5] at hA hval
  obtain ⟨v0, vs0, d0, ds0, p0, q0, hargs, rfl, rfl, h0, r0⟩ := trodAll_cons hA
  obtain ⟨v1, vs1, d1, ds1, p1, q1, rfl, rfl, rfl, h1, r1⟩ := trodAll_cons r0
  obtain ⟨rfl, rfl, rfl⟩ := trodAll_nil r1
  obtain rfl : args = #[v0, v1] := by cases args; simp_all
  obtain ⟨rfl, rfl⟩ := trodVars_none hV
  obtain ⟨a0, rfl, rfl, rfl, w0⟩ := open_int Try.underlying22 (hval 0 22 v0 rfl rfl) h0
  obtain ⟨a1, rfl, rfl, rfl, w1⟩ := open_int Try.underlying22 (hval 1 22 v1 rfl rfl) h1
  clear hA0 hval0
  simp only [List.append_nil] at hW'
  refine (walk a0 a1 w0 w1 W).mono fun e W' ⟨he, hg⟩ => ?_
  subst he
  exact ⟨_, rfl, post_of_same (pa := []) (pv := []) hW' (fun _ _ _ => (trodAll_cons_mk (shut_bool Try.underlying4 _) trodAll_mk0)) (fun sp _ => (trodAll_cons_mk (shut_int Try.underlying22 w0) (trodAll_cons_mk (shut_int Try.underlying22 w1) trodAll_mk0))) (fun _ _ => rfl) rfl
    (hg.frame _) hg.2.1 (ok_one (by kernel_rfl) rfl (okWide_bool_mk Try.underlying4 _))⟩

theorem over : Rows.rateDividesRow.holds Try.pinned (OpenSpec.ofChange Rows.rateDividesSpec) :=
  OpenClaim.holds_of_wide 5 Try.f5 rfl rfl rfl rfl rfl rfl rfl ⟨rfl, rfl, rfl, rfl, rfl⟩ rfl rfl rfl rfl rfl (by kernel_rfl) Try.func5 (by kernel_rfl)
    (of_decide_eq_true (by kernel_rfl)) (by unfold Func.isWrapper; first | (rw [if_pos (by decide +kernel)]; kernel_rfl) | (rw [if_neg (by decide +kernel)]; exact ⟨rfl, rfl⟩))
    (fun os started H enc _ => lifted os started H enc)

theorem proved : Rows.RateDividesSaid :=
  over
#print axioms proved
end Go.Proofs.Ytmgpfahafadldaa.rateDivides
