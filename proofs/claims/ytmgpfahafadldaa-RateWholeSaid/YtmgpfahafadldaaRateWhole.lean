/- RateWhole: for every input the law returns true, and each argument reads afterwards as it read before. No condition. -/
import Derived.Test.YtmgpfahafadldaaRows
import Derived.WalkKit
import Derived.ProofKit
import Derived.OpenShut
import Derived.Test.YtmgpfahafadldaaScale
namespace Go.Proofs.Ytmgpfahafadldaa.rateWhole
open Go.ChangeShapes Go.WideShapes Go.ChangeAt Go.RowKit
set_option linter.unusedVariables false      -- a walk need not use every 'w<i>' (that an integer argument fits its kind)

theorem own : ownKnob Try.prog.godebug = none := by kernel_rfl

theorem scale_is {r m d v : Int} (w : World) (h0 : 0 ≤ r) (h1 : r ≤ 1099511627776) (m0 : 1 ≤ m) (m1 : m ≤ 1000) (d0 : 1 ≤ d) (d1 : d ≤ 1000) (hv : r * m / d = v) (h : v ≤ 1099511627776) :
    Calls Try.prog 16 #[.int .u64 r, .int .i64 m, .int .i64 d] w fun e w' => e = pairU v 0 ∧ w' = w := by
  subst hv; exact scale_ok r m d w h0 h1 m0 m1 d0 d1 h

theorem pick_is {c n p : Int} (w : World) (c0 : -9223372036854775808 ≤ c) (c1 : c ≤ 9223372036854775807) (n0 : 0 < n) (n1 : n ≤ 1000) (hp : pk c n = p) :
    Calls Try.prog 14 #[.int .i64 c, .int .i64 n] w fun e w' => e = .returned (.int .i64 p) ∧ w' = w := by
  subst hp; exact pick_any c n w c0 c1 n0 n1

theorem gcd_is {a b g : Int} (w : World) (h : gcd a b = g) (ha : 0 ≤ a) (hb : 0 ≤ b) : Calls Try.prog 15 #[.int .u64 a, .int .u64 b] w fun e w' => e = .returned (.int .u64 g) ∧ ∃ n, w' = w.drewN n := by
  rw [← h]; exact gcd_any a b w ha hb

theorem fit_is {r want d : Int} (w : World) (h0 : 0 ≤ r) (h1 : r ≤ 1099511627776) (h2 : 0 < want) (h : found (eqP want) r = d) (hd : 1 ≤ d) :
    Calls Try.prog 12 #[.int .u64 r, .int .u64 want] w fun e w' => e = pairE d 0 ∧ Mild w w' := by
  subst h; have := fit_any r want w h0 h1 h2; rw [errOf_pos hd] at this; exact this
theorem below_is {r want d : Int} (w : World) (h0 : 0 ≤ r) (h1 : r ≤ 1099511627776) (h2 : 0 < want) (h : found (leP want) r = d) (hd : 1 ≤ d) :
    Calls Try.prog 13 #[.int .u64 r, .int .u64 want] w fun e w' => e = pairE d 0 ∧ Mild w w' := by
  subst h; have := below_any r want w h0 h1 h2; rw [errOf_pos hd] at this; exact this

theorem gcd_mul_right {a m : Int} (ha : 0 ≤ a) (hm : 0 ≤ m) : gcd (a * m) a = a ∧ gcd (a * m) m = m := by
  obtain ⟨x, rfl⟩ := Int.eq_ofNat_of_zero_le ha
  obtain ⟨z, rfl⟩ := Int.eq_ofNat_of_zero_le hm
  unfold gcd
  have e1 : ((x : Int) * (z : Int)).toNat = x * z := rfl
  rw [e1]
  have a1 : (x : Int).toNat = x := rfl
  have a2 : (z : Int).toNat = z := rfl
  rw [a1, a2]
  constructor
  · rw [Nat.gcd_eq_right (Nat.dvd_mul_right x z)]
  · rw [Nat.gcd_eq_right (Nat.dvd_mul_left z x)]

set_option maxHeartbeats 1000000 in
theorem core (r c k n d : Int) (w : World) (r0 : 0 ≤ r) (A : Hid (-9223372036854775808 ≤ c ∧ c ≤ 9223372036854775807)) (M : Hid (pk c 1000 = k)) (k0 : 0 ≤ k) (k1 : k < 1000)
    (N : Hid ((1 + r % 1000000000) * (1 + k) = n)) (q0 : 0 ≤ r % 1000000000) (q1 : r % 1000000000 < 1000000000) (n0 : 0 ≤ n) (n1 : n ≤ 1000000000000) (x0 : 0 ≤ (1 + r % 1000000000) * (1 + k)) (x1 : (1 + r % 1000000000) * (1 + k) ≤ 1000000000000)
    (F : Hid (found (eqP (1 + r % 1000000000)) n = d)) (B : Hid (found (leP (1 + r % 1000000000)) n = d)) (d0 : 1 ≤ d) (d1 : d ≤ 1 + k) (Q : (n / d == 1 + r % 1000000000) = true)
    (S : Hid ((1 + r % 1000000000) * (1 + k) / 1 = n)) (G : Hid (gcd n (1 + r % 1000000000) = 1 + r % 1000000000)) (H : Hid (gcd n (1 + k) = 1 + k)) :
    Calls Try.prog 10 #[.int .u64 r, .int .i64 c] w fun e w' => e = .returned (.bool true) ∧ Mild w w' := by
  go_enter Try.func10, Try.ntmps10
  go_wp2_with fail
  refine (shown_any _).mono ?_; rintro z w1 ⟨rfl, hm1⟩
  go_wp2_with fail
  refine (pick_is _ A.out.1 A.out.2 (by omega) (by omega) M.out).mono ?_; rintro z w' ⟨rfl, rfl⟩
  go_wp2_with fail
  rw [N.out]
  refine (fit_is _ n0 (by omega) (by omega) F.out d0).mono ?_; rintro z w2 ⟨rfl, hm2⟩
  go_wp2_with fail
  refine (below_is _ n0 (by omega) (by omega) B.out d0).mono ?_; rintro z w3 ⟨rfl, hm3⟩
  go_wp2_with fail
  refine (scale_is _ (by omega) (by omega) (by omega) (by omega) (by omega) (by omega) S.out (by omega)).mono ?_; rintro z w' ⟨rfl, rfl⟩
  go_wp2_with fail
  refine (gcd_is _ G.out n0 (by omega)).mono ?_; rintro z w4 ⟨rfl, hm⟩
  have hm4 := Mild.of_drew hm
  clear hm
  go_wp2_with fail
  refine (gcd_is _ H.out n0 (by omega)).mono ?_; rintro z w5 ⟨rfl, hm⟩
  have hm5 := Mild.of_drew hm
  clear hm
  go_wp2_with fail
  go_ret
  exact ⟨rfl, (((hm1.trans hm2).trans hm3).trans hm4).trans hm5⟩

/-! ### STEP 1: THE WALK: the Go text returns true. 'Grown w w'': the world has at most new blocks (Derived/RowKit3.lean). Part the cases AHEAD of 'go_enter' where a test parts the walk; take each callee by a contract of your own. -/
theorem walk (a0 : Int) (a1 : Int) (w0 : (Lit.int .u64 a0).wf = true) (w1 : (Lit.int .i64 a1).wf = true) (w : World) :
    Calls Try.prog 10 #[.int .u64 a0, .int .i64 a1] w fun e w' => e = .returned (.bool true) ∧ Grown w w' := by
  obtain ⟨A0, A1⟩ := bounds_u64 w0
  have A := bounds_i64 w1
  have k0 := pk_lo a1 1000 (by omega)
  have k1 := pk_hi a1 1000 (by omega)
  have q0 : 0 ≤ a0 % 1000000000 := by omega
  have q1 : a0 % 1000000000 < 1000000000 := by omega
  have n0 : 0 ≤ (1 + a0 % 1000000000) * (1 + pk a1 1000) := Int.mul_nonneg (by omega) (by omega)
  have n1 : (1 + a0 % 1000000000) * (1 + pk a1 1000) ≤ 1000000000 * 1000 := Int.mul_le_mul (by omega) (by omega) (by omega) (by omega)
  have hq : (1 + a0 % 1000000000) * (1 + pk a1 1000) / (1 + pk a1 1000) = 1 + a0 % 1000000000 := Int.mul_ediv_cancel _ (by omega)
  have hg := gcd_mul_right (show 0 ≤ 1 + a0 % 1000000000 by omega) (show 0 ≤ 1 + pk a1 1000 by omega)
  rcases fit_facts ((1 + a0 % 1000000000) * (1 + pk a1 1000)) (1 + a0 % 1000000000) with ⟨f1, f2⟩ | ⟨f1, f2, f3, f4⟩
  · exact absurd hq (f2 (1 + pk a1 1000) (by omega) (by omega))
  · have hb := both_facts _ _ n0 f1
    have hd : found (eqP (1 + a0 % 1000000000)) ((1 + a0 % 1000000000) * (1 + pk a1 1000)) ≤ 1 + pk a1 1000 := by
      by_cases c : 1 + pk a1 1000 < found (eqP (1 + a0 % 1000000000)) ((1 + a0 % 1000000000) * (1 + pk a1 1000))
      · exact absurd hq (f4 _ (by omega) c)
      · omega
    exact (core a0 a1 _ _ _ w A0 A rfl k0 k1 rfl q0 q1 n0 (by omega) n0 (by omega) rfl hb.symm f1 hd (by simpa using f3) (Int.ediv_one _) hg.1 hg.2).mono fun e w' ⟨h, m⟩ => ⟨h, m.grown⟩

/-! ### THE ROW's STEP: WRITTEN OUT: LEAVE IT -/
set_option maxRecDepth 100000 in
theorem lifted (os : Os) (started : os.Started) (H : Type) (enc : TypeId × Value → H) :
    ReturnsInHanded {} Try.checked os 10 .any (Rows.rateWholeSpec.pre6 enc Try.prog Try.f10 Rows.rateWholeRow.domain false) (Rows.rateWholeSpec.post enc Try.prog Try.f10 false true false false) := by
  refine returnsInHanded_of_change (C := Try.checked) own started (by kernel_rfl) Try.func10
    (ChangeSpec.witness6 (enc := enc) (C := Try.checked) false ⟨#[], #[.int .u64 0, .int .i64 0], []⟩ 8 (by kernel_rfl) (by kernel_rfl) (by kernel_rfl) (by kernel_rfl)) ?_
  intro W base args ds gs before hval0 hW hcnd _
  have hval : ∀ (j : Nat) t v, Try.f10.params[j]? = some t → args[j]? = some v → Value.okWide Try.prog W .any base t v := hval0
  have hW' := hW
  obtain ⟨p, q, hA0, hV, rfl, hfz, hnd⟩ := hW
  have hA : DataW.TrodAll enc Try.prog W 0 (fun _ => true) true Try.f10.params.toList args.toList ds p := hA0
  rw [Try.params10] at hA hval
  obtain ⟨v0, vs0, d0, ds0, p0, q0, hargs, rfl, rfl, h0, r0⟩ := trodAll_cons hA
  obtain ⟨v1, vs1, d1, ds1, p1, q1, rfl, rfl, rfl, h1, r1⟩ := trodAll_cons r0
  obtain ⟨rfl, rfl, rfl⟩ := trodAll_nil r1
  obtain rfl : args = #[v0, v1] := by cases args; simp_all
  obtain ⟨rfl, rfl⟩ := trodVars_none hV
  obtain ⟨a0, rfl, rfl, rfl, w0⟩ := open_int Try.underlying22 (hval 0 22 v0 rfl rfl) h0
  obtain ⟨a1, rfl, rfl, rfl, w1⟩ := open_int Try.underlying3 (hval 1 3 v1 rfl rfl) h1
  clear hA0 hval0
  simp only [List.append_nil] at hW'
  refine (walk a0 a1 w0 w1 W).mono fun e W' ⟨he, hg⟩ => ?_
  subst he
  exact ⟨_, rfl, post_of_same (pa := []) (pv := []) hW' (fun _ _ _ => (trodAll_cons_mk (shut_bool Try.underlying4 _) trodAll_mk0)) (fun sp _ => (trodAll_cons_mk (shut_int Try.underlying22 w0) (trodAll_cons_mk (shut_int Try.underlying3 w1) trodAll_mk0))) (fun _ _ => rfl) rfl
    (hg.frame _) hg.2.1 (ok_one (by kernel_rfl) rfl (okWide_bool_mk Try.underlying4 _))⟩

theorem over : Rows.rateWholeRow.holds Try.pinned (OpenSpec.ofChange Rows.rateWholeSpec) :=
  OpenClaim.holds_of_wide 10 Try.f10 rfl rfl rfl rfl rfl rfl rfl ⟨rfl, rfl, rfl, rfl, rfl⟩ rfl rfl rfl rfl rfl (by kernel_rfl) Try.func10 (by kernel_rfl)
    (of_decide_eq_true (by kernel_rfl)) (by unfold Func.isWrapper; first | (rw [if_pos (by decide +kernel)]; kernel_rfl) | (rw [if_neg (by decide +kernel)]; exact ⟨rfl, rfl⟩))
    (fun os started H enc _ => lifted os started H enc)

theorem proved : Rows.RateWholeSaid :=
  over
#print axioms proved
end Go.Proofs.Ytmgpfahafadldaa.rateWhole
