/- BitsTurns: for every input the law returns true, and each argument reads afterwards as it read before. No condition. -/
import Derived.Test.YtojfhebejfibkaaRows
import Derived.WalkKit
import Derived.ProofKit
import Derived.OpenShut
import Derived.Test.YtojfhebejfibkaaBitLaw
namespace Go.Proofs.Ytojfhebejfibkaa.bitsTurns
open Go.ChangeShapes Go.WideShapes Go.ChangeAt Go.RowKit
set_option linter.unusedVariables false      -- a walk need not use every 'w<i>' (that an integer argument fits its kind)

theorem own : ownKnob Try.prog.godebug = none := by kernel_rfl

attribute [local go_sem ↓] not_op

set_option maxHeartbeats 1000000 in
theorem core (W K J K2 S T R C D : Nat) (a b : Int) (w : World) (HW : Hid (W < 4294967296)) (HT : Hid (T < 4294967296)) (k0 : K ≤ 31) (j0 : J ≤ 31) (k20 : K2 ≤ 31) (s0 : S ≤ 31)
    (A : Hid (a % 32 = K)) (B : Hid (b % 32 = J)) (A2 : Hid ((-a.tmod 32) % 32 = K2)) (AB : Hid ((a.tmod 32 + b.tmod 32) % 32 = S))
    (T1 : Hid (rotN W K = T)) (T2 : Hid (rotN T K2 = W)) (T3 : Hid (rotN W 0 = W)) (T4 : Hid (rotN T J = R)) (T5 : Hid (rotN W S = R)) (C1 : Hid (popN T = C)) (C2 : Hid (popN W = C)) (C3 : Hid (popN (4294967295 - W) = D)) (hs : Hid (C + D = 32)) (hc : C ≤ 32) (hd : D ≤ 32) :
    Calls Try.prog 4 #[.int .u32 W, .int .i64 a, .int .i64 b] w fun e w' => e = .returned (.bool true) ∧ Mild w w' := by
  have x1 := Int.tmod_lt_of_pos a (show (0 : Int) < 32 by omega)
  have x2 := Int.tmod_lt_of_pos (-a) (show (0 : Int) < 32 by omega)
  have y1 := Int.tmod_lt_of_pos b (show (0 : Int) < 32 by omega)
  have y2 := Int.tmod_lt_of_pos (-b) (show (0 : Int) < 32 by omega)
  rw [Int.neg_tmod] at x2 y2
  go_enter Try.func4, Try.ntmps4
  go_wp2_with fail
  refine (shown_any _).mono ?_; rintro z w1 ⟨rfl, hm⟩
  go_wp2_with fail
  refine (turn_is _ HW.out k0 T1.out rfl A.out).mono ?_; rintro z w' ⟨rfl, rfl⟩
  go_wp2_with fail
  refine (turn_is _ HT.out k20 T2.out rfl A2.out).mono ?_; rintro z w' ⟨rfl, rfl⟩
  go_wp2_with fail
  refine (turn_is (K := 0) _ HW.out (by omega) T3.out rfl (by omega)).mono ?_; rintro z w' ⟨rfl, rfl⟩
  go_wp2_with fail
  refine (turn_is (K := 0) _ HW.out (by omega) T3.out rfl (by omega)).mono ?_; rintro z w' ⟨rfl, rfl⟩
  go_wp2_with fail
  refine (count_is _ HT.out C1.out rfl).mono ?_; rintro z w' ⟨rfl, rfl⟩
  go_wp2_with fail
  refine (count_is _ HW.out C2.out rfl).mono ?_; rintro z w' ⟨rfl, rfl⟩
  go_wp2_with fail
  refine (turn_is _ HT.out j0 T4.out rfl B.out).mono ?_; rintro z w' ⟨rfl, rfl⟩
  go_wp2_with fail
  refine (turn_is _ HW.out s0 T5.out rfl AB.out).mono ?_; rintro z w' ⟨rfl, rfl⟩
  go_wp2_with fail
  refine (count_is _ HW.out C2.out rfl).mono ?_; rintro z w' ⟨rfl, rfl⟩
  go_wp2_with fail
  refine (count_is (W := 4294967295 - W) _ (by omega) C3.out (notI_nat HW.out)).mono ?_; rintro z w' ⟨rfl, rfl⟩
  go_wp2_with fail
  go_ret
  exact ⟨by have := hs.out; simp; omega, hm⟩

/-! ### STEP 1: THE WALK: the Go text returns true. 'Grown w w'': the world has at most new blocks (Derived/RowKit3.lean). Part the cases AHEAD of 'go_enter' where a test parts the walk; take each callee by a contract of your own. -/
theorem walk (a0 : Int) (a1 : Int) (a2 : Int) (w0 : (Lit.int .u32 a0).wf = true) (w1 : (Lit.int .i64 a1).wf = true) (w2 : (Lit.int .i64 a2).wf = true) (w : World) :
    Calls Try.prog 4 #[.int .u32 a0, .int .i64 a1, .int .i64 a2] w fun e w' => e = .returned (.bool true) ∧ Grown w w' := by
  obtain ⟨A0, A1⟩ := bounds_u32 w0
  obtain ⟨W, rfl⟩ := Int.eq_ofNat_of_zero_le A0
  have hW : W < 4294967296 := by omega
  obtain ⟨K, hK⟩ := Int.eq_ofNat_of_zero_le (show 0 ≤ a1 % 32 by omega)
  obtain ⟨J, hJ⟩ := Int.eq_ofNat_of_zero_le (show 0 ≤ a2 % 32 by omega)
  have ha := Int.mul_tdiv_add_tmod a1 32
  have hb := Int.mul_tdiv_add_tmod a2 32
  have kK : K ≤ 31 := by omega
  have jJ : J ≤ 31 := by omega
  have c := popN_not hW
  exact (core W K J ((32 - K) % 32) ((K + J) % 32) (rotN W K) _ _ _ a1 a2 w hW (rotN_lt hW (by omega)) kK jJ (by omega) (by omega) hK hJ (by show _ = _; omega) (by show _ = _; omega)
    rfl (rotN_back hW kK) (rotN_zero hW) (rotN_rotN hW (by omega) (by omega)) rfl (popN_rotN hW (by omega)) rfl rfl c (by omega) (by omega)).mono fun e w' ⟨h, m⟩ => ⟨h, m.grown⟩

/-! ### THE ROW's STEP: WRITTEN OUT: LEAVE IT -/
set_option maxRecDepth 100000 in
theorem lifted (os : Os) (started : os.Started) (H : Type) (enc : TypeId × Value → H) :
    ReturnsInHanded {} Try.checked os 4 .any (Rows.bitsTurnsSpec.pre6 enc Try.prog Try.f4 Rows.bitsTurnsRow.domain false) (Rows.bitsTurnsSpec.post enc Try.prog Try.f4 false true false false) := by
  refine returnsInHanded_of_change (C := Try.checked) own started (by kernel_rfl) Try.func4
    (ChangeSpec.witness6 (enc := enc) (C := Try.checked) false ⟨#[], #[.int .u32 0, .int .i64 0, .int .i64 0], []⟩ 8 (by kernel_rfl) (by kernel_rfl) (by kernel_rfl) (by kernel_rfl)) ?_
  intro W base args ds gs before hval0 hW hcnd _
  have hval : ∀ (j : Nat) t v, Try.f4.params[j]? = some t → args[j]? = some v → Value.okWide Try.prog W .any base t v := hval0
  have hW' := hW
  obtain ⟨p, q, hA0, hV, rfl, hfz, hnd⟩ := hW
  have hA : DataW.TrodAll enc Try.prog W 0 (fun _ => true) true Try.f4.params.toList args.toList ds p := hA0
  rw [Try.params4] at hA hval
  obtain ⟨v0, vs0, d0, ds0, p0, q0, hargs, rfl, rfl, h0, r0⟩ := trodAll_cons hA
  obtain ⟨v1, vs1, d1, ds1, p1, q1, rfl, rfl, rfl, h1, r1⟩ := trodAll_cons r0
  obtain ⟨v2, vs2, d2, ds2, p2, q2, rfl, rfl, rfl, h2, r2⟩ := trodAll_cons r1
  obtain ⟨rfl, rfl, rfl⟩ := trodAll_nil r2
  obtain rfl : args = #[v0, v1, v2] := by cases args; simp_all
  obtain ⟨rfl, rfl⟩ := trodVars_none hV
  obtain ⟨a0, rfl, rfl, rfl, w0⟩ := open_int Try.underlying22 (hval 0 22 v0 rfl rfl) h0
  obtain ⟨a1, rfl, rfl, rfl, w1⟩ := open_int Try.underlying3 (hval 1 3 v1 rfl rfl) h1
  obtain ⟨a2, rfl, rfl, rfl, w2⟩ := open_int Try.underlying3 (hval 2 3 v2 rfl rfl) h2
  clear hA0 hval0
  simp only [List.append_nil] at hW'
  refine (walk a0 a1 a2 w0 w1 w2 W).mono fun e W' ⟨he, hg⟩ => ?_
  subst he
  exact ⟨_, rfl, post_of_same (pa := []) (pv := []) hW' (fun _ _ _ => (trodAll_cons_mk (shut_bool Try.underlying4 _) trodAll_mk0)) (fun sp _ => (trodAll_cons_mk (shut_int Try.underlying22 w0) (trodAll_cons_mk (shut_int Try.underlying3 w1) (trodAll_cons_mk (shut_int Try.underlying3 w2) trodAll_mk0)))) (fun _ _ => rfl) rfl
    (hg.frame _) hg.2.1 (ok_one (by kernel_rfl) rfl (okWide_bool_mk Try.underlying4 _))⟩

theorem over : Rows.bitsTurnsRow.holds Try.pinned (OpenSpec.ofChange Rows.bitsTurnsSpec) :=
  OpenClaim.holds_of_wide 4 Try.f4 rfl rfl rfl rfl rfl rfl rfl ⟨rfl, rfl, rfl, rfl, rfl⟩ rfl rfl rfl rfl rfl (by kernel_rfl) Try.func4 (by kernel_rfl)
    (of_decide_eq_true (by kernel_rfl)) (by unfold Func.isWrapper; first | (rw [if_pos (by decide +kernel)]; kernel_rfl) | (rw [if_neg (by decide +kernel)]; exact ⟨rfl, rfl⟩))
    (fun os started H enc _ => lifted os started H enc)

theorem proved : Rows.BitsTurnsSaid :=
  over
#print axioms proved
end Go.Proofs.Ytojfhebejfibkaa.bitsTurns
