/- BitsTurned: for every input the law returns true, and each argument reads afterwards as it read before. No condition. -/
import Derived.Test.YtojfhebejfibkaaRows
import Derived.WalkKit
import Derived.ProofKit
import Derived.OpenShut
import Derived.Test.YtojfhebejfibkaaBitLaw
namespace Go.Proofs.Ytojfhebejfibkaa.bitsTurned
open Go.ChangeShapes Go.WideShapes Go.ChangeAt Go.RowKit
set_option linter.unusedVariables false      -- a walk need not use every 'w<i>' (that an integer argument fits its kind)

theorem own : ownKnob Try.prog.godebug = none := by kernel_rfl

set_option maxHeartbeats 1000000 in
theorem core (W M0 M K T L T2 R G C1 C2 : Nat) (lo mn by' : Int) (w : World) (HW : Hid (W < 4294967296)) (HR : Hid (R < 4294967296)) (HG : Hid (G < 4294967296))
    (A : Hid (md mn 31 = M0)) (B : Hid (md lo (33 - (1 + (M0 : Int))) = K)) (C : Hid (md by' (33 - (1 + (M0 : Int)) - K) = T)) (m0 : M0 ≤ 30) (k0 : K + M0 ≤ 31) (t0 : T + K + M0 ≤ 31)
    (EM : Hid (M = 1 + M0)) (EL : Hid (L = K + T)) (ET : Hid ((32 - (T : Int)) % 32 = T2)) (t2 : T2 ≤ 31)
    (G1 : Hid (getN W K M = G)) (R1 : Hid (rotN W T = R)) (G2 : Hid (getN R L M = G)) (R2 : Hid (rotN R T2 = W)) (P1 : Hid (popN G = C1)) (P2 : Hid (popN W = C2)) (c1 : C1 ≤ C2) (c2 : C1 ≤ 1 + M0) :
    Calls Try.prog 5 #[.int .u32 W, .int .i64 lo, .int .i64 mn, .int .i64 by'] w fun e w' => e = .returned (.bool true) ∧ Mild w w' := by
  have acc := Mild.refl w
  have eM := EM.out
  have eL := EL.out
  have HM := Lib.hid (show 1 ≤ M by omega)
  have H1 := Lib.hid (show K + M ≤ 32 by omega)
  have H2 := Lib.hid (show L + M ≤ 32 by omega)
  have iM := Lib.hid (show (1 + (M0 : Int)) = (M : Nat) by omega)
  have iL := Lib.hid (show ((K : Int) + T) = (L : Nat) by omega)
  clear eM eL EM EL
  go_enter Try.func5, Try.ntmps5
  go_wp2_with fail
  refine (shown_any _).mono ?_; rintro z w1 ⟨rfl, hm⟩
  have acc := acc.trans hm; clear hm
  go_wp2_with fail
  refine (mod_is _ (by omega) (by omega) A.out).mono ?_; rintro z w' ⟨rfl, rfl⟩
  go_wp2_with fail
  refine (mod_is _ (by omega) (by omega) B.out).mono ?_; rintro z w' ⟨rfl, rfl⟩
  go_wp2_with fail
  refine (mod_is _ (by omega) (by omega) C.out).mono ?_; rintro z w' ⟨rfl, rfl⟩
  go_wp2_with fail
  refine (get_is _ HW.out HM.out H1.out G1.out rfl rfl iM.out).mono ?_; rintro z w1 ⟨rfl, hm⟩
  have acc := acc.trans hm; clear hm
  go_wp2_with fail
  refine (turn_is _ HW.out (by omega) R1.out rfl (by omega)).mono ?_; rintro z w' ⟨rfl, rfl⟩
  go_wp2_with fail
  refine (get_is _ HR.out HM.out H2.out G2.out rfl iL.out iM.out).mono ?_; rintro z w1 ⟨rfl, hm⟩
  have acc := acc.trans hm; clear hm
  go_wp2_with fail
  refine (turn_is _ HW.out (by omega) R1.out rfl (by omega)).mono ?_; rintro z w' ⟨rfl, rfl⟩
  go_wp2_with fail
  refine (turn_is _ HR.out t2 R2.out rfl ET.out).mono ?_; rintro z w' ⟨rfl, rfl⟩
  go_wp2_with fail
  refine (count_is _ HG.out P1.out rfl).mono ?_; rintro z w' ⟨rfl, rfl⟩
  go_wp2_with fail
  refine (count_is _ HW.out P2.out rfl).mono ?_; rintro z w' ⟨rfl, rfl⟩
  go_wp2_with fail
  refine (count_is _ HG.out P1.out rfl).mono ?_; rintro z w' ⟨rfl, rfl⟩
  go_wp2_with fail
  go_ret
  exact ⟨by simp; omega, acc⟩

/-! ### STEP 1: THE WALK: the Go text returns true. 'Grown w w'': the world has at most new blocks (Derived/RowKit3.lean). Part the cases AHEAD of 'go_enter' where a test parts the walk; take each callee by a contract of your own. -/
theorem walk (a0 : Int) (a1 : Int) (a2 : Int) (a3 : Int) (w0 : (Lit.int .u32 a0).wf = true) (w1 : (Lit.int .i64 a1).wf = true) (w2 : (Lit.int .i64 a2).wf = true) (w3 : (Lit.int .i64 a3).wf = true) (w : World) :
    Calls Try.prog 5 #[.int .u32 a0, .int .i64 a1, .int .i64 a2, .int .i64 a3] w fun e w' => e = .returned (.bool true) ∧ Grown w w' := by
  obtain ⟨A0, A1⟩ := bounds_u32 w0
  obtain ⟨W, rfl⟩ := Int.eq_ofNat_of_zero_le A0
  have hW : W < 4294967296 := by omega
  obtain ⟨M0, hM⟩ := Int.eq_ofNat_of_zero_le (md_lo a2 31)
  have m1 := md_hi a2 (n := 31) (by omega)
  obtain ⟨K, hK⟩ := Int.eq_ofNat_of_zero_le (md_lo a1 (33 - (1 + (M0 : Int))))
  have k1 := md_hi a1 (n := 33 - (1 + (M0 : Int))) (by omega)
  obtain ⟨T, hT⟩ := Int.eq_ofNat_of_zero_le (md_lo a3 (33 - (1 + (M0 : Int)) - K))
  have t1 := md_hi a3 (n := 33 - (1 + (M0 : Int)) - K) (by omega)
  have g := getN_rotN (w := W) (t := T) (l := K) (m := 1 + M0) hW (by omega)
  have c := popN_getN_le (w := W) (l := K) (m := 1 + M0) (by omega)
  have gl : getN W K (1 + M0) < 4294967296 := Nat.lt_of_le_of_lt (Nat.mod_le _ _) (Nat.lt_of_le_of_lt (Nat.div_le_self _ _) hW)
  exact (core W M0 (1 + M0) K T (K + T) ((32 - T) % 32) (rotN W T) _ _ _ a1 a2 a3 w hW (rotN_lt hW (by omega)) gl hM hK hT (by omega) (by omega) (by omega) rfl rfl (by show _ = _; omega) (by omega)
    rfl rfl g (rotN_back hW (by omega)) rfl rfl c.1 c.2).mono fun e w' ⟨h, m⟩ => ⟨h, m.grown⟩

/-! ### THE ROW's STEP: WRITTEN OUT: LEAVE IT -/
set_option maxRecDepth 100000 in
theorem lifted (os : Os) (started : os.Started) (H : Type) (enc : TypeId × Value → H) :
    ReturnsInHanded {} Try.checked os 5 .any (Rows.bitsTurnedSpec.pre6 enc Try.prog Try.f5 Rows.bitsTurnedRow.domain false) (Rows.bitsTurnedSpec.post enc Try.prog Try.f5 false true false false) := by
  refine returnsInHanded_of_change (C := Try.checked) own started (by kernel_rfl) Try.func5
    (ChangeSpec.witness6 (enc := enc) (C := Try.checked) false ⟨#[], #[.int .u32 0, .int .i64 0, .int .i64 0, .int .i64 0], []⟩ 8 (by kernel_rfl) (by kernel_rfl) (by kernel_rfl) (by kernel_rfl)) ?_
  intro W base args ds gs before hval0 hW hcnd _
  have hval : ∀ (j : Nat) t v, Try.f5.params[j]? = some t → args[j]? = some v → Value.okWide Try.prog W .any base t v := hval0
  have hW' := hW
  obtain ⟨p, q, hA0, hV, rfl, hfz, hnd⟩ := hW
  have hA : DataW.TrodAll enc Try.prog W 0 (fun _ => true) true Try.f5.params.toList args.toList ds p := hA0
  rw [Try.params5] at hA hval
  obtain ⟨v0, vs0, d0, ds0, p0, q0, hargs, rfl, rfl, h0, r0⟩ := trodAll_cons hA
  obtain ⟨v1, vs1, d1, ds1, p1, q1, rfl, rfl, rfl, h1, r1⟩ := trodAll_cons r0
  obtain ⟨v2, vs2, d2, ds2, p2, q2, rfl, rfl, rfl, h2, r2⟩ := trodAll_cons r1
  obtain ⟨v3, vs3, d3, ds3, p3, q3, rfl, rfl, rfl, h3, r3⟩ := trodAll_cons r2
  obtain ⟨rfl, rfl, rfl⟩ := trodAll_nil r3
  obtain rfl : args = #[v0, v1, v2, v3] := by cases args; simp_all
  obtain ⟨rfl, rfl⟩ := trodVars_none hV
  obtain ⟨a0, rfl, rfl, rfl, w0⟩ := open_int Try.underlying22 (hval 0 22 v0 rfl rfl) h0
  obtain ⟨a1, rfl, rfl, rfl, w1⟩ := open_int Try.underlying3 (hval 1 3 v1 rfl rfl) h1
  obtain ⟨a2, rfl, rfl, rfl, w2⟩ := open_int Try.underlying3 (hval 2 3 v2 rfl rfl) h2
  obtain ⟨a3, rfl, rfl, rfl, w3⟩ := open_int Try.underlying3 (hval 3 3 v3 rfl rfl) h3
  clear hA0 hval0
  simp only [List.append_nil] at hW'
  refine (walk a0 a1 a2 a3 w0 w1 w2 w3 W).mono fun e W' ⟨he, hg⟩ => ?_
  subst he
  exact ⟨_, rfl, post_of_same (pa := []) (pv := []) hW' (fun _ _ _ => (trodAll_cons_mk (shut_bool Try.underlying4 _) trodAll_mk0)) (fun sp _ => (trodAll_cons_mk (shut_int Try.underlying22 w0) (trodAll_cons_mk (shut_int Try.underlying3 w1) (trodAll_cons_mk (shut_int Try.underlying3 w2) (trodAll_cons_mk (shut_int Try.underlying3 w3) trodAll_mk0))))) (fun _ _ => rfl) rfl
    (hg.frame _) hg.2.1 (ok_one (by kernel_rfl) rfl (okWide_bool_mk Try.underlying4 _))⟩

theorem over : Rows.bitsTurnedRow.holds Try.pinned (OpenSpec.ofChange Rows.bitsTurnedSpec) :=
  OpenClaim.holds_of_wide 5 Try.f5 rfl rfl rfl rfl rfl rfl rfl ⟨rfl, rfl, rfl, rfl, rfl⟩ rfl rfl rfl rfl rfl (by kernel_rfl) Try.func5 (by kernel_rfl)
    (of_decide_eq_true (by kernel_rfl)) (by unfold Func.isWrapper; first | (rw [if_pos (by decide +kernel)]; kernel_rfl) | (rw [if_neg (by decide +kernel)]; exact ⟨rfl, rfl⟩))
    (fun os started H enc _ => lifted os started H enc)

theorem proved : Rows.BitsTurnedSaid :=
  over
#print axioms proved
end Go.Proofs.Ytojfhebejfibkaa.bitsTurned
