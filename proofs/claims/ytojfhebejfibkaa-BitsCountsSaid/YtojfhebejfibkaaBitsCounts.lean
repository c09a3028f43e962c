/- BitsCounts: for every input the law returns true, and each argument reads afterwards as it read before. No condition. -/
import Derived.Test.YtojfhebejfibkaaRows
import Derived.WalkKit
import Derived.ProofKit
import Derived.OpenShut
import Derived.Test.YtojfhebejfibkaaBitLaw
namespace Go.Proofs.Ytojfhebejfibkaa.bitsCounts
open Go.ChangeShapes Go.WideShapes Go.ChangeAt Go.RowKit
set_option linter.unusedVariables false      -- a walk need not use every 'w<i>' (that an integer argument fits its kind)

theorem own : ownKnob Try.prog.godebug = none := by kernel_rfl

theorem getN_one {w i : Nat} : getN w i 1 = (w.testBit i).toNat := by
  have h := getN_lt w i 1
  have b := getN_bit w i 1 0
  rw [Nat.testBit_zero, decide_eq_true (show 0 < 1 by omega), Bool.true_and, Nat.add_zero] at b
  cases c : w.testBit i <;> rw [c] at b <;> simp at b <;> simp <;> omega

theorem sgn_one {b : Nat} (h : b ≤ 1) : sgnN b 1 = -(b : Int) := by
  unfold sgnN
  rw [show (2 : Nat) ^ (1 - 1) = 1 by omega]
  split <;> omega

theorem popB_succ (k : Nat) (f : Nat → Bool) : popB (k + 1) f = popB k f + (f k).toNat := by
  rw [popB_add k 1 f]; simp [popB]

set_option maxHeartbeats 1000000 in
theorem core (W : Nat) (w : World) (HW : Kept (W < 4294967296)) :
    Calls Try.prog 8 #[.int .u32 W] w fun e w' => e = .returned (.bool true) ∧ Mild w w' := by
  go_enter Try.func8, Try.ntmps8
  go_wp2_with fail
  refine (shown_any _).mono ?_; rintro z w1 ⟨rfl, hm⟩
  go_wp2_with fail
  go_loopw [4, 5] (fun c i wr => ∃ k n : Nat, k ≤ 32 ∧ n ≤ k ∧ i = .int .i64 k ∧ c = .int .i64 n ∧ Kept (n = popB k W.testBit) ∧ Mild w wr) (fun _ i _ => 32 - (intOf i).toNat)
  case atStart => exact ⟨0, 0, by omega, by omega, rfl, rfl, ⟨rfl⟩, hm⟩
  case round =>
    obtain ⟨k, n, hk, hn, rfl, rfl, hs, acc⟩ := hrel
    by_cases hlt : k < 32
    · obtain ⟨B, eB⟩ : ∃ B, getN W k 1 = B := ⟨_, rfl⟩
      have b1 : B ≤ 1 := by have := getN_lt W k 1; omega
      have s1 := sgn_one b1
      rw [← eB] at s1
      rw [eB] at s1
      obtain ⟨I, eI⟩ : ∃ I, (k + 1) % 32 = I := ⟨_, rfl⟩
      have hw := HW.out
      have r1 : getN (rotN W 1) I 1 = B := by
        rw [← eB, getN_one, getN_one, rotN_bit' hw (by omega) (by omega)]
        exact congrArg (fun j => (W.testBit j).toNat) (by omega)
      have r2 := rotN_lt hw (show 1 ≤ 32 by omega)
      obtain ⟨R, eR⟩ : ∃ R, rotN W 1 = R := ⟨_, rfl⟩
      rw [eR] at r1 r2
      have s2 : sgnN (getN W k 1) 1 = -(B : Int) := by rw [eB]; exact s1
      have p1 : n + B = popB (k + 1) W.testBit := by rw [popB_succ, ← getN_one, eB, hs.out]
      have KB := Kept.mk eB
      have KI := Kept.mk (show ((k : Int) + 1) % 32 = (I : Nat) by omega)
      have KI2 := Kept.mk (show I + 1 ≤ 32 by omega)
      have KK := Kept.mk (show k + 1 ≤ 32 by omega)
      have K1 := Kept.mk r1
      have K2 := Kept.mk r2
      have KR := Kept.mk eR
      have KS := Kept.mk s2
      have KP := Kept.mk p1
      clear eB s1 eI hw r1 r2 eR s2 p1
      go_wp2_with fail
      refine (get_is (M := 1) _ HW.out (by omega) KK.out KB.out rfl rfl rfl).mono ?_; rintro z w2 ⟨rfl, hm2⟩
      have acc := acc.trans hm2; clear hm2
      go_wp2_with fail
      refine (signed_is (M := 1) _ HW.out (by omega) KK.out KS.out rfl rfl rfl).mono ?_; rintro z w3 ⟨rfl, hm2⟩
      have acc := acc.trans hm2; clear hm2
      go_wp2_with fail
      refine (turn_is (K := 1) _ HW.out (by omega) KR.out rfl (by omega)).mono ?_; rintro z w' ⟨rfl, rfl⟩
      go_wp2_with fail
      refine (get_is (M := 1) _ K2.out (by omega) KI2.out K1.out rfl KI.out rfl).mono ?_; rintro z w4 ⟨rfl, hm2⟩
      have acc := acc.trans hm2; clear hm2
      go_wp2_with fail
      go_roundw
      case rel => exact ⟨k + 1, n + B, by omega, by omega, by go_num, by go_num, KP, acc⟩
      case measure => simp [intOf]; omega
    · obtain rfl : k = 32 := by omega
      have KP : Kept (popN W = n) := ⟨hs.out.symm⟩
      go_wp2_with fail
      refine (count_is _ HW.out KP.out rfl).mono ?_; rintro z w' ⟨rfl, rfl⟩
      go_wp2_with fail
      go_ret
      exact ⟨rfl, acc⟩

/-! ### STEP 1: THE WALK: the Go text returns true. 'Grown w w'': the world has at most new blocks (Derived/RowKit3.lean). Part the cases AHEAD of 'go_enter' where a test parts the walk; take each callee by a contract of your own. -/
theorem walk (a0 : Int) (w0 : (Lit.int .u32 a0).wf = true) (w : World) :
    Calls Try.prog 8 #[.int .u32 a0] w fun e w' => e = .returned (.bool true) ∧ Grown w w' := by
  obtain ⟨A0, A1⟩ := bounds_u32 w0
  obtain ⟨W, rfl⟩ := Int.eq_ofNat_of_zero_le A0
  exact (core W w ⟨by omega⟩).mono fun e w' ⟨h, m⟩ => ⟨h, m.grown⟩

/-! ### THE ROW's STEP: WRITTEN OUT: LEAVE IT -/
set_option maxRecDepth 100000 in
theorem lifted (os : Os) (started : os.Started) (H : Type) (enc : TypeId × Value → H) :
    ReturnsInHanded {} Try.checked os 8 .any (Rows.bitsCountsSpec.pre6 enc Try.prog Try.f8 Rows.bitsCountsRow.domain false) (Rows.bitsCountsSpec.post enc Try.prog Try.f8 false true false false) := by
  refine returnsInHanded_of_change (C := Try.checked) own started (by kernel_rfl) Try.func8
    (ChangeSpec.witness6 (enc := enc) (C := Try.checked) false ⟨#[], #[.int .u32 0], []⟩ 8 (by kernel_rfl) (by kernel_rfl) (by kernel_rfl) (by kernel_rfl)) ?_
  intro W base args ds gs before hval0 hW hcnd _
  have hval : ∀ (j : Nat) t v, Try.f8.params[j]? = some t → args[j]? = some v → Value.okWide Try.prog W .any base t v := hval0
  have hW' := hW
  obtain ⟨p, q, hA0, hV, rfl, hfz, hnd⟩ := hW
  have hA : DataW.TrodAll enc Try.prog W 0 (fun _ => true) true Try.f8.params.toList args.toList ds p := hA0
  rw [Try.params8] at hA hval
  obtain ⟨v0, vs0, d0, ds0, p0, q0, hargs, rfl, rfl, h0, r0⟩ := trodAll_cons hA
  obtain ⟨rfl, rfl, rfl⟩ := trodAll_nil r0
  obtain rfl : args = #[v0] := by cases args; simp_all
  obtain ⟨rfl, rfl⟩ := trodVars_none hV
  obtain ⟨a0, rfl, rfl, rfl, w0⟩ := open_int Try.underlying22 (hval 0 22 v0 rfl rfl) h0
  clear hA0 hval0
  simp only [List.append_nil] at hW'
  refine (walk a0 w0 W).mono fun e W' ⟨he, hg⟩ => ?_
  subst he
  exact ⟨_, rfl, post_of_same (pa := []) (pv := []) hW' (fun _ _ _ => (trodAll_cons_mk (shut_bool Try.underlying4 _) trodAll_mk0)) (fun sp _ => (trodAll_cons_mk (shut_int Try.underlying22 w0) trodAll_mk0)) (fun _ _ => rfl) rfl
    (hg.frame _) hg.2.1 (ok_one (by kernel_rfl) rfl (okWide_bool_mk Try.underlying4 _))⟩

theorem over : Rows.bitsCountsRow.holds Try.pinned (OpenSpec.ofChange Rows.bitsCountsSpec) :=
  OpenClaim.holds_of_wide 8 Try.f8 rfl rfl rfl rfl rfl rfl rfl ⟨rfl, rfl, rfl, rfl, rfl⟩ rfl rfl rfl rfl rfl (by kernel_rfl) Try.func8 (by kernel_rfl)
    (of_decide_eq_true (by kernel_rfl)) (by unfold Func.isWrapper; first | (rw [if_pos (by decide +kernel)]; kernel_rfl) | (rw [if_neg (by decide +kernel)]; exact ⟨rfl, rfl⟩))
    (fun os started H enc _ => lifted os started H enc)

theorem proved : Rows.BitsCountsSaid :=
  over
#print axioms proved
end Go.Proofs.Ytojfhebejfibkaa.bitsCounts
