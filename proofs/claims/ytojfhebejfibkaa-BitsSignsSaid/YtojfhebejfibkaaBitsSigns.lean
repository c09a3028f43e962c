/- BitsSigns: for every input the law returns true, and each argument reads afterwards as it read before. No condition. -/
import Derived.Test.YtojfhebejfibkaaRows
import Derived.WalkKit
import Derived.ProofKit
import Derived.OpenShut
import Derived.Test.YtojfhebejfibkaaBitLaw
import Derived.Deep.CutRange
import Derived.Deep.CutBlock
namespace Go.Proofs.Ytojfhebejfibkaa.bitsSigns
open Go.ChangeShapes Go.WideShapes Go.ChangeAt Go.RowKit
set_option linter.unusedVariables false      -- a walk need not use every 'w<i>' (that an integer argument fits its kind)

theorem own : ownKnob Try.prog.godebug = none := by kernel_rfl

theorem getN_putN {w l m v : Nat} (h : l + m ≤ 32) (hw : w < 4294967296) (hv : v < 2 ^ m) : getN (putN w l m v) l m = v := by
  apply Nat.eq_of_testBit_eq; intro i
  rw [getN_bit, putN_bit h hw hv]
  by_cases c : i < m
  · rw [if_pos (by omega), decide_eq_true c, show l + i - l = i by omega]; rfl
  · rw [decide_eq_false c, Bool.false_and]; exact (bit_above hv (by omega)).symm

/-- A number with a sign that a field of m bits has room for comes back out of its bits. -/
theorem sgn_back {x : Int} {V m P : Nat} (hV : x % 4294967296 = V) (m0 : 1 ≤ m) (m1 : m ≤ 32) (hP : 2 ^ (m - 1) = P) (x0 : -(P : Int) ≤ x) (x1 : x < P) : sgnN (getN V 0 m) m = x := by
  have p2 := pow_pred m0
  have e32 : 2 ^ m * 2 ^ (32 - m) = 4294967296 := by rw [← Nat.pow_add, show m + (32 - m) = 32 by omega]
  have e : getN V 0 m = V % 2 ^ m := by unfold getN; rw [Nat.pow_zero, Nat.div_one]
  unfold sgnN
  rw [e, hP, pow_cast]
  rw [hP] at p2
  rw [p2] at e32 ⊢
  have hm : ((V % (2 * P) : Nat) : Int) = x % ((2 * P : Nat) : Int) := by
    rw [Int.natCast_emod, ← hV]
    exact Int.emod_emod_of_dvd x ⟨((2 ^ (32 - m) : Nat) : Int), by rw [← Int.natCast_mul, e32]; rfl⟩
  by_cases c : x < 0
  · have : x % ((2 * P : Nat) : Int) = x + ((2 * P : Nat) : Int) := by
      rw [← Int.add_emod_right, Int.emod_eq_of_lt (by omega) (by omega)]
    rw [this] at hm
    rw [if_pos (by omega)]; omega
  · have : x % ((2 * P : Nat) : Int) = x := Int.emod_eq_of_lt (by omega) (by omega)
    rw [this] at hm
    rw [if_neg (by omega)]; omega

set_option maxHeartbeats 1000000 in
theorem core (W M0 M K N0 P : Nat) (lo mn n : Int) (w : World) (HW : Kept (W < 4294967296)) (m0 : M0 ≤ 31) (k0 : K + M0 ≤ 31) (n0 : N0 < 1073741824)
    (A : Kept (md mn 32 = M0)) (B : Kept (md lo (33 - (1 + (M0 : Int))) = K)) (C : Kept (md n 1073741824 = N0)) (EM : Kept (M = 1 + M0)) (X : wrap64 (2 ^ M0) = P) (EP : Kept (2 ^ M0 = P)) (p0 : 1 ≤ P) (p1 : P ≤ 2147483648) :
    Calls Try.prog 7 #[.int .u32 W, .int .i64 lo, .int .i64 mn, .int .i64 n] w fun e w' => e = .returned (.bool true) ∧ Mild w w' := by
  have acc := Mild.refl w
  go_enter Try.func7, Try.ntmps7
  go_wp2_with fail
  refine (shown_any _).mono ?_; rintro z w1 ⟨rfl, hm⟩
  have acc := acc.trans hm; clear hm
  go_wp2_with fail
  refine (mod_is _ (by omega) (by omega) A.out).mono ?_; rintro z w' ⟨rfl, rfl⟩
  go_wp2_with fail
  refine (mod_is _ (by omega) (by omega) B.out).mono ?_; rintro z w' ⟨rfl, rfl⟩
  go_wp2_with fail
  refine (mod_is _ (by omega) (by omega) C.out).mono ?_; rintro z w' ⟨rfl, rfl⟩
  go_upto_block 0 with fail
  go_cut [12] from 32 to 52 (fun v wx => ∃ x : Int, v = .int .i64 x ∧ -(P : Int) ≤ x ∧ x < P ∧ wx = w')
  case first =>
    go_wp2_with fail
    go_loop [12] (fun v => ∃ x : Int, v = .int .i64 x ∧ -536870912 ≤ x ∧ x ≤ 536870912) (fun v => (intOf v).natAbs)
    case atStart => exact ⟨_, rfl, by omega, by omega⟩
    case round =>
      obtain ⟨x, rfl, x0, x1⟩ := hrel
      have hd := Int.mul_tdiv_add_tmod x 2
      have ht := Int.tmod_lt_of_pos x (show (0 : Int) < 2 by omega)
      have ht2 := Int.tmod_lt_of_pos (-x) (show (0 : Int) < 2 by omega)
      rw [Int.neg_tmod] at ht2
      have HD := Kept.mk hd
      have HT := Kept.mk (And.intro ht ht2)
      clear hd ht ht2
      by_cases h1 : x < -(P : Int)
      · go_wp2_with fail
        all_goals first
          | (go_meet; case rel => exact ⟨0, rfl, by omega, by omega, rfl⟩)
          | (have hd := HD.out
             have ht := HT.out
             go_round
             case rel => exact ⟨_, rfl, by omega, by omega⟩
             case measure => show (x.tdiv 2).natAbs < x.natAbs; omega)
      · by_cases h2 : (P : Int) ≤ x
        · go_wp2_with fail
          all_goals first
            | (go_meet; case rel => exact ⟨0, rfl, by omega, by omega, rfl⟩)
            | (go_round
               case rel => exact ⟨_, rfl, by omega, by omega⟩
               case measure => simp [intOf]; omega)
        · go_wp2_with fail
          go_meet
          case rel => exact ⟨x, rfl, by omega, by omega, rfl⟩
  case rest =>
    obtain ⟨x, rfl, x0, x1, rfl⟩ := hcut
    obtain ⟨V, hV⟩ := Int.eq_ofNat_of_zero_le (show 0 ≤ x % 4294967296 by omega)
    have eM := EM.out
    have hw := HW.out
    have hVl : V < 4294967296 := by omega
    have r1 := getN_lt V 0 M
    have r2 := putN_lt (show K + M ≤ 32 by omega) hw r1
    have r3 := getN_putN (show K + M ≤ 32 by omega) hw r1
    have r4 := sgn_back hV (show 1 ≤ M by omega) (by omega) (by rw [eM, Nat.add_sub_cancel_left]; exact EP.out) x0 x1
    obtain ⟨R, eR⟩ : ∃ R, getN V 0 M = R := ⟨_, rfl⟩
    rw [eR] at r1 r2 r3 r4
    obtain ⟨Q, eQ⟩ : ∃ Q, putN W K M R = Q := ⟨_, rfl⟩
    rw [eQ] at r2 r3
    rw [← r3] at r4
    have KV := Kept.mk hV
    have KVl := Kept.mk hVl
    have KR := Kept.mk eR
    have K1 := Kept.mk r1
    have K2 := Kept.mk r2
    have K3 := Kept.mk r3
    have K4 := Kept.mk r4
    have KQ := Kept.mk eQ
    have iM := Kept.mk (show (1 + (M0 : Int)) = (M : Nat) by omega)
    have KM := Kept.mk (show 1 ≤ M by omega)
    have KM2 := Kept.mk (show 0 + M ≤ 32 by omega)
    have KM3 := Kept.mk (show K + M ≤ 32 by omega)
    clear hV hVl eR r1 r2 r3 r4 eQ eM hw
    go_wp2_with fail
    refine (get_is _ KVl.out KM.out KM2.out KR.out KV.out rfl iM.out).mono ?_; rintro z w1 ⟨rfl, hm⟩
    have acc := acc.trans hm; clear hm
    go_wp2_with fail
    refine (put_is _ HW.out KM.out KM3.out K1.out KQ.out rfl rfl iM.out rfl).mono ?_; rintro z w1 ⟨rfl, hm⟩
    have acc := acc.trans hm; clear hm
    go_wp2_with fail
    refine (signed_is _ K2.out KM.out KM3.out K4.out rfl rfl iM.out).mono ?_; rintro z w1 ⟨rfl, hm⟩
    have acc := acc.trans hm; clear hm
    go_wp2_with fail
    go_ret
    exact ⟨rfl, acc⟩

/-! ### STEP 1: THE WALK: the Go text returns true. 'Grown w w'': the world has at most new blocks (Derived/RowKit3.lean). Part the cases AHEAD of 'go_enter' where a test parts the walk; take each callee by a contract of your own. -/
theorem walk (a0 : Int) (a1 : Int) (a2 : Int) (a3 : Int) (w0 : (Lit.int .u32 a0).wf = true) (w1 : (Lit.int .i64 a1).wf = true) (w2 : (Lit.int .i64 a2).wf = true) (w3 : (Lit.int .i64 a3).wf = true) (w : World) :
    Calls Try.prog 7 #[.int .u32 a0, .int .i64 a1, .int .i64 a2, .int .i64 a3] w fun e w' => e = .returned (.bool true) ∧ Grown w w' := by
  obtain ⟨A0, A1⟩ := bounds_u32 w0
  obtain ⟨W, rfl⟩ := Int.eq_ofNat_of_zero_le A0
  have hW : W < 4294967296 := by omega
  obtain ⟨M0, hM⟩ := Int.eq_ofNat_of_zero_le (md_lo a2 32)
  have m1 := md_hi a2 (n := 32) (by omega)
  obtain ⟨K, hK⟩ := Int.eq_ofNat_of_zero_le (md_lo a1 (33 - (1 + (M0 : Int))))
  have k1 := md_hi a1 (n := 33 - (1 + (M0 : Int))) (by omega)
  obtain ⟨N0, hN⟩ := Int.eq_ofNat_of_zero_le (md_lo a3 1073741824)
  have n1 := md_hi a3 (n := 1073741824) (by omega)
  have p0 := Nat.two_pow_pos M0
  have p1 : 2 ^ M0 ≤ 2 ^ 31 := Nat.pow_le_pow_right (by omega) (by omega)
  obtain ⟨P, eP⟩ : ∃ P, 2 ^ M0 = P := ⟨_, rfl⟩
  have x1 : wrap64 (2 ^ M0) = P := by
    rw [pow_cast, eP]
    rw [eP] at p1
    exact IntWalk.wrap64_in _ (by omega)
  rw [eP] at p0 p1
  exact (core W M0 (1 + M0) K N0 P a1 a2 a3 w ⟨hW⟩ (by omega) (by omega) (by omega) ⟨hM⟩ ⟨hK⟩ ⟨hN⟩ ⟨rfl⟩ x1 ⟨eP⟩ (by omega) (by omega)).mono fun e w' ⟨h, m⟩ => ⟨h, m.grown⟩

/-! ### THE ROW's STEP: WRITTEN OUT: LEAVE IT -/
set_option maxRecDepth 100000 in
theorem lifted (os : Os) (started : os.Started) (H : Type) (enc : TypeId × Value → H) :
    ReturnsInHanded {} Try.checked os 7 .any (Rows.bitsSignsSpec.pre6 enc Try.prog Try.f7 Rows.bitsSignsRow.domain false) (Rows.bitsSignsSpec.post enc Try.prog Try.f7 false true false false) := by
  refine returnsInHanded_of_change (C := Try.checked) own started (by kernel_rfl) Try.func7
    (ChangeSpec.witness6 (enc := enc) (C := Try.checked) false ⟨#[], #[.int .u32 0, .int .i64 0, .int .i64 0, .int .i64 0], []⟩ 8 (by kernel_rfl) (by kernel_rfl) (by kernel_rfl) (by kernel_rfl)) ?_
  intro W base args ds gs before hval0 hW hcnd _
  have hval : ∀ (j : Nat) t v, Try.f7.params[j]? = some t → args[j]? = some v → Value.okWide Try.prog W .any base t v := hval0
  have hW' := hW
  obtain ⟨p, q, hA0, hV, rfl, hfz, hnd⟩ := hW
  have hA : DataW.TrodAll enc Try.prog W 0 (fun _ => true) true Try.f7.params.toList args.toList ds p := hA0
  rw [Try.params7] at hA hval
  obtain ⟨v0, vs0, d0, ds0, p0, q0, hargs, rfl, rfl, h0, r0⟩ := trodAll_cons hA
  obtain ⟨v1, vs1, d1, ds1, p1, q1, rfl, rfl, rfl, h1, r1⟩ := trodAll_cons r0
  obtain ⟨v2, vs2, d2, ds2, p2, q2, rfl, rfl, rfl, h2, r2⟩ := trodAll_cons r1
  obtain ⟨v3, vs3, d3, ds3, p3, q3, rfl, rfl, rfl, h3, r3⟩ := trodAll_cons r2
  obtain ⟨rfl, rfl, rfl⟩ := trodAll_nil r3
  obtain rfl : args = #[v0, v1, v2, v3] := by cases args; simp_all
  obtain ⟨rfl, rfl⟩ := trodVars_none hV
  obtain ⟨a0, rfl, rfl, rfl, w0⟩ := open_int Try.underlying22 (hval 0 22 v0 rfl rfl) h0
  obtain ⟨a1, rfl, rfl, rfl, w1⟩ := open_int Try.underlying3 (hval 1 3 v1 rfl rfl) h1
  obtain ⟨a2, rfl, rfl, rfl, w2⟩ := open_int Try.underlying3 (hval 2 3 v2 rfl rfl) h2
  obtain ⟨a3, rfl, rfl, rfl, w3⟩ := open_int Try.underlying3 (hval 3 3 v3 rfl rfl) h3
  clear hA0 hval0
  simp only [List.append_nil] at hW'
  refine (walk a0 a1 a2 a3 w0 w1 w2 w3 W).mono fun e W' ⟨he, hg⟩ => ?_
  subst he
  exact ⟨_, rfl, post_of_same (pa := []) (pv := []) hW' (fun _ _ _ => (trodAll_cons_mk (shut_bool Try.underlying4 _) trodAll_mk0)) (fun sp _ => (trodAll_cons_mk (shut_int Try.underlying22 w0) (trodAll_cons_mk (shut_int Try.underlying3 w1) (trodAll_cons_mk (shut_int Try.underlying3 w2) (trodAll_cons_mk (shut_int Try.underlying3 w3) trodAll_mk0))))) (fun _ _ => rfl) rfl
    (hg.frame _) hg.2.1 (ok_one (by kernel_rfl) rfl (okWide_bool_mk Try.underlying4 _))⟩

theorem over : Rows.bitsSignsRow.holds Try.pinned (OpenSpec.ofChange Rows.bitsSignsSpec) :=
  OpenClaim.holds_of_wide 7 Try.f7 rfl rfl rfl rfl rfl rfl rfl ⟨rfl, rfl, rfl, rfl, rfl⟩ rfl rfl rfl rfl rfl (by kernel_rfl) Try.func7 (by kernel_rfl)
    (of_decide_eq_true (by kernel_rfl)) (by unfold Func.isWrapper; first | (rw [if_pos (by decide +kernel)]; kernel_rfl) | (rw [if_neg (by decide +kernel)]; exact ⟨rfl, rfl⟩))
    (fun os started H enc _ => lifted os started H enc)

theorem proved : Rows.BitsSignsSaid :=
  over
#print axioms proved
end Go.Proofs.Ytojfhebejfibkaa.bitsSigns
