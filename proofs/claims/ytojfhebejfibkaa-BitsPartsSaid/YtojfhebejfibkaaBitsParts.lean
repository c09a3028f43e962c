/- BitsParts: for every input the law returns true, and each argument reads afterwards as it read before. No condition. -/
import Derived.Test.YtojfhebejfibkaaRows
import Derived.WalkKit
import Derived.ProofKit
import Derived.OpenShut
import Derived.Test.YtojfhebejfibkaaBitLaw
import Derived.Deep.CutRange
namespace Go.Proofs.Ytojfhebejfibkaa.bitsParts
open Go.ChangeShapes Go.WideShapes Go.ChangeAt Go.RowKit
set_option linter.unusedVariables false      -- a walk need not use every 'w<i>' (that an integer argument fits its kind)

theorem own : ownKnob Try.prog.godebug = none := by kernel_rfl


theorem sgn_all {W : Nat} (hW : W < 4294967296) : sgnN (getN W 0 32) 32 = wrap32 W := by
  rw [getN_all hW]
  unfold sgnN wrap32
  rw [show (2 : Nat) ^ (32 - 1) = 2147483648 by omega]
  split <;> omega

set_option maxHeartbeats 1000000 in
theorem core (W K0 K D H Lo HK P1 P2 C1 C2 C3 : Nat) (a S S0 : Int) (w : World) (HW : Kept (W < 4294967296)) (k0 : K0 ≤ 30)
    (hE : Kept (md a 31 = K0)) (EK : Kept (K = K0 + 1)) (ED : Kept (D = 31 - K0))
    (G1 : Kept (getN W 0 K = Lo)) (G2 : Kept (getN W K D = H)) (G3 : Kept (sgnN (getN W K D) D = S)) (G4 : Kept (sgnN (getN W 0 32) 32 = S0))
    (l0 : Lo < 4294967296) (h0 : H < 4294967296) (s0 : -2147483648 ≤ S) (s1 : S ≤ 2147483647) (q0 : (S0 != wrap32 W) = false)
    (X1 : wrap64 (2 ^ (30 - K0)) = P1) (X2 : wrap64 (2 ^ (31 - K0)) = P2) (X3 : IntKind.u64.wrap ((H : Int) * 2 ^ (K0 + 1)) = HK)
    (hP : Kept ((P1 ≤ H ∧ S = (H : Int) - P2) ∨ (H < P1 ∧ S = (H : Int)))) (p2 : P2 ≤ 4294967296) (hk1 : HK ≤ 4294967296) (hsum : Kept (Lo + HK = W))
    (N1 : Kept (popN Lo = C1)) (N2 : Kept (popN H = C2)) (N3 : Kept (popN W = C3)) (hc : Kept (C1 + C2 = C3)) (c1 : C1 ≤ 32) (c2 : C2 ≤ 32) :
    Calls Try.prog 6 #[.int .u32 W, .int .i64 a] w fun e w' => e = .returned (.bool true) ∧ Mild w w' := by
  have acc := Mild.refl w
  have HL := Kept.mk l0
  have HH := Kept.mk h0
  have eK := EK.out
  have eD := ED.out
  have HKp := Kept.mk (show 1 ≤ K by omega)
  have H1 := Kept.mk (show 0 + K ≤ 32 by omega)
  have H2 := Kept.mk (show K + D ≤ 32 by omega)
  have HDp := Kept.mk (show 1 ≤ D by omega)
  have iK := Kept.mk (show ((K0 : Int) + 1) = (K : Nat) by omega)
  have iD := Kept.mk (show (32 - ((K0 : Int) + 1)) = (D : Nat) by omega)
  clear eK eD EK ED
  go_enter Try.func6, Try.ntmps6
  go_wp2_with fail
  refine (shown_any _).mono ?_; rintro z w1 ⟨rfl, hm⟩
  have acc := acc.trans hm; clear hm
  go_upto_if 22 with fail
  go_cut [6] from 20 to 25 (fun k wx => k = .int .i64 (K0 : Int) ∧ wx = w1)
  case first =>
    have h1 := Int.tmod_lt_of_pos a (show (0 : Int) < 31 by omega)
    have h2 := Int.tmod_lt_of_pos (-a) (show (0 : Int) < 31 by omega)
    rw [Int.neg_tmod] at h2
    clear X1 X2 X3 q0
    by_cases hn : a.tmod 31 < 0
    · have E := Kept.mk (md_neg hn)
      go_wp2_with fail
      go_meet
      case rel => exact ⟨by rw [← hE.out, E.out], rfl⟩
    · have E := Kept.mk (md_pos hn)
      go_wp2_with fail
      go_meet
      case rel => exact ⟨by rw [← hE.out, E.out], rfl⟩
  case rest =>
    obtain ⟨rfl, rfl⟩ := hcut
    go_wp2_with fail
    refine (get_is _ HW.out HKp.out H1.out G1.out rfl rfl iK.out).mono ?_; rintro z w1 ⟨rfl, hm⟩
    have acc := acc.trans hm; clear hm
    go_wp2_with fail
    refine (get_is _ HW.out HDp.out H2.out G2.out rfl iK.out iD.out).mono ?_; rintro z w1 ⟨rfl, hm⟩
    have acc := acc.trans hm; clear hm
    go_wp2_with fail
    refine (signed_is _ HW.out HDp.out H2.out G3.out rfl iK.out iD.out).mono ?_; rintro z w1 ⟨rfl, hm⟩
    have acc := acc.trans hm; clear hm
    go_wp2_with fail
    refine (signed_is (M := 32) _ HW.out (by omega) (by omega) G4.out rfl rfl rfl).mono ?_; rintro z w1 ⟨rfl, hm⟩
    have acc := acc.trans hm; clear hm
    have q1 : ((Lo : Int) + HK == W) = true := by have := hsum.out; simp; omega
    have hw := HW.out
    rcases hP.out with ⟨hp, hS⟩ | ⟨hp, hS⟩
    · have hS2 : (S == (H : Int) - P2) = true := by simp; exact hS
      clear hS hP
      go_wp2_with fail
      refine (count_is _ HL.out N1.out rfl).mono ?_; rintro z w' ⟨rfl, rfl⟩
      go_wp2_with fail
      refine (count_is _ HH.out N2.out rfl).mono ?_; rintro z w' ⟨rfl, rfl⟩
      go_wp2_with fail
      refine (count_is _ HW.out N3.out rfl).mono ?_; rintro z w' ⟨rfl, rfl⟩
      go_wp2_with fail
      go_ret
      exact ⟨by have := hc.out; simp; omega, acc⟩
    · have hS2 : (S == (H : Int)) = true := by simp; exact hS
      clear hS hP
      go_wp2_with fail
      refine (count_is _ HL.out N1.out rfl).mono ?_; rintro z w' ⟨rfl, rfl⟩
      go_wp2_with fail
      refine (count_is _ HH.out N2.out rfl).mono ?_; rintro z w' ⟨rfl, rfl⟩
      go_wp2_with fail
      refine (count_is _ HW.out N3.out rfl).mono ?_; rintro z w' ⟨rfl, rfl⟩
      go_wp2_with fail
      go_ret
      exact ⟨by have := hc.out; simp; omega, acc⟩

theorem wrap_pow {n : Nat} (h : n ≤ 32) : wrap64 (2 ^ n) = ((2 ^ n : Nat) : Int) := by
  have p : 2 ^ n ≤ 2 ^ 32 := Nat.pow_le_pow_right (by omega) h
  rw [pow_cast]
  generalize 2 ^ n = P at p
  exact IntWalk.wrap64_in _ (by omega)

theorem wrap_mul {a n : Nat} (h : a * 2 ^ n < 4294967296) : IntKind.u64.wrap ((a : Int) * 2 ^ n) = ((a * 2 ^ n : Nat) : Int) := by
  rw [pow_cast, ← Int.natCast_mul]
  generalize a * 2 ^ n = P at h
  exact IntWalk.u64_in _ (by omega)

theorem sgn_cases {H D : Nat} (h : H < 2 ^ D) (d0 : 1 ≤ D) (d1 : D ≤ 32) :
    ((2 ^ (D - 1) ≤ H ∧ sgnN H D = (H : Int) - ((2 ^ D : Nat) : Int)) ∨ (H < 2 ^ (D - 1) ∧ sgnN H D = (H : Int))) ∧ -2147483648 ≤ sgnN H D ∧ sgnN H D ≤ 2147483647 := by
  have p := pow_pred d0
  have p3 : 2 ^ D ≤ 2 ^ 32 := Nat.pow_le_pow_right (by omega) d1
  unfold sgnN
  rw [pow_cast]
  generalize 2 ^ D = P at *
  generalize 2 ^ (D - 1) = Q at *
  by_cases c : Q ≤ H
  · rw [if_pos c]; exact ⟨Or.inl ⟨c, rfl⟩, by omega, by omega⟩
  · rw [if_neg c]; exact ⟨Or.inr ⟨by omega, rfl⟩, by omega, by omega⟩

/-! ### STEP 1: THE WALK: the Go text returns true. 'Grown w w'': the world has at most new blocks (Derived/RowKit3.lean). Part the cases AHEAD of 'go_enter' where a test parts the walk; take each callee by a contract of your own. -/
theorem walk (a0 : Int) (a1 : Int) (w0 : (Lit.int .u32 a0).wf = true) (w1 : (Lit.int .i64 a1).wf = true) (w : World) :
    Calls Try.prog 6 #[.int .u32 a0, .int .i64 a1] w fun e w' => e = .returned (.bool true) ∧ Grown w w' := by
  obtain ⟨A0, A1⟩ := bounds_u32 w0
  obtain ⟨W, rfl⟩ := Int.eq_ofNat_of_zero_le A0
  have hW : W < 4294967296 := by omega
  obtain ⟨K0, hK⟩ := Int.eq_ofNat_of_zero_le (md_lo a1 31)
  have k1 := md_hi a1 (n := 31) (by omega)
  have hk : K0 ≤ 30 := by omega
  have hH := getN_lt W (K0 + 1) (31 - K0)
  have hc := popN_parts (w := W) (k := K0 + 1) (by omega)
  have hs := getN_parts (w := W) (k := K0 + 1) hW (by omega)
  rw [show 32 - (K0 + 1) = 31 - K0 by omega] at hc hs
  have hl2 : getN W 0 (K0 + 1) < 4294967296 := Nat.lt_of_le_of_lt (Nat.mod_le _ _) (Nat.lt_of_le_of_lt (Nat.div_le_self _ _) hW)
  have hh2 : getN W (K0 + 1) (31 - K0) < 4294967296 := Nat.lt_of_le_of_lt (Nat.mod_le _ _) (Nat.lt_of_le_of_lt (Nat.div_le_self _ _) hW)
  have p2 : 2 ^ (31 - K0) ≤ 2 ^ 32 := Nat.pow_le_pow_right (by omega) (by omega)
  have S0 := sgn_all hW
  have sc := sgn_cases hH (by omega) (by omega)
  rw [show 31 - K0 - 1 = 30 - K0 by omega] at sc
  have x1 := wrap_pow (n := 30 - K0) (by omega)
  have x2 := wrap_pow (n := 31 - K0) (by omega)
  obtain ⟨Lo, e1⟩ : ∃ Lo, getN W 0 (K0 + 1) = Lo := ⟨_, rfl⟩
  obtain ⟨H, e2⟩ : ∃ H, getN W (K0 + 1) (31 - K0) = H := ⟨_, rfl⟩
  obtain ⟨P1, e3⟩ : ∃ P, 2 ^ (30 - K0) = P := ⟨_, rfl⟩
  obtain ⟨P2, e4⟩ : ∃ P, 2 ^ (31 - K0) = P := ⟨_, rfl⟩
  rw [e1, e2] at hs hc
  rw [e1] at hl2
  rw [e2] at hh2 hH
  rw [e2, e3, e4] at sc
  rw [e3] at x1
  rw [e4] at x2 p2 hH
  have x3 := wrap_mul (a := H) (n := K0 + 1) (by omega)
  obtain ⟨HK, e5⟩ : ∃ P, H * 2 ^ (K0 + 1) = P := ⟨_, rfl⟩
  rw [e5] at x3 hs
  have c1 := popN_le Lo
  have c2 := popN_le H
  obtain ⟨sc1, sc2, sc3⟩ := sc
  have q0 : (wrap32 W != wrap32 W) = false := by simp
  exact (core W K0 (K0 + 1) (31 - K0) H Lo HK P1 P2 (popN Lo) (popN H) (popN W) a1 (sgnN H (31 - K0)) (wrap32 W) w ⟨hW⟩ hk ⟨hK⟩ ⟨rfl⟩ ⟨rfl⟩ ⟨e1⟩ ⟨e2⟩ ⟨by rw [e2]⟩ ⟨S0⟩ hl2 hh2 sc2 sc3 q0 x1 x2 x3 ⟨sc1⟩ (by omega) (by omega) ⟨hs⟩ ⟨rfl⟩ ⟨rfl⟩ ⟨rfl⟩ ⟨hc⟩ c1 c2).mono fun e w' ⟨h, m⟩ => ⟨h, m.grown⟩

/-! ### THE ROW's STEP: WRITTEN OUT: LEAVE IT -/
set_option maxRecDepth 100000 in
theorem lifted (os : Os) (started : os.Started) (H : Type) (enc : TypeId × Value → H) :
    ReturnsInHanded {} Try.checked os 6 .any (Rows.bitsPartsSpec.pre6 enc Try.prog Try.f6 Rows.bitsPartsRow.domain false) (Rows.bitsPartsSpec.post enc Try.prog Try.f6 false true false false) := by
  refine returnsInHanded_of_change (C := Try.checked) own started (by kernel_rfl) Try.func6
    (ChangeSpec.witness6 (enc := enc) (C := Try.checked) false ⟨#[], #[.int .u32 0, .int .i64 0], []⟩ 8 (by kernel_rfl) (by kernel_rfl) (by kernel_rfl) (by kernel_rfl)) ?_
  intro W base args ds gs before hval0 hW hcnd _
  have hval : ∀ (j : Nat) t v, Try.f6.params[j]? = some t → args[j]? = some v → Value.okWide Try.prog W .any base t v := hval0
  have hW' := hW
  obtain ⟨p, q, hA0, hV, rfl, hfz, hnd⟩ := hW
  have hA : DataW.TrodAll enc Try.prog W 0 (fun _ => true) true Try.f6.params.toList args.toList ds p := hA0
  rw [Try.params6] at hA hval
  obtain ⟨v0, vs0, d0, ds0, p0, q0, hargs, rfl, rfl, h0, r0⟩ := trodAll_cons hA
  obtain ⟨v1, vs1, d1, ds1, p1, q1, rfl, rfl, rfl, h1, r1⟩ := trodAll_cons r0
  obtain ⟨rfl, rfl, rfl⟩ := trodAll_nil r1
  obtain rfl : args = #[v0, v1] := by cases args; simp_all
  obtain ⟨rfl, rfl⟩ := trodVars_none hV
  obtain ⟨a0, rfl, rfl, rfl, w0⟩ := open_int Try.underlying22 (hval 0 22 v0 rfl rfl) h0
  obtain ⟨a1, rfl, rfl, rfl, w1⟩ := open_int Try.underlying3 (hval 1 3 v1 rfl rfl) h1
  clear hA0 hval0
  simp only [List.append_nil] at hW'
  refine (walk a0 a1 w0 w1 W).mono fun e W' ⟨he, hg⟩ => ?_
  subst he
  exact ⟨_, rfl, post_of_same (pa := []) (pv := []) hW' (fun _ _ _ => (trodAll_cons_mk (shut_bool Try.underlying4 _) trodAll_mk0)) (fun sp _ => (trodAll_cons_mk (shut_int Try.underlying22 w0) (trodAll_cons_mk (shut_int Try.underlying3 w1) trodAll_mk0))) (fun _ _ => rfl) rfl
    (hg.frame _) hg.2.1 (ok_one (by kernel_rfl) rfl (okWide_bool_mk Try.underlying4 _))⟩

theorem over : Rows.bitsPartsRow.holds Try.pinned (OpenSpec.ofChange Rows.bitsPartsSpec) :=
  OpenClaim.holds_of_wide 6 Try.f6 rfl rfl rfl rfl rfl rfl rfl ⟨rfl, rfl, rfl, rfl, rfl⟩ rfl rfl rfl rfl rfl (by kernel_rfl) Try.func6 (by kernel_rfl)
    (of_decide_eq_true (by kernel_rfl)) (by unfold Func.isWrapper; first | (rw [if_pos (by decide +kernel)]; kernel_rfl) | (rw [if_neg (by decide +kernel)]; exact ⟨rfl, rfl⟩))
    (fun os started H enc _ => lifted os started H enc)

theorem proved : Rows.BitsPartsSaid :=
  over
#print axioms proved
end Go.Proofs.Ytojfhebejfibkaa.bitsParts
