/- BitsFields: for every input the law returns true, and each argument reads afterwards as it read before. No condition. -/
import Derived.Test.YtojfhebejfibkaaRows
import Derived.WalkKit
import Derived.ProofKit
import Derived.OpenShut
import Derived.Test.YtojfhebejfibkaaBitLaw
namespace Go.Proofs.Ytojfhebejfibkaa.bitsFields
open Go.ChangeShapes Go.WideShapes Go.ChangeAt Go.RowKit
set_option linter.unusedVariables false      -- a walk need not use every 'w<i>' (that an integer argument fits its kind)

theorem own : ownKnob Try.prog.godebug = none := by kernel_rfl

theorem put_fields {W X Y : Nat} (hW : W < 4294967296) (x0 : 1 ≤ X) (hxy : X < Y) (hy : Y ≤ 31) :
    putN (putN (putN 0 Y (32 - Y) (getN W Y (32 - Y))) 0 X (getN W 0 X)) X (Y - X) (getN W X (Y - X)) = W := by
  have g1 := getN_lt W Y (32 - Y)
  have g2 := getN_lt W 0 X
  have g3 := getN_lt W X (Y - X)
  have l1 := putN_lt (w := 0) (show Y + (32 - Y) ≤ 32 by omega) (by omega) g1
  have l2 := putN_lt (show 0 + X ≤ 32 by omega) l1 g2
  apply Nat.eq_of_testBit_eq; intro i
  rw [putN_bit (by omega) l2 g3, putN_bit (by omega) l1 g2, putN_bit (by omega) (by omega) g1, getN_bit, getN_bit, getN_bit]
  by_cases a : i < X
  · rw [if_neg (by omega), if_pos (by omega)]; simp [a]
  · by_cases b : i < Y
    · rw [if_pos (by omega), decide_eq_true (show i - X < Y - X by omega), show X + (i - X) = i by omega]; simp
    · rw [if_neg (by omega), if_neg (by omega)]
      by_cases c : i < 32
      · rw [if_pos (by omega), decide_eq_true (show i - Y < 32 - Y by omega), show Y + (i - Y) = i by omega]; simp
      · rw [if_neg (by omega), bit_high hW (by omega), Nat.zero_testBit]

theorem put_fields2 {W X Y : Nat} (hW : W < 4294967296) (x0 : 1 ≤ X) (hxy : X < Y) (hy : Y ≤ 31) :
    putN (putN (putN 4294967295 X (Y - X) (getN W X (Y - X))) Y (32 - Y) (getN W Y (32 - Y))) 0 X (getN W 0 X) = W := by
  have g1 := getN_lt W Y (32 - Y)
  have g2 := getN_lt W 0 X
  have g3 := getN_lt W X (Y - X)
  have l1 := putN_lt (w := 4294967295) (show X + (Y - X) ≤ 32 by omega) (by omega) g3
  have l2 := putN_lt (show Y + (32 - Y) ≤ 32 by omega) l1 g1
  apply Nat.eq_of_testBit_eq; intro i
  rw [putN_bit (by omega) l2 g2, putN_bit (by omega) l1 g1, putN_bit (by omega) (by omega) g3, getN_bit, getN_bit, getN_bit]
  by_cases a : i < X
  · rw [if_pos (by omega)]; simp [a]
  · by_cases b : i < Y
    · rw [if_neg (by omega), if_neg (by omega), if_pos (by omega), decide_eq_true (show i - X < Y - X by omega), show X + (i - X) = i by omega]; simp
    · rw [if_neg (by omega)]
      by_cases c : i < 32
      · rw [if_pos (by omega), decide_eq_true (show i - Y < 32 - Y by omega), show Y + (i - Y) = i by omega]; simp
      · rw [if_neg (by omega), if_neg (by omega), bit_high hW (by omega), bit_high (w := 4294967295) (by omega) (by omega)]

set_option maxHeartbeats 1000000 in
theorem core (W X0 Y0 X Y D Z p q r u1 u2 v1 v2 : Nat) (a b : Int) (w : World) (HW : Hid (W < 4294967296)) (A : Hid (md a 30 = X0)) (B : Hid (md b (31 - (1 + (X0 : Int))) = Y0))
    (x0 : X0 < 30) (EX : Hid (X = 1 + X0)) (EY : Hid (Y = 1 + X0 + 1 + Y0)) (ED : Hid (Y = X + D)) (EZ : Hid (Y + Z = 32)) (d0 : 1 ≤ D) (z0 : 1 ≤ Z) (y0 : 1 + X0 + 1 + Y0 ≤ 31)
    (P : Hid (getN W 0 X = p)) (Q : Hid (getN W X D = q)) (R : Hid (getN W Y Z = r)) (p0 : Hid (p < 2 ^ X)) (q0 : Hid (q < 2 ^ D)) (r0 : Hid (r < 2 ^ Z))
    (U1 : Hid (putN 0 Y Z r = u1)) (U2 : Hid (putN u1 0 X p = u2)) (U3 : Hid (putN u2 X D q = W)) (V1 : Hid (putN 4294967295 X D q = v1)) (V2 : Hid (putN v1 Y Z r = v2)) (V3 : Hid (putN v2 0 X p = W))
    (lu1 : Hid (u1 < 4294967296)) (lu2 : Hid (u2 < 4294967296)) (lv1 : Hid (v1 < 4294967296)) (lv2 : Hid (v2 < 4294967296)) :
    Calls Try.prog 3 #[.int .u32 W, .int .i64 a, .int .i64 b] w fun e w' => e = .returned (.bool true) ∧ Mild w w' := by
  have acc := Mild.refl w
  have eX := EX.out
  have eY := EY.out
  have eD := ED.out
  have eZ := EZ.out
  have HX := Lib.hid (show 1 ≤ X by omega)
  have HX2 := Lib.hid (show 0 + X ≤ 32 by omega)
  have HP := Lib.hid (show 2 ^ X < 4294967296 from Nat.lt_of_le_of_lt (Nat.pow_le_pow_right (by omega) (show X ≤ 31 by omega)) (show 2 ^ 31 < 4294967296 by omega))
  have eP := Lib.hid (show (2 : Int) ^ (1 + X0) % 4294967296 = ((2 ^ X : Nat) : Int) by
    have hh := HP.out
    rw [show 1 + X0 = X by omega, pow_cast]
    generalize 2 ^ X = P at hh
    omega)
  have HZ := Lib.hid (show Y + Z ≤ 32 by omega)
  have HXD := Lib.hid (show X + D ≤ 32 by omega)
  have iX := Lib.hid (show (1 + (X0 : Int)) = (X : Nat) by omega)
  have iY := Lib.hid (show (1 + (X0 : Int) + 1 + Y0) = (Y : Nat) by omega)
  have iD := Lib.hid (show (1 + (X0 : Int) + 1 + Y0 - (1 + X0)) = (D : Nat) by omega)
  have iZ := Lib.hid (show (32 - (1 + (X0 : Int) + 1 + Y0)) = (Z : Nat) by omega)
  clear eX eY eD eZ EX EY ED EZ
  go_enter Try.func3, Try.ntmps3
  go_wp2_with fail
  refine (shown_any _).mono ?_; rintro z w1 ⟨rfl, hm⟩
  have acc := acc.trans hm; clear hm
  go_wp2_with fail
  refine (mod_is _ (by omega) (by omega) A.out).mono ?_; rintro z w' ⟨rfl, rfl⟩
  go_wp2_with fail
  refine (mod_is _ (by omega) (by omega) B.out).mono ?_; rintro z w' ⟨rfl, rfl⟩
  go_wp2_with fail
  refine (get_is _ HW.out HX.out HX2.out P.out rfl rfl iX.out).mono ?_; rintro z w1 ⟨rfl, hm⟩
  have acc := acc.trans hm; clear hm
  go_wp2_with fail
  refine (get_is _ HW.out d0 HXD.out Q.out rfl iX.out iD.out).mono ?_; rintro z w1 ⟨rfl, hm⟩
  have acc := acc.trans hm; clear hm
  go_wp2_with fail
  refine (get_is _ HW.out z0 HZ.out R.out rfl iY.out iZ.out).mono ?_; rintro z w1 ⟨rfl, hm⟩
  have acc := acc.trans hm; clear hm
  go_wp2_with fail
  refine (put_is (W := 0) _ (by omega) z0 HZ.out r0.out U1.out rfl iY.out iZ.out rfl).mono ?_; rintro z w1 ⟨rfl, hm⟩
  have acc := acc.trans hm; clear hm
  go_wp2_with fail
  refine (put_is _ lu1.out HX.out HX2.out p0.out U2.out rfl rfl iX.out rfl).mono ?_; rintro z w1 ⟨rfl, hm⟩
  have acc := acc.trans hm; clear hm
  go_wp2_with fail
  refine (put_is _ lu2.out d0 HXD.out q0.out U3.out rfl iX.out iD.out rfl).mono ?_; rintro z w1 ⟨rfl, hm⟩
  have acc := acc.trans hm; clear hm
  go_wp2_with fail
  refine (put_is (W := 4294967295) _ (by omega) d0 HXD.out q0.out V1.out rfl iX.out iD.out rfl).mono ?_; rintro z w1 ⟨rfl, hm⟩
  have acc := acc.trans hm; clear hm
  go_wp2_with fail
  refine (put_is _ lv1.out z0 HZ.out r0.out V2.out rfl iY.out iZ.out rfl).mono ?_; rintro z w1 ⟨rfl, hm⟩
  have acc := acc.trans hm; clear hm
  go_wp2_with fail
  refine (put_is _ lv2.out HX.out HX2.out p0.out V3.out rfl rfl iX.out rfl).mono ?_; rintro z w1 ⟨rfl, hm⟩
  have acc := acc.trans hm; clear hm
  go_wp2_with fail
  refine (put_over_is (V := 2 ^ X) _ HX.out HX2.out HP.out (Nat.le_refl _) rfl rfl iX.out eP.out).mono ?_; rintro z w1 ⟨rfl, hm⟩
  have acc := acc.trans hm; clear hm
  go_wp2_with fail
  go_ret
  exact ⟨rfl, acc⟩

/-! ### STEP 1: THE WALK: the Go text returns true. 'Grown w w'': the world has at most new blocks (Derived/RowKit3.lean). Part the cases AHEAD of 'go_enter' where a test parts the walk; take each callee by a contract of your own. -/
theorem walk (a0 : Int) (a1 : Int) (a2 : Int) (w0 : (Lit.int .u32 a0).wf = true) (w1 : (Lit.int .i64 a1).wf = true) (w2 : (Lit.int .i64 a2).wf = true) (w : World) :
    Calls Try.prog 3 #[.int .u32 a0, .int .i64 a1, .int .i64 a2] w fun e w' => e = .returned (.bool true) ∧ Grown w w' := by
  obtain ⟨A0, A1⟩ := bounds_u32 w0
  obtain ⟨W, rfl⟩ := Int.eq_ofNat_of_zero_le A0
  obtain ⟨X0, hX⟩ := Int.eq_ofNat_of_zero_le (md_lo a1 30)
  obtain ⟨Y0, hY⟩ := Int.eq_ofNat_of_zero_le (md_lo a2 (31 - (1 + (X0 : Int))))
  have x1 := md_hi a1 (n := 30) (by omega)
  have y1 := md_hi a2 (n := 31 - (1 + (X0 : Int))) (by omega)
  have hW : W < 4294967296 := by omega
  obtain ⟨X, eX⟩ : ∃ X, X = 1 + X0 := ⟨_, rfl⟩
  obtain ⟨D, eD⟩ : ∃ D, D = 1 + Y0 := ⟨_, rfl⟩
  obtain ⟨Z, eZ⟩ : ∃ Z, Z = 32 - (X + D) := ⟨_, rfl⟩
  have p0 := getN_lt W 0 X
  have q0 := getN_lt W X D
  have r0 := getN_lt W (X + D) Z
  have l1 := putN_lt (w := 0) (show X + D + Z ≤ 32 by omega) (by omega) r0
  have l2 := putN_lt (show 0 + X ≤ 32 by omega) l1 p0
  have m1 := putN_lt (w := 4294967295) (show X + D ≤ 32 by omega) (by omega) q0
  have m2 := putN_lt (show X + D + Z ≤ 32 by omega) m1 r0
  have f1 := put_fields hW (show 1 ≤ X by omega) (show X < X + D by omega) (by omega)
  have f2 := put_fields2 hW (show 1 ≤ X by omega) (show X < X + D by omega) (by omega)
  rw [← eZ, Nat.add_sub_cancel_left] at f1 f2
  exact (core W X0 Y0 X (X + D) D Z _ _ _ _ _ _ _ a1 a2 w hW hX hY (by omega) eX (by show X + D = _; omega) rfl (by show X + D + Z = 32; omega) (by omega) (by omega) (by omega) rfl rfl rfl p0 q0 r0 rfl rfl f1 rfl rfl f2 l1 l2 m1 m2).mono fun e w' ⟨h, m⟩ => ⟨h, m.grown⟩

/-! ### THE ROW's STEP: WRITTEN OUT: LEAVE IT -/
set_option maxRecDepth 100000 in
theorem lifted (os : Os) (started : os.Started) (H : Type) (enc : TypeId × Value → H) :
    ReturnsInHanded {} Try.checked os 3 .any (Rows.bitsFieldsSpec.pre6 enc Try.prog Try.f3 Rows.bitsFieldsRow.domain false) (Rows.bitsFieldsSpec.post enc Try.prog Try.f3 false true false false) := by
  refine returnsInHanded_of_change (C := Try.checked) own started (by kernel_rfl) Try.func3
    (ChangeSpec.witness6 (enc := enc) (C := Try.checked) false ⟨#[], #[.int .u32 0, .int .i64 0, .int .i64 0], []⟩ 8 (by kernel_rfl) (by kernel_rfl) (by kernel_rfl) (by kernel_rfl)) ?_
  intro W base args ds gs before hval0 hW hcnd _
  have hval : ∀ (j : Nat) t v, Try.f3.params[j]? = some t → args[j]? = some v → Value.okWide Try.prog W .any base t v := hval0
  have hW' := hW
  obtain ⟨p, q, hA0, hV, rfl, hfz, hnd⟩ := hW
  have hA : DataW.TrodAll enc Try.prog W 0 (fun _ => true) true Try.f3.params.toList args.toList ds p := hA0
  rw [Try.params3] at hA hval
  obtain ⟨v0, vs0, d0, ds0, p0, q0, hargs, rfl, rfl, h0, r0⟩ := trodAll_cons hA
  obtain ⟨v1, vs1, d1, ds1, p1, q1, rfl, rfl, rfl, h1, r1⟩ := trodAll_cons r0
  obtain ⟨v2, vs2, d2, ds2, p2, q2, rfl, rfl, rfl, h2, r2⟩ := trodAll_cons r1
  obtain ⟨rfl, rfl, rfl⟩ := trodAll_nil r2
  obtain rfl : args = #[v0, v1, v2] := by cases args; simp_all
  obtain ⟨rfl, rfl⟩ := trodVars_none hV
  obtain ⟨a0, rfl, rfl, rfl, w0⟩ := open_int Try.underlying22 (hval 0 22 v0 rfl rfl) h0
  obtain ⟨a1, rfl, rfl, rfl, w1⟩ := open_int Try.underlying3 (hval 1 3 v1 rfl rfl) h1
  obtain ⟨a2, rfl, rfl, rfl, w2⟩ := open_int Try.underlying3 (hval 2 3 v2 rfl rfl) h2
  clear hA0 hval0
  simp only [List.append_nil] at hW'
  refine (walk a0 a1 a2 w0 w1 w2 W).mono fun e W' ⟨he, hg⟩ => ?_
  subst he
  exact ⟨_, rfl, post_of_same (pa := []) (pv := []) hW' (fun _ _ _ => (trodAll_cons_mk (shut_bool Try.underlying4 _) trodAll_mk0)) (fun sp _ => (trodAll_cons_mk (shut_int Try.underlying22 w0) (trodAll_cons_mk (shut_int Try.underlying3 w1) (trodAll_cons_mk (shut_int Try.underlying3 w2) trodAll_mk0)))) (fun _ _ => rfl) rfl
    (hg.frame _) hg.2.1 (ok_one (by kernel_rfl) rfl (okWide_bool_mk Try.underlying4 _))⟩

theorem over : Rows.bitsFieldsRow.holds Try.pinned (OpenSpec.ofChange Rows.bitsFieldsSpec) :=
  OpenClaim.holds_of_wide 3 Try.f3 rfl rfl rfl rfl rfl rfl rfl ⟨rfl, rfl, rfl, rfl, rfl⟩ rfl rfl rfl rfl rfl (by kernel_rfl) Try.func3 (by kernel_rfl)
    (of_decide_eq_true (by kernel_rfl)) (by unfold Func.isWrapper; first | (rw [if_pos (by decide +kernel)]; kernel_rfl) | (rw [if_neg (by decide +kernel)]; exact ⟨rfl, rfl⟩))
    (fun os started H enc _ => lifted os started H enc)

theorem proved : Rows.BitsFieldsSaid :=
  over
#print axioms proved
end Go.Proofs.Ytojfhebejfibkaa.bitsFields
