/- WordFields: for every input the law returns true, and each argument reads afterwards as it read before. No condition. -/
import Derived.Test.YtojfhebejfibkaaRows
import Derived.WalkKit
import Derived.ProofKit
import Derived.OpenShut
import Derived.Test.YtojfhebejfibkaaWordLaw
import Derived.Deep.Cut
namespace Go.Proofs.Ytojfhebejfibkaa.wordFields
open Go.ChangeShapes Go.WideShapes Go.ChangeAt Go.RowKit
set_option linter.unusedVariables false      -- a walk need not use every 'w<i>' (that an integer argument fits its kind)

theorem own : ownKnob Try.prog.godebug = none := by kernel_rfl


set_option maxRecDepth 100000 in
set_option maxHeartbeats 2000000 in
theorem coreY (W V A B C D X : Nat) (w : World) (HW : Kept (W < 4294967296)) (hV : bits .and .u32 (W : Int) 268435455 = V) (HV : Kept (V < 268435456))
    (ha : Kept (V % 256 = A)) (hb : Kept (V / 256 % 4 = B)) (hc : Kept (V / 1024 % 256 = C)) (hd : Kept (V / 262144 = D)) (h0 : A ≤ 255) (h1 : B ≤ 3) (h2 : C ≤ 255) (h3 : D < 1023)
    (g0 : Kept (getN W 0 8 = A)) (g1 : Kept (getN W 8 2 = B)) (g2 : Kept (getN W 10 8 = C)) (g3 : Kept (getN W 18 10 = D)) (hX : Kept (A + 256 * B + 1024 * C + 262144 * (D + 1) = X)) (hxv : ((X : Int) != (V : Int) + 262144) = false) (lv : V ≤ 268435455) :
    Calls Try.prog 11 #[.int .u32 W] w fun e w' => e = .returned (.bool true) ∧ Mild w w' := by
  go_enter Try.func11, Try.ntmps11
  go_wp2_with fail
  refine (shownW_any _).mono ?_; rintro z w1 ⟨rfl, m1⟩
  go_wp2_with fail
  refine (unpack_is V A B C D _ rfl HV.out ha.out hb.out hc.out hd.out).mono ?_; rintro z w2 ⟨rfl, m2⟩
  go_wp2_with fail
  refine (get_is (L := 0) (M := 8) _ HW.out (by omega) (by omega) g0.out rfl rfl rfl).mono ?_; rintro z w3 ⟨rfl, m3⟩
  go_wp2_with fail
  refine (get_is (L := 8) (M := 2) _ HW.out (by omega) (by omega) g1.out rfl rfl rfl).mono ?_; rintro z w4 ⟨rfl, m4⟩
  go_wp2_with fail
  refine (get_is (L := 10) (M := 8) _ HW.out (by omega) (by omega) g2.out rfl rfl rfl).mono ?_; rintro z w5 ⟨rfl, m5⟩
  go_wp2_with fail
  refine (get_is (L := 18) (M := 10) _ HW.out (by omega) (by omega) g3.out rfl rfl rfl).mono ?_; rintro z w6 ⟨rfl, m6⟩
  have mh := ((m3.trans m4).trans m5).trans m6
  have hlt : w2.heap.size < w6.heap.size := by have := mh.below.size; simp at this; omega
  have hne : w6.heap.size ≠ w2.heap.size := by omega
  have H6 := (Four.new w2 (.int .i64 A) (.int .i64 B) (.int .i64 C) (.int .i64 D) 39).mild (by simp) mh
  have acc := ((m1.trans m2).alloc #[.int .i64 A, .int .i64 B, .int .i64 C, .int .i64 D] 39).trans mh
  have hbase : w.heap.size ≤ w6.heap.size := acc.below.size
  clear m1 m2 m3 m4 m5 m6
  have e0 := H6.c0
  have e1 := H6.c1
  have e2 := H6.c2
  have e3 := H6.c3
  have ef := H6.free
  go_wp2_with fail
  clear e0 e1 e2 e3 ef
  refine (pack_is A B C (D + 1) X _ rfl rfl rfl (by omega) (by omega) (by omega) (by omega) (by omega) hX.out).mono ?_; rintro z w7 ⟨rfl, m7⟩
  have hl7 : w6.heap.size < w7.heap.size := by have := m7.below.size; simp at this; omega
  have H7 := (H6.old (by omega) #[.int .i64 A, .int .i64 B, .int .i64 C, .int .i64 ((D : Int) + 1)] 39).mild (by simp; omega) m7
  have K7 := (Four.new w6 (.int .i64 A) (.int .i64 B) (.int .i64 C) (.int .i64 ((D : Int) + 1)) 39).mild (by simp) m7
  have acc := (acc.alloc #[.int .i64 A, .int .i64 B, .int .i64 C, .int .i64 ((D : Int) + 1)] 39).trans m7
  clear m7 H6 mh
  have e0 := H7.c0
  have e1 := H7.c1
  have e2 := H7.c2
  have e3 := H7.c3
  have ef := H7.free
  have k0 := K7.c0
  have k1 := K7.c1
  have k2 := K7.c2
  have k3 := K7.c3
  have kf := K7.free
  go_upto_region 20 with fail
  clear e0 e1 e2 e3 ef
  clear k0 k1 k2 k3 kf
  have KC := (((((K7).set0 (y := .int .i64 (A : Int))).set1 (y := .int .i64 (B : Int))).set2 (y := .int .i64 (C : Int))).set3 (y := .int .i64 (D : Int))).set1 (y := .int .i64 (-1))
  have HC := Four.other (c := w6.heap.size) (i := 1) (y := .int .i64 (-1)) (Four.other (c := w6.heap.size) (i := 3) (y := .int .i64 (D : Int)) (Four.other (c := w6.heap.size) (i := 2) (y := .int .i64 (C : Int)) (Four.other (c := w6.heap.size) (i := 1) (y := .int .i64 (B : Int)) (Four.other (c := w6.heap.size) (i := 0) (y := .int .i64 (A : Int)) (H7) hne) hne) hne) hne) hne
  have acc := Mild.setCell (p := ⟨w6.heap.size, 1, none⟩) (Mild.setCell (p := ⟨w6.heap.size, 3, none⟩) (Mild.setCell (p := ⟨w6.heap.size, 2, none⟩) (Mild.setCell (p := ⟨w6.heap.size, 1, none⟩) (Mild.setCell (p := ⟨w6.heap.size, 0, none⟩) (acc) hbase (.int .i64 (A : Int))) hbase (.int .i64 (B : Int))) hbase (.int .i64 (C : Int))) hbase (.int .i64 (D : Int))) hbase (.int .i64 (-1))
  have hsz : (World.setCell (World.setCell (World.setCell (World.setCell (World.setCell w7 ⟨w6.heap.size, 0, none⟩ (.int .i64 (A : Int))) ⟨w6.heap.size, 1, none⟩ (.int .i64 (B : Int))) ⟨w6.heap.size, 2, none⟩ (.int .i64 (C : Int))) ⟨w6.heap.size, 3, none⟩ (.int .i64 (D : Int))) ⟨w6.heap.size, 1, none⟩ (.int .i64 (-1))).heap.size = w7.heap.size := by simp
  generalize hch : (World.setCell (World.setCell (World.setCell (World.setCell (World.setCell w7 ⟨w6.heap.size, 0, none⟩ (.int .i64 (A : Int))) ⟨w6.heap.size, 1, none⟩ (.int .i64 (B : Int))) ⟨w6.heap.size, 2, none⟩ (.int .i64 (C : Int))) ⟨w6.heap.size, 3, none⟩ (.int .i64 (D : Int))) ⟨w6.heap.size, 1, none⟩ (.int .i64 (-1))) = wc at KC HC acc hsz ⊢
  clear hch
  have k0 := KC.c0
  have k1 := KC.c1
  have k2 := KC.c2
  have k3 := KC.c3
  have kf := KC.free
  go_wp2_with fail
  clear k0 k1 k2 k3 kf
  refine (pack_bad (A : Nat) (-1) (C : Nat) (D : Nat) _ (by unfold headOk; omega)).mono ?_; rintro z w8 ⟨rfl, mw8⟩
  have acc := acc.trans mw8
  have hlw8 : w6.heap.size < w8.heap.size := by have := mw8.below.size; omega
  have H8 := HC.mild (by omega) mw8
  have K8 := KC.mild (by omega) mw8
  clear HC KC mw8 hsz
  have e0 := H8.c0
  have e1 := H8.c1
  have e2 := H8.c2
  have e3 := H8.c3
  have ef := H8.free
  have k0 := K8.c0
  have k1 := K8.c1
  have k2 := K8.c2
  have k3 := K8.c3
  have kf := K8.free
  go_upto_region 23 with fail
  clear e0 e1 e2 e3 ef
  clear k0 k1 k2 k3 kf
  have KC := (((((K8).set0 (y := .int .i64 (A : Int))).set1 (y := .int .i64 (B : Int))).set2 (y := .int .i64 (C : Int))).set3 (y := .int .i64 (D : Int))).set2 (y := .int .i64 256)
  have HC := Four.other (c := w6.heap.size) (i := 2) (y := .int .i64 256) (Four.other (c := w6.heap.size) (i := 3) (y := .int .i64 (D : Int)) (Four.other (c := w6.heap.size) (i := 2) (y := .int .i64 (C : Int)) (Four.other (c := w6.heap.size) (i := 1) (y := .int .i64 (B : Int)) (Four.other (c := w6.heap.size) (i := 0) (y := .int .i64 (A : Int)) (H8) hne) hne) hne) hne) hne
  have acc := Mild.setCell (p := ⟨w6.heap.size, 2, none⟩) (Mild.setCell (p := ⟨w6.heap.size, 3, none⟩) (Mild.setCell (p := ⟨w6.heap.size, 2, none⟩) (Mild.setCell (p := ⟨w6.heap.size, 1, none⟩) (Mild.setCell (p := ⟨w6.heap.size, 0, none⟩) (acc) hbase (.int .i64 (A : Int))) hbase (.int .i64 (B : Int))) hbase (.int .i64 (C : Int))) hbase (.int .i64 (D : Int))) hbase (.int .i64 256)
  have hsz : (World.setCell (World.setCell (World.setCell (World.setCell (World.setCell w8 ⟨w6.heap.size, 0, none⟩ (.int .i64 (A : Int))) ⟨w6.heap.size, 1, none⟩ (.int .i64 (B : Int))) ⟨w6.heap.size, 2, none⟩ (.int .i64 (C : Int))) ⟨w6.heap.size, 3, none⟩ (.int .i64 (D : Int))) ⟨w6.heap.size, 2, none⟩ (.int .i64 256)).heap.size = w8.heap.size := by simp
  generalize hch : (World.setCell (World.setCell (World.setCell (World.setCell (World.setCell w8 ⟨w6.heap.size, 0, none⟩ (.int .i64 (A : Int))) ⟨w6.heap.size, 1, none⟩ (.int .i64 (B : Int))) ⟨w6.heap.size, 2, none⟩ (.int .i64 (C : Int))) ⟨w6.heap.size, 3, none⟩ (.int .i64 (D : Int))) ⟨w6.heap.size, 2, none⟩ (.int .i64 256)) = wc at KC HC acc hsz ⊢
  clear hch
  have k0 := KC.c0
  have k1 := KC.c1
  have k2 := KC.c2
  have k3 := KC.c3
  have kf := KC.free
  go_wp2_with fail
  clear k0 k1 k2 k3 kf
  refine (pack_bad (A : Nat) (B : Nat) 256 (D : Nat) _ (by unfold headOk; omega)).mono ?_; rintro z w9 ⟨rfl, mw9⟩
  have acc := acc.trans mw9
  have hlw9 : w6.heap.size < w9.heap.size := by have := mw9.below.size; omega
  have H9 := HC.mild (by omega) mw9
  have K9 := KC.mild (by omega) mw9
  clear HC KC mw9 hsz
  have k0 := K9.c0
  have k1 := K9.c1
  have k2 := K9.c2
  have k3 := K9.c3
  have kf := K9.free
  go_wp2_with fail
  clear k0 k1 k2 k3 kf
  refine (command_bad (A : Nat) (B : Nat) 256 (D : Nat) _ _ (by unfold headOk; omega)).mono ?_; rintro z w10 ⟨rfl, m10⟩
  go_wp2_with fail
  go_ret
  exact ⟨rfl, (acc.alloc _ _).trans m10⟩

set_option maxRecDepth 100000 in
set_option maxHeartbeats 2000000 in
theorem coreN (W V A B C D : Nat) (w : World) (HW : Kept (W < 4294967296)) (hV : bits .and .u32 (W : Int) 268435455 = V) (HV : Kept (V < 268435456))
    (ha : Kept (V % 256 = A)) (hb : Kept (V / 256 % 4 = B)) (hc : Kept (V / 1024 % 256 = C)) (hd : Kept (V / 262144 = D)) (h0 : A ≤ 255) (h1 : B ≤ 3) (h2 : C ≤ 255) (h3 : 1023 ≤ D ∧ D ≤ 1023)
    (g0 : Kept (getN W 0 8 = A)) (g1 : Kept (getN W 8 2 = B)) (g2 : Kept (getN W 10 8 = C)) (g3 : Kept (getN W 18 10 = D))  (lv : V ≤ 268435455) :
    Calls Try.prog 11 #[.int .u32 W] w fun e w' => e = .returned (.bool true) ∧ Mild w w' := by
  go_enter Try.func11, Try.ntmps11
  go_wp2_with fail
  refine (shownW_any _).mono ?_; rintro z w1 ⟨rfl, m1⟩
  go_wp2_with fail
  refine (unpack_is V A B C D _ rfl HV.out ha.out hb.out hc.out hd.out).mono ?_; rintro z w2 ⟨rfl, m2⟩
  go_wp2_with fail
  refine (get_is (L := 0) (M := 8) _ HW.out (by omega) (by omega) g0.out rfl rfl rfl).mono ?_; rintro z w3 ⟨rfl, m3⟩
  go_wp2_with fail
  refine (get_is (L := 8) (M := 2) _ HW.out (by omega) (by omega) g1.out rfl rfl rfl).mono ?_; rintro z w4 ⟨rfl, m4⟩
  go_wp2_with fail
  refine (get_is (L := 10) (M := 8) _ HW.out (by omega) (by omega) g2.out rfl rfl rfl).mono ?_; rintro z w5 ⟨rfl, m5⟩
  go_wp2_with fail
  refine (get_is (L := 18) (M := 10) _ HW.out (by omega) (by omega) g3.out rfl rfl rfl).mono ?_; rintro z w6 ⟨rfl, m6⟩
  have mh := ((m3.trans m4).trans m5).trans m6
  have hlt : w2.heap.size < w6.heap.size := by have := mh.below.size; simp at this; omega
  have hne : w6.heap.size ≠ w2.heap.size := by omega
  have H6 := (Four.new w2 (.int .i64 A) (.int .i64 B) (.int .i64 C) (.int .i64 D) 39).mild (by simp) mh
  have acc := ((m1.trans m2).alloc #[.int .i64 A, .int .i64 B, .int .i64 C, .int .i64 D] 39).trans mh
  have hbase : w.heap.size ≤ w6.heap.size := acc.below.size
  clear m1 m2 m3 m4 m5 m6
  have e0 := H6.c0
  have e1 := H6.c1
  have e2 := H6.c2
  have e3 := H6.c3
  have ef := H6.free
  go_wp2_with fail
  clear e0 e1 e2 e3 ef
  refine (pack_bad (A : Nat) (B : Nat) (C : Nat) ((D : Nat) + 1) _ (by unfold headOk; omega)).mono ?_; rintro z w7 ⟨rfl, m7⟩
  have hl7 : w6.heap.size < w7.heap.size := by have := m7.below.size; simp at this; omega
  have H7 := (H6.old (by omega) #[.int .i64 A, .int .i64 B, .int .i64 C, .int .i64 ((D : Int) + 1)] 39).mild (by simp; omega) m7
  have K7 := (Four.new w6 (.int .i64 A) (.int .i64 B) (.int .i64 C) (.int .i64 ((D : Int) + 1)) 39).mild (by simp) m7
  have acc := (acc.alloc #[.int .i64 A, .int .i64 B, .int .i64 C, .int .i64 ((D : Int) + 1)] 39).trans m7
  clear m7 H6 mh
  have e0 := H7.c0
  have e1 := H7.c1
  have e2 := H7.c2
  have e3 := H7.c3
  have ef := H7.free
  have k0 := K7.c0
  have k1 := K7.c1
  have k2 := K7.c2
  have k3 := K7.c3
  have kf := K7.free
  go_upto_region 20 with fail
  clear e0 e1 e2 e3 ef
  clear k0 k1 k2 k3 kf
  have KC := (((((K7).set0 (y := .int .i64 (A : Int))).set1 (y := .int .i64 (B : Int))).set2 (y := .int .i64 (C : Int))).set3 (y := .int .i64 (D : Int))).set1 (y := .int .i64 (-1))
  have HC := Four.other (c := w6.heap.size) (i := 1) (y := .int .i64 (-1)) (Four.other (c := w6.heap.size) (i := 3) (y := .int .i64 (D : Int)) (Four.other (c := w6.heap.size) (i := 2) (y := .int .i64 (C : Int)) (Four.other (c := w6.heap.size) (i := 1) (y := .int .i64 (B : Int)) (Four.other (c := w6.heap.size) (i := 0) (y := .int .i64 (A : Int)) (H7) hne) hne) hne) hne) hne
  have acc := Mild.setCell (p := ⟨w6.heap.size, 1, none⟩) (Mild.setCell (p := ⟨w6.heap.size, 3, none⟩) (Mild.setCell (p := ⟨w6.heap.size, 2, none⟩) (Mild.setCell (p := ⟨w6.heap.size, 1, none⟩) (Mild.setCell (p := ⟨w6.heap.size, 0, none⟩) (acc) hbase (.int .i64 (A : Int))) hbase (.int .i64 (B : Int))) hbase (.int .i64 (C : Int))) hbase (.int .i64 (D : Int))) hbase (.int .i64 (-1))
  have hsz : (World.setCell (World.setCell (World.setCell (World.setCell (World.setCell w7 ⟨w6.heap.size, 0, none⟩ (.int .i64 (A : Int))) ⟨w6.heap.size, 1, none⟩ (.int .i64 (B : Int))) ⟨w6.heap.size, 2, none⟩ (.int .i64 (C : Int))) ⟨w6.heap.size, 3, none⟩ (.int .i64 (D : Int))) ⟨w6.heap.size, 1, none⟩ (.int .i64 (-1))).heap.size = w7.heap.size := by simp
  generalize hch : (World.setCell (World.setCell (World.setCell (World.setCell (World.setCell w7 ⟨w6.heap.size, 0, none⟩ (.int .i64 (A : Int))) ⟨w6.heap.size, 1, none⟩ (.int .i64 (B : Int))) ⟨w6.heap.size, 2, none⟩ (.int .i64 (C : Int))) ⟨w6.heap.size, 3, none⟩ (.int .i64 (D : Int))) ⟨w6.heap.size, 1, none⟩ (.int .i64 (-1))) = wc at KC HC acc hsz ⊢
  clear hch
  have k0 := KC.c0
  have k1 := KC.c1
  have k2 := KC.c2
  have k3 := KC.c3
  have kf := KC.free
  go_wp2_with fail
  clear k0 k1 k2 k3 kf
  refine (pack_bad (A : Nat) (-1) (C : Nat) (D : Nat) _ (by unfold headOk; omega)).mono ?_; rintro z w8 ⟨rfl, mw8⟩
  have acc := acc.trans mw8
  have hlw8 : w6.heap.size < w8.heap.size := by have := mw8.below.size; omega
  have H8 := HC.mild (by omega) mw8
  have K8 := KC.mild (by omega) mw8
  clear HC KC mw8 hsz
  have e0 := H8.c0
  have e1 := H8.c1
  have e2 := H8.c2
  have e3 := H8.c3
  have ef := H8.free
  have k0 := K8.c0
  have k1 := K8.c1
  have k2 := K8.c2
  have k3 := K8.c3
  have kf := K8.free
  go_upto_region 23 with fail
  clear e0 e1 e2 e3 ef
  clear k0 k1 k2 k3 kf
  have KC := (((((K8).set0 (y := .int .i64 (A : Int))).set1 (y := .int .i64 (B : Int))).set2 (y := .int .i64 (C : Int))).set3 (y := .int .i64 (D : Int))).set2 (y := .int .i64 256)
  have HC := Four.other (c := w6.heap.size) (i := 2) (y := .int .i64 256) (Four.other (c := w6.heap.size) (i := 3) (y := .int .i64 (D : Int)) (Four.other (c := w6.heap.size) (i := 2) (y := .int .i64 (C : Int)) (Four.other (c := w6.heap.size) (i := 1) (y := .int .i64 (B : Int)) (Four.other (c := w6.heap.size) (i := 0) (y := .int .i64 (A : Int)) (H8) hne) hne) hne) hne) hne
  have acc := Mild.setCell (p := ⟨w6.heap.size, 2, none⟩) (Mild.setCell (p := ⟨w6.heap.size, 3, none⟩) (Mild.setCell (p := ⟨w6.heap.size, 2, none⟩) (Mild.setCell (p := ⟨w6.heap.size, 1, none⟩) (Mild.setCell (p := ⟨w6.heap.size, 0, none⟩) (acc) hbase (.int .i64 (A : Int))) hbase (.int .i64 (B : Int))) hbase (.int .i64 (C : Int))) hbase (.int .i64 (D : Int))) hbase (.int .i64 256)
  have hsz : (World.setCell (World.setCell (World.setCell (World.setCell (World.setCell w8 ⟨w6.heap.size, 0, none⟩ (.int .i64 (A : Int))) ⟨w6.heap.size, 1, none⟩ (.int .i64 (B : Int))) ⟨w6.heap.size, 2, none⟩ (.int .i64 (C : Int))) ⟨w6.heap.size, 3, none⟩ (.int .i64 (D : Int))) ⟨w6.heap.size, 2, none⟩ (.int .i64 256)).heap.size = w8.heap.size := by simp
  generalize hch : (World.setCell (World.setCell (World.setCell (World.setCell (World.setCell w8 ⟨w6.heap.size, 0, none⟩ (.int .i64 (A : Int))) ⟨w6.heap.size, 1, none⟩ (.int .i64 (B : Int))) ⟨w6.heap.size, 2, none⟩ (.int .i64 (C : Int))) ⟨w6.heap.size, 3, none⟩ (.int .i64 (D : Int))) ⟨w6.heap.size, 2, none⟩ (.int .i64 256)) = wc at KC HC acc hsz ⊢
  clear hch
  have k0 := KC.c0
  have k1 := KC.c1
  have k2 := KC.c2
  have k3 := KC.c3
  have kf := KC.free
  go_wp2_with fail
  clear k0 k1 k2 k3 kf
  refine (pack_bad (A : Nat) (B : Nat) 256 (D : Nat) _ (by unfold headOk; omega)).mono ?_; rintro z w9 ⟨rfl, mw9⟩
  have acc := acc.trans mw9
  have hlw9 : w6.heap.size < w9.heap.size := by have := mw9.below.size; omega
  have H9 := HC.mild (by omega) mw9
  have K9 := KC.mild (by omega) mw9
  clear HC KC mw9 hsz
  have k0 := K9.c0
  have k1 := K9.c1
  have k2 := K9.c2
  have k3 := K9.c3
  have kf := K9.free
  go_wp2_with fail
  clear k0 k1 k2 k3 kf
  refine (command_bad (A : Nat) (B : Nat) 256 (D : Nat) _ _ (by unfold headOk; omega)).mono ?_; rintro z w10 ⟨rfl, m10⟩
  go_wp2_with fail
  go_ret
  exact ⟨rfl, (acc.alloc _ _).trans m10⟩

theorem fields_of {W V A B C D : Nat} (hV : W % 268435456 = V) (ha : V % 256 = A) (hb : V / 256 % 4 = B) (hc : V / 1024 % 256 = C) (hd : V / 262144 = D) :
    getN W 0 8 = A ∧ getN W 8 2 = B ∧ getN W 10 8 = C ∧ getN W 18 10 = D := by
  unfold getN
  refine ⟨by omega, by omega, by omega, by omega⟩

/-! ### STEP 1: THE WALK: the Go text returns true. 'Grown w w'': the world has at most new blocks (Derived/RowKit3.lean). Part the cases AHEAD of 'go_enter' where a test parts the walk; take each callee by a contract of your own. -/
theorem walk (a0 : Int) (w0 : (Lit.int .u32 a0).wf = true) (w : World) :
    Calls Try.prog 11 #[.int .u32 a0] w fun e w' => e = .returned (.bool true) ∧ Grown w w' := by
  obtain ⟨A0, A1⟩ := bounds_u32 w0
  obtain ⟨W, rfl⟩ := Int.eq_ofNat_of_zero_le A0
  have hW : W < 4294967296 := by omega
  have hV := mask28 hW
  obtain ⟨V, eV⟩ : ∃ V, W % 268435456 = V := ⟨_, rfl⟩
  rw [eV] at hV
  have lV : V < 268435456 := by omega
  obtain ⟨A, ha⟩ : ∃ A, V % 256 = A := ⟨_, rfl⟩
  obtain ⟨B, hb⟩ : ∃ B, V / 256 % 4 = B := ⟨_, rfl⟩
  obtain ⟨C, hc⟩ : ∃ C, V / 1024 % 256 = C := ⟨_, rfl⟩
  obtain ⟨D, hd⟩ : ∃ D, V / 262144 = D := ⟨_, rfl⟩
  obtain ⟨f0, f1, f2, f3⟩ := fields_of eV ha hb hc hd
  by_cases h : D < 1023
  · obtain ⟨X, hX⟩ : ∃ X, A + 256 * B + 1024 * C + 262144 * (D + 1) = X := ⟨_, rfl⟩
    exact (coreY W V A B C D X w ⟨hW⟩ hV ⟨lV⟩ ⟨ha⟩ ⟨hb⟩ ⟨hc⟩ ⟨hd⟩ (by omega) (by omega) (by omega) h ⟨f0⟩ ⟨f1⟩ ⟨f2⟩ ⟨f3⟩ ⟨hX⟩ (by simp; omega) (by omega)).mono fun e w' ⟨h, m⟩ => ⟨h, m.grown⟩
  · exact (coreN W V A B C D w ⟨hW⟩ hV ⟨lV⟩ ⟨ha⟩ ⟨hb⟩ ⟨hc⟩ ⟨hd⟩ (by omega) (by omega) (by omega) (by omega) ⟨f0⟩ ⟨f1⟩ ⟨f2⟩ ⟨f3⟩ (by omega)).mono fun e w' ⟨h, m⟩ => ⟨h, m.grown⟩

/-! ### THE ROW's STEP: WRITTEN OUT: LEAVE IT -/
set_option maxRecDepth 100000 in
theorem lifted (os : Os) (started : os.Started) (H : Type) (enc : TypeId × Value → H) :
    ReturnsInHanded {} Try.checked os 11 .any (Rows.wordFieldsSpec.pre6 enc Try.prog Try.f11 Rows.wordFieldsRow.domain false) (Rows.wordFieldsSpec.post enc Try.prog Try.f11 false true false false) := by
  refine returnsInHanded_of_change (C := Try.checked) own started (by kernel_rfl) Try.func11
    (ChangeSpec.witness6 (enc := enc) (C := Try.checked) false ⟨#[], #[.int .u32 0], []⟩ 8 (by kernel_rfl) (by kernel_rfl) (by kernel_rfl) (by kernel_rfl)) ?_
  intro W base args ds gs before hval0 hW hcnd _
  have hval : ∀ (j : Nat) t v, Try.f11.params[j]? = some t → args[j]? = some v → Value.okWide Try.prog W .any base t v := hval0
  have hW' := hW
  obtain ⟨p, q, hA0, hV, rfl, hfz, hnd⟩ := hW
  have hA : DataW.TrodAll enc Try.prog W 0 (fun _ => true) true Try.f11.params.toList args.toList ds p := hA0
  rw [Try.params11] at hA hval
  obtain ⟨v0, vs0, d0, ds0, p0, q0, hargs, rfl, rfl, h0, r0⟩ := trodAll_cons hA
  obtain ⟨rfl, rfl, rfl⟩ := trodAll_nil r0
  obtain rfl : args = #[v0] := by cases args; simp_all
  obtain ⟨rfl, rfl⟩ := trodVars_none hV
  obtain ⟨a0, rfl, rfl, rfl, w0⟩ := open_int Try.underlying22 (hval 0 22 v0 rfl rfl) h0
  clear hA0 hval0
  simp only [List.append_nil] at hW'
  refine (walk a0 w0 W).mono fun e W' ⟨he, hg⟩ => ?_
  subst he
  exact ⟨_, rfl, post_of_same (pa := []) (pv := []) hW' (fun _ _ _ => (trodAll_cons_mk (shut_bool Try.underlying4 _) trodAll_mk0)) (fun sp _ => (trodAll_cons_mk (shut_int Try.underlying22 w0) trodAll_mk0)) (fun _ _ => rfl) rfl
    (hg.frame _) hg.2.1 (ok_one (by kernel_rfl) rfl (okWide_bool_mk Try.underlying4 _))⟩

theorem over : Rows.wordFieldsRow.holds Try.pinned (OpenSpec.ofChange Rows.wordFieldsSpec) :=
  OpenClaim.holds_of_wide 11 Try.f11 rfl rfl rfl rfl rfl rfl rfl ⟨rfl, rfl, rfl, rfl, rfl⟩ rfl rfl rfl rfl rfl (by kernel_rfl) Try.func11 (by kernel_rfl)
    (of_decide_eq_true (by kernel_rfl)) (by unfold Func.isWrapper; first | (rw [if_pos (by decide +kernel)]; kernel_rfl) | (rw [if_neg (by decide +kernel)]; exact ⟨rfl, rfl⟩))
    (fun os started H enc _ => lifted os started H enc)

theorem proved : Rows.WordFieldsSaid :=
  over
#print axioms proved
end Go.Proofs.Ytojfhebejfibkaa.wordFields
