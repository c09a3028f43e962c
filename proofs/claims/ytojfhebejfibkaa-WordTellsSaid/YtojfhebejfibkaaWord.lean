/- What word.put, part, Pack and Unpack compute. For every input. -/
import Derived.Test.YtojfhebejfibkaaBitWalk
import Derived.Laws.ResultCell
namespace Go.Proofs.Ytojfhebejfibkaa
open Go.RowKit

theorem wrap_pow {n : Nat} (h : n ≤ 32) : wrap64 (2 ^ n) = ((2 ^ n : Nat) : Int) := by
  have p : 2 ^ n ≤ 2 ^ 32 := Nat.pow_le_pow_right (by omega) h
  rw [pow_cast]
  generalize 2 ^ n = P at p
  exact IntWalk.wrap64_in _ (by omega)

/-- A number put above all that is set is added. -/
theorem putN_add {W l m v : Nat} (h : l + m ≤ 32) (hW : W < 2 ^ l) (hv : v < 2 ^ m) : putN W l m v = W + v * 2 ^ l := by
  have hl : 2 ^ l ≤ 2 ^ 32 := Nat.pow_le_pow_right (by omega) (by omega)
  apply Nat.eq_of_testBit_eq; intro i
  rw [putN_bit h (by omega) hv, Nat.add_comm W, Nat.mul_comm v, Nat.testBit_two_pow_mul_add _ hW]
  by_cases a : i < l
  · rw [if_neg (by omega), if_pos a]
  · rw [if_neg a]
    by_cases b : i < l + m
    · rw [if_pos (by omega)]
    · rw [if_neg (by omega), bit_above hW (by omega), bit_above hv (by omega)]

theorem put_out (v low : Int) (W M P : Nat) (w : World) (m1 : M ≤ 32) (hP : 2 ^ M = P) (h : v < 0 ∨ (P : Int) ≤ v) :
    Calls Try.prog 34 #[.int .u32 (W : Int), .int .i64 low, .int .i64 (M : Int), .int .i64 v] w fun e w' => e = pairW 0 1 ∧ w' = w := by
  have X := wrap_pow m1
  rw [hP] at X
  by_cases h1 : v < 0
  · clear h X hP
    go_enter Try.func34, Try.ntmps34
    go_wp2_with fail
    go_ret2
    exact ⟨rfl, rfl⟩
  · have h2 : (P : Int) ≤ v := by omega
    clear h hP
    go_enter Try.func34, Try.ntmps34
    go_wp2_with fail
    go_ret2
    exact ⟨rfl, rfl⟩

theorem put_in (W L M V P : Nat) (R : Nat) (w : World) (hW : Kept (W < 4294967296)) (m0 : 1 ≤ M) (h : L + M ≤ 32) (hP : Kept (2 ^ M = P)) (hp : P ≤ 4294967296) (hV : V < P) (hr : Kept (putN W L M V = R)) :
    Calls Try.prog 34 #[.int .u32 (W : Int), .int .i64 (L : Int), .int .i64 (M : Int), .int .i64 (V : Int)] w fun e w' => e = pairW R 0 ∧ Mild w w' := by
  have X := wrap_pow (n := M) (by omega)
  rw [hP.out] at X
  have HV := Kept.mk (show V < 2 ^ M by rw [hP.out]; exact hV)
  go_enter Try.func34, Try.ntmps34
  go_wp2_with fail
  refine (put_is _ hW.out m0 h HV.out hr.out rfl rfl rfl rfl).mono ?_; rintro z w1 ⟨rfl, hm⟩
  go_wp2_with fail
  go_ret2
  exact ⟨rfl, hm⟩

theorem part_is {v low many : Int} {W L M R : Nat} (w : World) (hW : W < 4294967296) (m0 : 1 ≤ M) (h : L + M ≤ 32) (hr : getN W L M = R) (ev : v = W) (el : low = L) (em : many = M) :
    Calls Try.prog 36 #[.int .u32 v, .int .i64 low, .int .i64 many] w fun e w' => e = .returned (.int .i64 (R : Int)) ∧ Mild w w' := by
  subst ev el em
  have HW := Kept.mk hW
  have HR := Kept.mk hr
  have rl : R < 4294967296 := by
    have a := getN_lt W L M
    have b : 2 ^ M ≤ 2 ^ 32 := Nat.pow_le_pow_right (by omega) (by omega)
    rw [hr] at a; omega
  clear hW hr
  go_enter Try.func36, Try.ntmps36
  go_wp2_with fail
  refine (get_is _ HW.out m0 h HR.out rfl rfl rfl).mono ?_; rintro z w1 ⟨rfl, hm⟩
  go_wp2_with fail
  go_ret
  exact ⟨rfl, hm⟩

/-- A head that has a word. -/
def headOk (a b c d : Int) : Prop := 0 ≤ a ∧ a ≤ 255 ∧ 0 ≤ b ∧ b ≤ 3 ∧ 0 ≤ c ∧ c ≤ 255 ∧ 0 ≤ d ∧ d ≤ 1023

theorem pack_ok (a b c d : Nat) (w : World) (ha : a ≤ 255) (hb : b ≤ 3) (hc : c ≤ 255) (hd : d ≤ 1023) :
    Calls Try.prog 22 #[.agg #[.int .i64 a, .int .i64 b, .int .i64 c, .int .i64 d]] w fun e w' => e = pairW ((a + 256 * b + 1024 * c + 262144 * d : Nat) : Int) 0 ∧ Mild w w' := by
  have e1 : putN 0 0 8 a = a := by rw [putN_add (by omega) (by omega) (by omega)]; omega
  have e2 : putN a 8 2 b = a + 256 * b := by rw [putN_add (by omega) (by omega) (by omega)]; omega
  have e3 : putN (a + 256 * b) 10 8 c = a + 256 * b + 1024 * c := by rw [putN_add (by omega) (by omega) (by omega)]; omega
  have e4 : putN (a + 256 * b + 1024 * c) 18 10 d = a + 256 * b + 1024 * c + 262144 * d := by rw [putN_add (by omega) (by omega) (by omega)]; omega
  obtain ⟨x2, h2⟩ : ∃ x, a + 256 * b = x := ⟨_, rfl⟩
  obtain ⟨x3, h3⟩ : ∃ x, x2 + 1024 * c = x := ⟨_, rfl⟩
  obtain ⟨x4, h4⟩ : ∃ x, x3 + 262144 * d = x := ⟨_, rfl⟩
  rw [h2] at e2 e3 e4 ⊢
  rw [h3] at e3 e4 ⊢
  rw [h4] at e4 ⊢
  have k1 := Kept.mk e1
  have k2 := Kept.mk e2
  have k3 := Kept.mk e3
  have k4 := Kept.mk e4
  have l2 : Kept (x2 < 4294967296) := ⟨by omega⟩
  have l3 : Kept (x3 < 4294967296) := ⟨by omega⟩
  clear e1 e2 e3 e4 h2 h3 h4
  go_enter Try.func22, Try.ntmps22
  go_wp2_with fail
  refine (put_in 0 0 8 a 256 a _ ⟨by omega⟩ (by omega) (by omega) ⟨by decide⟩ (by omega) (by omega) k1).mono ?_; rintro z w1 ⟨rfl, m1⟩
  have c1 : w1.cell? ⟨w.heap.size, 1, none⟩ = some (.int .i64 b) := by rw [m1.cell (by simp)]; simp
  go_wp2_with fail
  refine (put_in a 8 2 b 4 x2 _ ⟨by omega⟩ (by omega) (by omega) ⟨by decide⟩ (by omega) (by omega) k2).mono ?_; rintro z w2 ⟨rfl, m2⟩
  have m2 := m1.trans m2
  have c2 : w2.cell? ⟨w.heap.size, 2, none⟩ = some (.int .i64 c) := by rw [m2.cell (by simp)]; simp
  go_wp2_with fail
  refine (put_in x2 10 8 c 256 x3 _ l2 (by omega) (by omega) ⟨by decide⟩ (by omega) (by omega) k3).mono ?_; rintro z w3 ⟨rfl, m3⟩
  have m3 := m2.trans m3
  have c3 : w3.cell? ⟨w.heap.size, 3, none⟩ = some (.int .i64 d) := by rw [m3.cell (by simp)]; simp
  go_wp2_with fail
  refine (put_in x3 18 10 d 1024 x4 _ l3 (by omega) (by omega) ⟨by decide⟩ (by omega) (by omega) k4).mono ?_; rintro z w4 ⟨rfl, m4⟩
  have m4 := m3.trans m4
  go_wp2_with fail
  go_ret2
  exact ⟨rfl, ((Mild.refl _).alloc _ _).trans m4⟩

theorem headOk_nat {a b c d : Int} (h : headOk a b c d) : ∃ A B C D : Nat, a = A ∧ b = B ∧ c = C ∧ d = D ∧ A ≤ 255 ∧ B ≤ 3 ∧ C ≤ 255 ∧ D ≤ 1023 := by
  obtain ⟨h1, h2, h3, h4, h5, h6, h7, h8⟩ := h
  exact ⟨a.toNat, b.toNat, c.toNat, d.toNat, by omega, by omega, by omega, by omega, by omega, by omega, by omega, by omega⟩

theorem pack_bad (a b c d : Int) (w : World) (h : ¬ headOk a b c d) :
    Calls Try.prog 22 #[.agg #[.int .i64 a, .int .i64 b, .int .i64 c, .int .i64 d]] w fun e w' => e = pairW 0 1 ∧ Mild w w' := by
  by_cases ha : 0 ≤ a ∧ a ≤ 255
  · obtain ⟨A, rfl⟩ := Int.eq_ofNat_of_zero_le ha.1
    have hA : A ≤ 255 := by omega
    have e1 : putN 0 0 8 A = A := by rw [putN_add (by omega) (by omega) (by omega)]; omega
    have k1 := Kept.mk e1
    by_cases hb : 0 ≤ b ∧ b ≤ 3
    · obtain ⟨B, rfl⟩ := Int.eq_ofNat_of_zero_le hb.1
      have hB : B ≤ 3 := by omega
      have e2 : putN A 8 2 B = A + 256 * B := by rw [putN_add (by omega) (by omega) (by omega)]; omega
      obtain ⟨x2, h2⟩ : ∃ x, A + 256 * B = x := ⟨_, rfl⟩
      rw [h2] at e2
      have k2 := Kept.mk e2
      have l2 : Kept (x2 < 4294967296) := ⟨by omega⟩
      by_cases hc : 0 ≤ c ∧ c ≤ 255
      · obtain ⟨C, rfl⟩ := Int.eq_ofNat_of_zero_le hc.1
        have hC : C ≤ 255 := by omega
        have e3 : putN x2 10 8 C = x2 + 1024 * C := by rw [putN_add (by omega) (by omega) (by omega)]; omega
        obtain ⟨x3, h3⟩ : ∃ x, x2 + 1024 * C = x := ⟨_, rfl⟩
        rw [h3] at e3
        have k3 := Kept.mk e3
        have l3 : Kept (x3 < 4294967296) := ⟨by omega⟩
        have bad : Kept (d < 0 ∨ (1024 : Int) ≤ d) := ⟨by unfold headOk at h; omega⟩
        clear h e1 e2 e3 h2 h3 ha hb hc
        go_enter Try.func22, Try.ntmps22
        go_wp2_with fail
        refine (put_in 0 0 8 A 256 A _ ⟨by omega⟩ (by omega) (by omega) ⟨by decide⟩ (by omega) (by omega) k1).mono ?_; rintro z w1 ⟨rfl, m1⟩
        have c1 : w1.cell? ⟨w.heap.size, 1, none⟩ = some (.int .i64 B) := by rw [m1.cell (by simp)]; simp
        go_wp2_with fail
        refine (put_in A 8 2 B 4 x2 _ ⟨by omega⟩ (by omega) (by omega) ⟨by decide⟩ (by omega) (by omega) k2).mono ?_; rintro z w2 ⟨rfl, m2⟩
        have m2 := m1.trans m2
        have c2 : w2.cell? ⟨w.heap.size, 2, none⟩ = some (.int .i64 C) := by rw [m2.cell (by simp)]; simp
        go_wp2_with fail
        refine (put_in x2 10 8 C 256 x3 _ l2 (by omega) (by omega) ⟨by decide⟩ (by omega) (by omega) k3).mono ?_; rintro z w3 ⟨rfl, m3⟩
        have m3 := m2.trans m3
        have c3 : w3.cell? ⟨w.heap.size, 3, none⟩ = some (.int .i64 d) := by rw [m3.cell (by simp)]; simp
        go_wp2_with fail
        refine (put_out d 18 x3 10 1024 _ (by omega) (by decide) bad.out).mono ?_; rintro z w' ⟨rfl, rfl⟩
        go_wp2_with fail
        go_ret2
        exact ⟨rfl, ((Mild.refl _).alloc _ _).trans m3⟩
      · have bad : Kept (c < 0 ∨ (256 : Int) ≤ c) := ⟨by omega⟩
        clear h e1 e2 h2 ha hb hc
        go_enter Try.func22, Try.ntmps22
        go_wp2_with fail
        refine (put_in 0 0 8 A 256 A _ ⟨by omega⟩ (by omega) (by omega) ⟨by decide⟩ (by omega) (by omega) k1).mono ?_; rintro z w1 ⟨rfl, m1⟩
        have c1 : w1.cell? ⟨w.heap.size, 1, none⟩ = some (.int .i64 B) := by rw [m1.cell (by simp)]; simp
        go_wp2_with fail
        refine (put_in A 8 2 B 4 x2 _ ⟨by omega⟩ (by omega) (by omega) ⟨by decide⟩ (by omega) (by omega) k2).mono ?_; rintro z w2 ⟨rfl, m2⟩
        have m2 := m1.trans m2
        have c2 : w2.cell? ⟨w.heap.size, 2, none⟩ = some (.int .i64 c) := by rw [m2.cell (by simp)]; simp
        go_wp2_with fail
        refine (put_out c 10 x2 8 256 _ (by omega) (by decide) bad.out).mono ?_; rintro z w' ⟨rfl, rfl⟩
        go_wp2_with fail
        go_ret2
        exact ⟨rfl, ((Mild.refl _).alloc _ _).trans m2⟩
    · have bad : Kept (b < 0 ∨ (4 : Int) ≤ b) := ⟨by omega⟩
      clear h e1 ha hb
      go_enter Try.func22, Try.ntmps22
      go_wp2_with fail
      refine (put_in 0 0 8 A 256 A _ ⟨by omega⟩ (by omega) (by omega) ⟨by decide⟩ (by omega) (by omega) k1).mono ?_; rintro z w1 ⟨rfl, m1⟩
      have c1 : w1.cell? ⟨w.heap.size, 1, none⟩ = some (.int .i64 b) := by rw [m1.cell (by simp)]; simp
      go_wp2_with fail
      refine (put_out b 8 A 2 4 _ (by omega) (by decide) bad.out).mono ?_; rintro z w' ⟨rfl, rfl⟩
      go_wp2_with fail
      go_ret2
      exact ⟨rfl, ((Mild.refl _).alloc _ _).trans m1⟩
  · have bad : Kept (a < 0 ∨ (256 : Int) ≤ a) := ⟨by omega⟩
    clear h ha
    go_enter Try.func22, Try.ntmps22
    go_wp2_with fail
    refine (put_out a 0 0 8 256 _ (by omega) (by decide) bad.out).mono ?_; rintro z w' ⟨rfl, rfl⟩
    go_wp2_with fail
    go_ret2
    exact ⟨rfl, (Mild.refl _).alloc _ _⟩

abbrev headE (a b c d e : Int) : Ending := .returned (.tuple #[.agg #[.int .i64 a, .int .i64 b, .int .i64 c, .int .i64 d], .int .i64 e])

theorem unpack_bad (W : Nat) (w : World) (hW : W < 4294967296) (h : 268435456 ≤ W) :
    Calls Try.prog 26 #[.int .u32 (W : Int)] w fun e w' => e = headE 0 0 0 0 2 ∧ Mild w w' := by
  obtain ⟨R, eR⟩ : ∃ R, getN W 28 4 = R := ⟨_, rfl⟩
  have hR : R ≠ 0 := by rw [← eR]; unfold getN; omega
  have hz : ((R : Int) != 0) = true := by simp; exact hR
  have K := Kept.mk eR
  have HW := Kept.mk hW
  clear eR hR h hW
  go_enter Try.func26, Try.ntmps26
  go_wp2_with fail
  refine (part_is (L := 28) (M := 4) _ HW.out (by omega) (by omega) K.out rfl rfl rfl).mono ?_; rintro z w1 ⟨rfl, m1⟩
  have hf : ∀ o, w1.frozen? ⟨w.heap.size, o, none⟩ = false := fun o => by rw [m1.free]; simp
  have c0 : w1.cell? ⟨w.heap.size, 0, none⟩ = some (.int .i64 0) := by rw [m1.cell (by simp)]; simp
  have c1 : w1.cell? ⟨w.heap.size, 1, none⟩ = some (.int .i64 0) := by rw [m1.cell (by simp)]; simp
  have c2 : w1.cell? ⟨w.heap.size, 2, none⟩ = some (.int .i64 0) := by rw [m1.cell (by simp)]; simp
  have c3 : w1.cell? ⟨w.heap.size, 3, none⟩ = some (.int .i64 0) := by rw [m1.cell (by simp)]; simp
  go_wp2_with fail
  refine bodyPost_ret (v := .tuple #[.agg #[.int .i64 0, .int .i64 0, .int .i64 0, .int .i64 0], .int .i64 2]) (by simp [results, Try.results26, go_sem, c0, c1, c2, c3]) rfl ⟨rfl, ?_⟩
  exact (((((((Mild.refl _).alloc _ _).trans m1).setCell (by simp) _).setCell (by simp) _).setCell (by simp) _).setCell (by simp) _)

theorem unpack_ok (W a b c d : Nat) (w : World) (hW : W < 268435456) (ha : W % 256 = a) (hb : W / 256 % 4 = b) (hc : W / 1024 % 256 = c) (hd : W / 262144 = d) :
    Calls Try.prog 26 #[.int .u32 (W : Int)] w fun e w' => e = headE a b c d 0 ∧ Mild w w' := by
  have e0 : getN W 28 4 = 0 := by unfold getN; omega
  have e1 : getN W 0 8 = a := by unfold getN; omega
  have e2 : getN W 8 2 = b := by unfold getN; omega
  have e3 : getN W 10 8 = c := by unfold getN; omega
  have e4 : getN W 18 10 = d := by unfold getN; omega
  have k0 := Kept.mk e0
  have k1 := Kept.mk e1
  have k2 := Kept.mk e2
  have k3 := Kept.mk e3
  have k4 := Kept.mk e4
  have HW := Kept.mk (show W < 4294967296 by omega)
  clear e0 e1 e2 e3 e4 ha hb hc hd hW
  go_enter Try.func26, Try.ntmps26
  go_wp2_with fail
  refine (part_is (L := 28) (M := 4) _ HW.out (by omega) (by omega) k0.out rfl rfl rfl).mono ?_; rintro z w1 ⟨rfl, m1⟩
  go_wp2_with fail
  refine (part_is (L := 0) (M := 8) _ HW.out (by omega) (by omega) k1.out rfl rfl rfl).mono ?_; rintro z w2 ⟨rfl, m2⟩
  go_wp2_with fail
  refine (part_is (L := 8) (M := 2) _ HW.out (by omega) (by omega) k2.out rfl rfl rfl).mono ?_; rintro z w3 ⟨rfl, m3⟩
  go_wp2_with fail
  refine (part_is (L := 10) (M := 8) _ HW.out (by omega) (by omega) k3.out rfl rfl rfl).mono ?_; rintro z w4 ⟨rfl, m4⟩
  go_wp2_with fail
  refine (part_is (L := 18) (M := 10) _ HW.out (by omega) (by omega) k4.out rfl rfl rfl).mono ?_; rintro z w5 ⟨rfl, m5⟩
  have m6 := (((m1.trans m2).trans m3).trans m4).trans m5
  have hf : ∀ o, w5.frozen? ⟨w.heap.size, o, none⟩ = false := fun o => by rw [m6.free]; simp
  have c0 : w5.cell? ⟨w.heap.size, 0, none⟩ = some (.int .i64 0) := by rw [m6.cell (by simp)]; simp
  have c1 : w5.cell? ⟨w.heap.size, 1, none⟩ = some (.int .i64 0) := by rw [m6.cell (by simp)]; simp
  have c2 : w5.cell? ⟨w.heap.size, 2, none⟩ = some (.int .i64 0) := by rw [m6.cell (by simp)]; simp
  have c3 : w5.cell? ⟨w.heap.size, 3, none⟩ = some (.int .i64 0) := by rw [m6.cell (by simp)]; simp
  go_wp2_with fail
  refine bodyPost_ret (v := .tuple #[.agg #[.int .i64 a, .int .i64 b, .int .i64 c, .int .i64 d], .int .i64 0]) (by simp [results, Try.results26, go_sem, c0, c1, c2, c3]) rfl ⟨rfl, ?_⟩
  exact (((((((Mild.refl _).alloc _ _).trans m6).setCell (by simp) _).setCell (by simp) _).setCell (by simp) _).setCell (by simp) _)

end Go.Proofs.Ytojfhebejfibkaa
