/- What bus.Address, Split and part compute. For every input. -/
import Derived.Test.YtdjjgloloahlgaaBitWalk
namespace Go.Proofs.Ytdjjgloloahlgaa
open Go.RowKit

theorem addr_eq {D R : Nat} (hD : D < 256) (hR : R < 16384) : putN (putN 0 16 8 D) 2 14 R = 65536 * D + 4 * R := by
  have l1 := putN_lt (w := 0) (l := 16) (m := 8) (v := D) (by omega) (by omega) (by omega)
  apply Nat.eq_of_testBit_eq; intro i
  rw [putN_bit (by omega) l1 (by omega), putN_bit (by omega) (by omega) (by omega), show 65536 * D + 4 * R = 2 ^ 16 * D + 4 * R by omega, Nat.testBit_two_pow_mul_add _ (by omega), show 4 * R = 2 ^ 2 * R + 0 by omega, Nat.testBit_two_pow_mul_add _ (by omega)]
  by_cases a : i < 2
  · rw [if_neg (by omega), if_neg (by omega), if_pos (by omega), if_pos a]
  · by_cases b : i < 16
    · rw [if_pos (by omega), if_pos b, if_neg a]
    · rw [if_neg (by omega), if_neg b]
      by_cases c : i < 24
      · rw [if_pos (by omega)]
      · rw [if_neg (by omega), Nat.zero_testBit, bit_above (m := 8) (by omega) (by omega)]

/-- What an address is, or what is wrong. -/
def AddrR (dev reg v e : Int) : Prop :=
  ((dev < 0 ∨ 256 ≤ dev ∨ reg < 0 ∨ 16384 ≤ reg) ∧ v = 0 ∧ e = 1) ∨ (0 ≤ dev ∧ dev < 256 ∧ 0 ≤ reg ∧ reg < 16384 ∧ v = 65536 * dev + 4 * reg ∧ e = 0)

set_option maxRecDepth 100000 in
theorem address_ok (D R : Nat) (w : World) (hD : D < 256) (hR : R < 16384) :
    Calls Try.prog 7 #[.int .i64 (D : Int), .int .i64 (R : Int)] w fun e w' => e = pairW ((65536 * D + 4 * R : Nat) : Int) 0 ∧ Mild w w' := by
  obtain ⟨x, ex⟩ : ∃ x, putN 0 16 8 D = x := ⟨_, rfl⟩
  have k2 := Kept.mk (addr_eq hD hR)
  have l1 := Kept.mk (putN_lt (w := 0) (l := 16) (m := 8) (v := D) (by omega) (by omega) (by omega))
  rw [ex] at k2 l1
  obtain ⟨y, ey⟩ : ∃ y, 65536 * D + 4 * R = y := ⟨_, rfl⟩
  rw [ey] at k2 ⊢
  have k1 := Kept.mk ex
  have h8 := Kept.mk (show D < 2 ^ 8 by omega)
  have h14 := Kept.mk (show R < 2 ^ 14 by omega)
  clear ex ey
  go_enter Try.func7, Try.ntmps7
  go_wp2_with fail
  refine (put_is (W := 0) (L := 16) (M := 8) _ (by omega) (by omega) (by omega) h8.out k1.out rfl rfl rfl rfl).mono ?_; rintro z w1 ⟨rfl, m1⟩
  go_wp2_with fail
  refine (put_is (L := 2) (M := 14) _ l1.out (by omega) (by omega) h14.out k2.out rfl rfl rfl rfl).mono ?_; rintro z w2 ⟨rfl, m2⟩
  go_wp2_with fail
  go_ret2
  exact ⟨rfl, m1.trans m2⟩

theorem address_bad (dev reg : Int) (w : World) (h : dev < 0 ∨ 256 ≤ dev ∨ reg < 0 ∨ 16384 ≤ reg) :
    Calls Try.prog 7 #[.int .i64 dev, .int .i64 reg] w fun e w' => e = pairW 0 1 ∧ w' = w := by
  by_cases h1 : dev < 0 <;> by_cases h2 : 256 ≤ dev <;> by_cases h3 : reg < 0 <;> by_cases h4 : 16384 ≤ reg <;> first | (exfalso; omega) | skip
  all_goals
    clear h
    go_enter Try.func7, Try.ntmps7
    go_wp2_with fail
    go_ret2
    exact ⟨rfl, rfl⟩

theorem address_is {dev reg v e : Int} (w : World) (h : AddrR dev reg v e) :
    Calls Try.prog 7 #[.int .i64 dev, .int .i64 reg] w fun z w' => z = pairW v e ∧ Mild w w' := by
  rcases h with ⟨b, rfl, rfl⟩ | ⟨h1, h2, h3, h4, rfl, rfl⟩
  · exact (address_bad dev reg w b).mono fun _ _ ⟨a, b⟩ => ⟨a, b ▸ Mild.refl _⟩
  · obtain ⟨D, rfl⟩ := Int.eq_ofNat_of_zero_le h1
    obtain ⟨R, rfl⟩ := Int.eq_ofNat_of_zero_le h3
    have := address_ok D R w (by omega) (by omega)
    rw [show ((65536 * D + 4 * R : Nat) : Int) = 65536 * (D : Int) + 4 * (R : Int) by omega] at this
    exact this

theorem addr_exists (dev reg : Int) : ∃ v e, AddrR dev reg v e := by
  by_cases b : dev < 0 ∨ 256 ≤ dev ∨ reg < 0 ∨ 16384 ≤ reg
  · exact ⟨0, 1, Or.inl ⟨b, rfl, rfl⟩⟩
  · exact ⟨_, _, Or.inr ⟨by omega, by omega, by omega, by omega, rfl, rfl⟩⟩

theorem part_is {v low many : Int} {W L M R : Nat} (w : World) (hW : W < 4294967296) (m0 : 1 ≤ M) (h : L + M ≤ 32) (hr : getN W L M = R) (ev : v = W) (el : low = L) (em : many = M) :
    Calls Try.prog 16 #[.int .u32 v, .int .i64 low, .int .i64 many] w fun e w' => e = .returned (.int .i64 (R : Int)) ∧ Mild w w' := by
  subst ev el em
  have HW := Kept.mk hW
  have HR := Kept.mk hr
  have rl : R < 4294967296 := by
    have a := getN_lt W L M
    have b : 2 ^ M ≤ 2 ^ 32 := Nat.pow_le_pow_right (by omega) (by omega)
    rw [hr] at a; omega
  clear hW hr
  go_enter Try.func16, Try.ntmps16
  go_wp2_with fail
  refine (get_is _ HW.out m0 h HR.out rfl rfl rfl).mono ?_; rintro z w1 ⟨rfl, hm⟩
  go_wp2_with fail
  go_ret
  exact ⟨rfl, hm⟩

abbrev pairI (a b : Int) : Ending := .returned (.tuple #[.int .i64 a, .int .i64 b])

/-- What an address says. -/
def SplitR (W : Nat) (p q : Int) : Prop :=
  ((W % 4 ≠ 0 ∨ 16777216 ≤ W) ∧ p = -1 ∧ q = -1) ∨ (W % 4 = 0 ∧ W < 16777216 ∧ p = (W / 65536 : Nat) ∧ q = (W % 65536 / 4 : Nat))

theorem split_is {v p q : Int} {W : Nat} (w : World) (hW : W < 4294967296) (ev : v = W) (h : SplitR W p q) :
    Calls Try.prog 8 #[.int .u32 v] w fun z w' => z = pairI p q ∧ Mild w w' := by
  subst ev
  obtain ⟨R1, e1⟩ : ∃ R, getN W 0 2 = R := ⟨_, rfl⟩
  obtain ⟨R2, e2⟩ : ∃ R, getN W 24 8 = R := ⟨_, rfl⟩
  have K1 := Kept.mk e1
  have K2 := Kept.mk e2
  have HW := Kept.mk hW
  rcases h with ⟨h, rfl, rfl⟩ | ⟨h1, h2, rfl, rfl⟩
  · by_cases c : R1 = 0
    · subst c
      have hz : ((R2 : Int) != 0) = true := by
        have : R2 ≠ 0 := by rw [← e2]; unfold getN at *; omega
        simp; exact this
      clear e1 e2 h hW
      go_enter Try.func8, Try.ntmps8
      go_wp2_with fail
      refine (part_is (L := 0) (M := 2) _ HW.out (by omega) (by omega) K1.out rfl rfl rfl).mono ?_; rintro z w1 ⟨rfl, m1⟩
      go_wp2_with fail
      refine (part_is (L := 24) (M := 8) _ HW.out (by omega) (by omega) K2.out rfl rfl rfl).mono ?_; rintro z w2 ⟨rfl, m2⟩
      go_wp2_with fail
      go_ret2
      exact ⟨rfl, m1.trans m2⟩
    · have hz : ((R1 : Int) != 0) = true := by simp; exact c
      clear e1 e2 h hW c
      go_enter Try.func8, Try.ntmps8
      go_wp2_with fail
      refine (part_is (L := 0) (M := 2) _ HW.out (by omega) (by omega) K1.out rfl rfl rfl).mono ?_; rintro z w1 ⟨rfl, m1⟩
      go_wp2_with fail
      go_ret2
      exact ⟨rfl, m1⟩
  · have z1 : R1 = 0 := by rw [← e1]; unfold getN; omega
    have z2 : R2 = 0 := by rw [← e2]; unfold getN; omega
    subst z1 z2
    have K3 := Kept.mk (show getN W 16 8 = W / 65536 by unfold getN; omega)
    have K4 := Kept.mk (show getN W 2 14 = W % 65536 / 4 by unfold getN; omega)
    obtain ⟨P, eP⟩ : ∃ P, W / 65536 = P := ⟨_, rfl⟩
    obtain ⟨Q, eQ⟩ : ∃ P, W % 65536 / 4 = P := ⟨_, rfl⟩
    rw [eP] at K3 ⊢
    rw [eQ] at K4 ⊢
    clear e1 e2 hW h1 h2 eP eQ
    go_enter Try.func8, Try.ntmps8
    go_wp2_with fail
    refine (part_is (L := 0) (M := 2) _ HW.out (by omega) (by omega) K1.out rfl rfl rfl).mono ?_; rintro z w1 ⟨rfl, m1⟩
    go_wp2_with fail
    refine (part_is (L := 24) (M := 8) _ HW.out (by omega) (by omega) K2.out rfl rfl rfl).mono ?_; rintro z w2 ⟨rfl, m2⟩
    go_wp2_with fail
    refine (part_is (L := 16) (M := 8) _ HW.out (by omega) (by omega) K3.out rfl rfl rfl).mono ?_; rintro z w3 ⟨rfl, m3⟩
    go_wp2_with fail
    refine (part_is (L := 2) (M := 14) _ HW.out (by omega) (by omega) K4.out rfl rfl rfl).mono ?_; rintro z w4 ⟨rfl, m4⟩
    go_wp2_with fail
    go_ret2
    exact ⟨rfl, ((m1.trans m2).trans m3).trans m4⟩

theorem split_exists (W : Nat) : ∃ p q, SplitR W p q := by
  by_cases h : W % 4 ≠ 0 ∨ 16777216 ≤ W
  · exact ⟨_, _, Or.inl ⟨h, rfl, rfl⟩⟩
  · exact ⟨_, _, Or.inr ⟨by omega, by omega, rfl, rfl⟩⟩

end Go.Proofs.Ytdjjgloloahlgaa
