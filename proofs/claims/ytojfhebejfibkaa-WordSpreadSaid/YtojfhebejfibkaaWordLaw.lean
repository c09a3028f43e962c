/- What the laws of chapter 13 lean on besides: the example at their head, heads held against one another, masks. For every input. -/
import Derived.Test.YtojfhebejfibkaaWord
import Derived.Laws.StructEq
import Derived.Laws.Bits128
namespace Go.Proofs.Ytojfhebejfibkaa
open Go.RowKit

theorem pack_is {a b c d : Int} (A B C D R : Nat) (w : World) (ea : a = A) (eb : b = B) (ec : c = C) (ed : d = D) (ha : A ≤ 255) (hb : B ≤ 3) (hc : C ≤ 255) (hd : D ≤ 1023) (hR : A + 256 * B + 1024 * C + 262144 * D = R) :
    Calls Try.prog 22 #[.agg #[.int .i64 a, .int .i64 b, .int .i64 c, .int .i64 d]] w fun e w' => e = pairW R 0 ∧ Mild w w' := by
  subst ea eb ec ed hR; exact pack_ok A B C D w ha hb hc hd

theorem unpack_is {v : Int} (W a b c d : Nat) (w : World) (ev : v = W) (hW : W < 268435456) (ha : W % 256 = a) (hb : W / 256 % 4 = b) (hc : W / 1024 % 256 = c) (hd : W / 262144 = d) :
    Calls Try.prog 26 #[.int .u32 v] w fun e w' => e = headE a b c d 0 ∧ Mild w w' := by
  subst ev; exact unpack_ok W a b c d w hW ha hb hc hd

theorem shownW_any (w : World) : Calls Try.prog 21 #[] w fun e w' => e = .returned (.bool true) ∧ Mild w w' := by
  go_enter Try.func21, Try.ntmps21
  go_wp2_with fail
  refine (pack_is 4 0 17 1 279556 _ rfl rfl rfl rfl (by omega) (by omega) (by omega) (by omega) (by omega)).mono ?_; rintro z w1 ⟨rfl, m1⟩
  go_wp2_with fail
  go_ret
  exact ⟨rfl, m1⟩

theorem mask28 {W : Nat} (hW : W < 4294967296) : bits .and .u32 (W : Int) 268435455 = ((W % 268435456 : Nat) : Int) := by
  have h := u32_and_nat W 268435455 hW (by omega)
  rw [show W &&& 268435455 = W % 268435456 from Nat.and_two_pow_sub_one_eq_mod W 28] at h
  exact h

theorem and_i64 (n : Int) (k : Nat) (hk : k ≤ 32) : bits .and .i64 n ((2 ^ k - 1 : Nat) : Int) = n % ((2 ^ k : Nat) : Int) := by
  have p0 := Nat.two_pow_pos k
  have p1 : 2 ^ k ≤ 2 ^ 32 := Nat.pow_le_pow_right (by omega) hk
  show IntKind.i64.wrap ((BitVec.ofInt 64 n &&& BitVec.ofInt 64 ((2 ^ k - 1 : Nat) : Int)).toNat : Int) = _
  rw [BitVec.toNat_and, BitVec.ofInt_natCast, BitVec.toNat_ofNat, Nat.mod_eq_of_lt (a := 2 ^ k - 1) (by omega), Nat.and_two_pow_sub_one_eq_mod, BitVec.toNat_ofInt]
  have hm := Nat.mod_lt (n % ((2 ^ 64 : Nat) : Int)).toNat p0
  rw [IntWalk.i64_in _ (by omega)]
  have e : ((n % ((2 ^ 64 : Nat) : Int)).toNat : Int) = n % ((2 ^ 64 : Nat) : Int) := Int.toNat_of_nonneg (Int.emod_nonneg _ (by omega))
  rw [Int.natCast_emod, e]
  exact Int.emod_emod_of_dvd n ⟨((2 ^ (64 - k) : Nat) : Int), by rw [← Int.natCast_mul, ← Nat.pow_add, show k + (64 - k) = 64 by omega]⟩

end Go.Proofs.Ytojfhebejfibkaa
