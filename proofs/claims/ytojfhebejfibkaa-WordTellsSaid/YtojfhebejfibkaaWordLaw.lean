/- What the laws of chapter 13 lean on besides: the example at their head, heads held against one another, masks. For every input. -/
import Derived.Test.YtojfhebejfibkaaWord
import Derived.Laws.StructEq
import Derived.Laws.Bits128
namespace Go.Proofs.Ytojfhebejfibkaa
open Go.RowKit

theorem pack_is {a b c d : Int} (A B C D R : Nat) (w : World) (ea : a = A) (eb : b = B) (ec : c = C) (ed : d = D) (ha : A ≤ 255) (hb : B ≤ 3) (hc : C ≤ 255) (hd : D ≤ 1023) (hR : A + 256 * B + 1024 * C + 262144 * D = R) :
    Calls Try.prog 22 #[.agg #[.int .i64 a, .int .i64 b, .int .i64 c, .int .i64 d]] w fun e w' => e = pairW R 0 ∧ Mild w w' := by
  subst ea eb ec ed hR; exact pack_ok A B C D w ha hb hc hd

theorem unpack_is {v : Int} (W a b c d : Nat) (w : World) (ev : v = W) (hW : W < 268435456) (ha : W % 256 = a) (hb : W / 256 % 4 = b) (hc : W / 1024 % 256 = c) (hd : W / 262144 = d) :
    Calls Try.prog 26 #[.int .u32 v] w fun e w' => e = headE a b c d 0 ∧ Mild w w' := by
  subst ev; exact unpack_ok W a b c d w hW ha hb hc hd

theorem shownW_any (w : World) : Calls Try.prog 21 #[] w fun e w' => e = .returned (.bool true) ∧ Mild w w' := by
  go_enter Try.func21, Try.ntmps21
  go_wp2_with fail
  refine (pack_is 4 0 17 1 279556 _ rfl rfl rfl rfl (by omega) (by omega) (by omega) (by omega) (by omega)).mono ?_; rintro z w1 ⟨rfl, m1⟩
  go_wp2_with fail
  go_ret
  exact ⟨rfl, m1⟩

theorem mask28 {W : Nat} (hW : W < 4294967296) : bits .and .u32 (W : Int) 268435455 = ((W % 268435456 : Nat) : Int) := by
  have h := u32_and_nat W 268435455 hW (by omega)
  rw [show W &&& 268435455 = W % 268435456 from Nat.and_two_pow_sub_one_eq_mod W 28] at h
  exact h

theorem and_i64 (n : Int) (k : Nat) (hk : k ≤ 32) : bits .and .i64 n ((2 ^ k - 1 : Nat) : Int) = n % ((2 ^ k : Nat) : Int) := by
  have p0 := Nat.two_pow_pos k
  have p1 : 2 ^ k ≤ 2 ^ 32 := Nat.pow_le_pow_right (by omega) hk
  show IntKind.i64.wrap ((BitVec.ofInt 64 n &&& BitVec.ofInt 64 ((2 ^ k - 1 : Nat) : Int)).toNat : Int) = _
  rw [BitVec.toNat_and, BitVec.ofInt_natCast, BitVec.toNat_ofNat, Nat.mod_eq_of_lt (a := 2 ^ k - 1) (by omega), Nat.and_two_pow_sub_one_eq_mod, BitVec.toNat_ofInt]
  have hm := Nat.mod_lt (n % ((2 ^ 64 : Nat) : Int)).toNat p0
  rw [IntWalk.i64_in _ (by omega)]
  have e : ((n % ((2 ^ 64 : Nat) : Int)).toNat : Int) = n % ((2 ^ 64 : Nat) : Int) := Int.toNat_of_nonneg (Int.emod_nonneg _ (by omega))
  rw [Int.natCast_emod, e]
  exact Int.emod_emod_of_dvd n ⟨((2 ^ (64 - k) : Nat) : Int), by rw [← Int.natCast_mul, ← Nat.pow_add, show k + (64 - k) = 64 by omega]⟩

theorem command_bad (a b c d : Int) (l : Value) (w : World) (h : ¬ headOk a b c d) :
    Calls Try.prog 23 #[.agg #[.int .i64 a, .int .i64 b, .int .i64 c, .int .i64 d], l] w fun e w' => e = .returned (.tuple #[.slice none 0 0, .int .i64 1]) ∧ Mild w w' := by
  have H := Kept.mk h
  clear h
  go_enter Try.func23, Try.ntmps23
  go_wp2_with fail
  refine (pack_bad a b c d _ H.out).mono ?_; rintro z w1 ⟨rfl, m1⟩
  go_wp2_with fail
  go_ret2
  exact ⟨rfl, by first | exact m1 | exact ((Mild.refl _).alloc _ _).trans m1⟩

/-- Four cells of a block, not frozen. -/
structure Four (w : World) (b : Nat) (x0 x1 x2 x3 : Value) : Prop where
  c0 : w.cell? ⟨b, 0, none⟩ = some x0
  c1 : w.cell? ⟨b, 1, none⟩ = some x1
  c2 : w.cell? ⟨b, 2, none⟩ = some x2
  c3 : w.cell? ⟨b, 3, none⟩ = some x3
  free : ∀ o, w.frozen? ⟨b, o, none⟩ = false

theorem Four.new (w : World) (x0 x1 x2 x3 : Value) (t : TypeId) : Four (w.alloc (.cells #[x0, x1, x2, x3] t)) w.heap.size x0 x1 x2 x3 :=
  ⟨by simp, by simp, by simp, by simp, fun o => by simp⟩
theorem Four.old {w : World} {b : Nat} {x0 x1 x2 x3 : Value} (h : Four w b x0 x1 x2 x3) (hb : b < w.heap.size) (c : Array Value) (t : TypeId) : Four (w.alloc (.cells c t)) b x0 x1 x2 x3 :=
  ⟨by rw [World.cell?_alloc_lt _ _ _ hb]; exact h.c0, by rw [World.cell?_alloc_lt _ _ _ hb]; exact h.c1, by rw [World.cell?_alloc_lt _ _ _ hb]; exact h.c2, by rw [World.cell?_alloc_lt _ _ _ hb]; exact h.c3, fun o => (frozen?_alloc_cells _ _ _ _).trans (h.free o)⟩
theorem Four.mild {w w' : World} {b : Nat} {x0 x1 x2 x3 : Value} (h : Four w b x0 x1 x2 x3) (hb : b < w.heap.size) (m : Mild w w') : Four w' b x0 x1 x2 x3 :=
  ⟨(m.cell hb).trans h.c0, (m.cell hb).trans h.c1, (m.cell hb).trans h.c2, (m.cell hb).trans h.c3, fun o => (m.free _).trans (h.free o)⟩
theorem Four.other {w : World} {b c i : Nat} {x0 x1 x2 x3 y : Value} (h : Four w b x0 x1 x2 x3) (hb : c ≠ b) : Four (w.setCell ⟨c, i, none⟩ y) b x0 x1 x2 x3 := by
  have ne : ∀ j, (⟨c, i, none⟩ : Addr) ≠ ⟨b, j, none⟩ := fun j e => hb (by injection e)
  exact ⟨(World.cell?_setCell_other _ _ _ _ (ne 0)).trans h.c0, (World.cell?_setCell_other _ _ _ _ (ne 1)).trans h.c1, (World.cell?_setCell_other _ _ _ _ (ne 2)).trans h.c2, (World.cell?_setCell_other _ _ _ _ (ne 3)).trans h.c3, fun o => (World.frozen?_setCell _ _ _ _).trans (h.free o)⟩
theorem ne_off {b i j : Nat} (h : i ≠ j) : (⟨b, i, none⟩ : Addr) ≠ ⟨b, j, none⟩ := fun e => h (by injection e)
theorem Four.set0 {w : World} {b : Nat} {x0 x1 x2 x3 y : Value} (h : Four w b x0 x1 x2 x3) : Four (w.setCell ⟨b, 0, none⟩ y) b y x1 x2 x3 :=
  ⟨World.cell?_setCell_same _ _ _ h.c0, (World.cell?_setCell_other _ _ _ _ (ne_off (by omega))).trans h.c1, (World.cell?_setCell_other _ _ _ _ (ne_off (by omega))).trans h.c2, (World.cell?_setCell_other _ _ _ _ (ne_off (by omega))).trans h.c3, fun o => (World.frozen?_setCell _ _ _ _).trans (h.free o)⟩
theorem Four.set1 {w : World} {b : Nat} {x0 x1 x2 x3 y : Value} (h : Four w b x0 x1 x2 x3) : Four (w.setCell ⟨b, 1, none⟩ y) b x0 y x2 x3 :=
  ⟨(World.cell?_setCell_other _ _ _ _ (ne_off (by omega))).trans h.c0, World.cell?_setCell_same _ _ _ h.c1, (World.cell?_setCell_other _ _ _ _ (ne_off (by omega))).trans h.c2, (World.cell?_setCell_other _ _ _ _ (ne_off (by omega))).trans h.c3, fun o => (World.frozen?_setCell _ _ _ _).trans (h.free o)⟩
theorem Four.set2 {w : World} {b : Nat} {x0 x1 x2 x3 y : Value} (h : Four w b x0 x1 x2 x3) : Four (w.setCell ⟨b, 2, none⟩ y) b x0 x1 y x3 :=
  ⟨(World.cell?_setCell_other _ _ _ _ (ne_off (by omega))).trans h.c0, (World.cell?_setCell_other _ _ _ _ (ne_off (by omega))).trans h.c1, World.cell?_setCell_same _ _ _ h.c2, (World.cell?_setCell_other _ _ _ _ (ne_off (by omega))).trans h.c3, fun o => (World.frozen?_setCell _ _ _ _).trans (h.free o)⟩
theorem Four.set3 {w : World} {b : Nat} {x0 x1 x2 x3 y : Value} (h : Four w b x0 x1 x2 x3) : Four (w.setCell ⟨b, 3, none⟩ y) b x0 x1 x2 y :=
  ⟨(World.cell?_setCell_other _ _ _ _ (ne_off (by omega))).trans h.c0, (World.cell?_setCell_other _ _ _ _ (ne_off (by omega))).trans h.c1, (World.cell?_setCell_other _ _ _ _ (ne_off (by omega))).trans h.c2, World.cell?_setCell_same _ _ _ h.c3, fun o => (World.frozen?_setCell _ _ _ _).trans (h.free o)⟩

end Go.Proofs.Ytojfhebejfibkaa
