/- The contracts of chapter 13 by what they relate: one for each function, whatever comes of it. For every input. -/
import Derived.Test.YtojfhebejfibkaaSame
namespace Go.Proofs.Ytojfhebejfibkaa
open Go.RowKit

def PackR (a b c d v e : Int) : Prop := (headOk a b c d ∧ v = a + 256 * b + 1024 * c + 262144 * d ∧ e = 0) ∨ (¬ headOk a b c d ∧ v = 0 ∧ e = 1)

theorem pack_rel {a b c d v e : Int} (w : World) (h : PackR a b c d v e) :
    Calls Try.prog 22 #[.agg #[.int .i64 a, .int .i64 b, .int .i64 c, .int .i64 d]] w fun z w' => z = pairW v e ∧ Mild w w' := by
  rcases h with ⟨h, rfl, rfl⟩ | ⟨h, rfl, rfl⟩
  · obtain ⟨A, B, C, D, rfl, rfl, rfl, rfl, ha, hb, hc, hd⟩ := headOk_nat h
    have := pack_ok A B C D w ha hb hc hd
    rw [show ((A + 256 * B + 1024 * C + 262144 * D : Nat) : Int) = (A : Int) + 256 * B + 1024 * C + 262144 * D by omega] at this
    exact this
  · exact pack_bad a b c d w h
theorem ref_pack_rel {a b c d v e : Int} (w : World) (h : PackR a b c d v e) :
    Calls Try.prog 27 #[.agg #[.int .i64 a, .int .i64 b, .int .i64 c, .int .i64 d]] w fun z w' => z = pairW v e ∧ Mild w w' := by
  rcases h with ⟨h, rfl, rfl⟩ | ⟨h, rfl, rfl⟩
  · obtain ⟨A, B, C, D, rfl, rfl, rfl, rfl, ha, hb, hc, hd⟩ := headOk_nat h
    have := ref_pack_ok A B C D _ w ha hb hc hd rfl
    rw [show ((A + 256 * B + 1024 * C + 262144 * D : Nat) : Int) = (A : Int) + 256 * B + 1024 * C + 262144 * D by omega] at this
    exact this
  · exact ref_pack_bad a b c d w h

def UnpR (W : Nat) (p q r s e : Int) : Prop :=
  (W < 268435456 ∧ p = (W : Int) % 256 ∧ q = (W : Int) / 256 % 4 ∧ r = (W : Int) / 1024 % 256 ∧ s = (W : Int) / 262144 ∧ e = 0) ∨ (268435456 ≤ W ∧ p = 0 ∧ q = 0 ∧ r = 0 ∧ s = 0 ∧ e = 2)

theorem unpack_rel {W : Nat} {p q r s e : Int} (w : World) (hW : W < 4294967296) (h : UnpR W p q r s e) :
    Calls Try.prog 26 #[.int .u32 (W : Int)] w fun z w' => z = headE p q r s e ∧ Mild w w' := by
  rcases h with ⟨h, rfl, rfl, rfl, rfl, rfl⟩ | ⟨h, rfl, rfl, rfl, rfl, rfl⟩
  · have := unpack_ok W _ _ _ _ w h rfl rfl rfl rfl
    exact this
  · exact unpack_bad W w hW h
theorem ref_unpack_rel {W : Nat} {p q r s e : Int} (w : World) (hW : W < 4294967296) (h : UnpR W p q r s e) :
    Calls Try.prog 28 #[.int .u32 (W : Int)] w fun z w' => z = headE p q r s e ∧ Mild w w' := by
  rcases h with ⟨h, rfl, rfl, rfl, rfl, rfl⟩ | ⟨h, rfl, rfl, rfl, rfl, rfl⟩
  · exact ref_unpack_ok (W : Int) _ _ _ _ w (by omega) (by omega) rfl rfl rfl rfl
  · exact ref_unpack_bad (W : Int) w (by omega) (by omega)

def StatR (w : World) (ao : Option Addr) (m : Nat) (S e : Int) : Prop :=
  (m < 2 ∧ S = 0 ∧ e = 2) ∨ (2 ≤ m ∧ e = 0 ∧ ∃ b off X, ao = some ⟨b, off, none⟩ ∧ b < w.heap.size ∧ w.cell? ⟨b, off + 1, none⟩ = some (.int .u32 X) ∧ wrap32 X = S)

theorem StatR.below {w w' : World} {ao : Option Addr} {m : Nat} {S e : Int} (h : StatR w ao m S e) (b : Below w.heap.size w w') : StatR w' ao m S e := by
  rcases h with h | ⟨h1, h2, bb, off, X, h3, h4, h5, h6⟩
  · exact Or.inl h
  · exact Or.inr ⟨h1, h2, bb, off, X, h3, Nat.lt_of_lt_of_le h4 b.size, (b.cell (p := ⟨bb, off + 1, none⟩) h4).trans h5, h6⟩

theorem status_rel {ao : Option Addr} {m c : Nat} {S e : Int} (w : World) (h : StatR w ao m S e) :
    Calls Try.prog 25 #[.slice ao m c] w fun z w' => z = pairS S e ∧ w' = w := by
  rcases h with ⟨h, rfl, rfl⟩ | ⟨h1, rfl, b, off, X, rfl, _, h5, h6⟩
  · exact status_short ao m c w h
  · exact status_long b off m c X S w h1 h5 h6
theorem ref_status_rel {ao : Option Addr} {m c : Nat} {S e : Int} (w : World) (h : StatR w ao m S e) :
    Calls Try.prog 30 #[.slice ao m c] w fun z w' => z = pairS S e ∧ w' = w := by
  rcases h with ⟨h, rfl, rfl⟩ | ⟨h1, rfl, b, off, X, rfl, _, h5, h6⟩
  · exact ref_status_short ao m c w h
  · exact ref_status_long b off m c X S w h1 h5 h6

theorem Four.below {w w' : World} {b : Nat} {x0 x1 x2 x3 : Value} (h : Four w b x0 x1 x2 x3) (hb : b < w.heap.size) (m : Below w.heap.size w w') : Four w' b x0 x1 x2 x3 :=
  ⟨(m.cell (p := ⟨b, 0, none⟩) hb).trans h.c0, (m.cell (p := ⟨b, 1, none⟩) hb).trans h.c1, (m.cell (p := ⟨b, 2, none⟩) hb).trans h.c2, (m.cell (p := ⟨b, 3, none⟩) hb).trans h.c3, fun o => (m.frozen (p := ⟨b, o, none⟩) hb).trans (h.free o)⟩

/-- What lies in the cells of a list that the call owns. -/
structure Lies (w : World) (g n : Nat) (vs : List Int) : Prop where
  lt : n ≠ 0 → g < w.heap.size
  cell : ∀ k, k < n → w.cell? ⟨g, k, none⟩ = some (.int .u32 (vs.getD k 0))

theorem Lies.below {w w' : World} {g n : Nat} {vs : List Int} (h : Lies w g n vs) (b : Below w.heap.size w w') : Lies w' g n vs :=
  ⟨fun e => Nat.lt_of_lt_of_le (h.lt e) b.size, fun k hk => (b.cell (p := ⟨g, k, none⟩) (h.lt (by omega))).trans (h.cell k hk)⟩

theorem lies_of {w : World} {B g n cap : Nat} {vs : List Int} (h : w.ownsRow B 22 1 (.slice (some ⟨g, 0, none⟩) n cap) n (vs.map (Value.int .u32))) : Lies w g n vs := by
  have hl : vs.length = n := by have := h.1; simp at this; omega
  refine ⟨fun _ => (h.lt g rfl).2, fun k hk => ?_⟩
  rw [h.cellAt k (by omega)]
  simp [List.getD, List.getElem?_eq_getElem (show k < vs.length by omega)]

theorem below_of_drew {w w' : World} (h : ∃ k, w' = w.drewN k) : Below w.heap.size w w' := (Mild.of_drew h).below

end Go.Proofs.Ytojfhebejfibkaa
