/- What the laws on buses in memory lean on besides: lists of the call's own as numbers, queues as rows of what is on its way. -/
import Derived.Test.YtdjjgloloahlgaaBusTake
namespace Go.Proofs.Ytdjjgloloahlgaa
open Go.RowKit

/-- Numbers that came in. -/
structure Came64 (w : World) (ao : Option Addr) (n : Nat) (z : Nat → Int) : Prop where
  lo : ∀ j, j < n → -9223372036854775808 ≤ z j ∧ z j ≤ 9223372036854775807
  some : n ≠ 0 → ∃ b off, ao = some ⟨b, off, none⟩ ∧ b < w.heap.size ∧ ∀ j, j < n → w.cell? ⟨b, off + j, none⟩ = some (.int .i64 (z j))

def numsV (n : Nat) (F : Nat → Int) : List Value := (List.range n).map fun j => .int .i64 (F j)

theorem numsV_succ (n : Nat) (F : Nat → Int) : numsV (n + 1) F = numsV n F ++ [.int .i64 (F n)] := by
  simp [numsV, List.range_succ]

theorem nums_of {w : World} {base n cap : Nat} {ao : Option Addr} {F : Nat → Int} (h : w.ownsRow base 3 1 (.slice ao n cap) n (numsV n F)) : Nums w ao n F := by
  refine ⟨fun hn => ?_⟩
  rcases h.2 with ⟨hv, h0⟩ | ⟨g, c, cur, hv, hb, hg, r⟩
  · exact absurd h0 hn
  · injection hv with h1 h2 h3
    subst h1 h3
    refine ⟨g, rfl, (Array.getElem?_eq_some_iff.1 hg).1, fun i hi => ?_⟩
    rw [h.cellAt i (by omega)]
    simp [numsV, hi]

theorem owns_form {w : World} {base n : Nat} {v : Value} {xs : List Value} (h : w.ownsRow base 3 1 v n xs) : ∃ ao cap, v = .slice ao n cap := by
  rcases h.2 with ⟨hv, h0⟩ | ⟨g, c, cur, hv, _⟩
  · exact ⟨none, 0, by rw [hv, h0]⟩
  · exact ⟨_, _, hv⟩

/-- What waits: m things, numbered from `first` on, each a write to register r. -/
def Txns : Int → Nat → Int → List Value → Prop
  | _, 0, _, xs => xs = []
  | first, m + 1, r, xs => ∃ v ys, xs = txn first true r v ++ ys ∧ Txns (first + 1) m r ys

theorem Txns.snoc {m : Nat} : ∀ {first r : Int} {xs : List Value} (v : Int), Txns first m r xs → Txns first (m + 1) r (xs ++ txn (first + m) true r v) := by
  induction m with
  | zero => intro first r xs v h; obtain rfl : xs = [] := h; exact ⟨v, [], by simp, rfl⟩
  | succ m ih =>
    intro first r xs v h
    obtain ⟨v0, ys, rfl, h⟩ := h
    refine ⟨v0, _, by rw [List.append_assoc], ?_⟩
    have := ih v h
    rw [show first + 1 + (m : Int) = first + ((m + 1 : Nat) : Int) by omega] at this
    exact this

theorem one_new (w : World) (x : Value) (t : TypeId) : ∀ j u, [x][j]? = some u → (w.alloc (.cells #[x] t)).cell? ((⟨w.heap.size, 0, none⟩ : Addr).add j) = some u := by
  intro j u hj
  match j, hj with
  | 0, hj => simp at hj; subst hj; simp [Addr.add]
  | k + 1, hj => simp at hj

theorem Queue.below {w w' : World} {base m : Nat} {v : Value} {xs : List Value} (h : Queue w base v m xs) (b : Below w.heap.size w w') : Queue w' base v m xs := by
  rcases h with h | ⟨qb, off, h1, h2, h3, h4, h5⟩
  · exact Or.inl (owns_below h b)
  · exact Or.inr ⟨qb, off, h1, h2, Nat.lt_of_lt_of_le h3 b.size, h4, fun j u hj => (b.cell (p := ⟨qb, off + j, none⟩) h3).trans (h5 j u hj)⟩

theorem Queue.form {w : World} {base m : Nat} {v : Value} {xs : List Value} (h : Queue w base v m xs) : ∃ a c, v = .slice a m c := by
  rcases h with h | ⟨qb, off, h1, _⟩
  · rcases h.2 with ⟨hv, h0⟩ | ⟨g, c, cur, hv, _⟩
    · exact ⟨none, 0, by rw [hv, h0]⟩
    · exact ⟨_, _, hv⟩
  · exact ⟨_, _, h1⟩

theorem Queue.open {w : World} {base m : Nat} {v : Value} {xs : List Value} (h : Queue w base v m xs) (hm : 0 < m) (h4 : m ≤ 4) :
    ∃ g off c, v = .slice (some ⟨g, off, none⟩) m c ∧ m ≤ c ∧ c ≤ maxLen ∧ g < w.heap.size ∧ base ≤ g ∧ xs.length = m * 4 ∧ ∀ j u, xs[j]? = some u → w.cell? ⟨g, off + j, none⟩ = some u := by
  rcases h with h | ⟨qb, off, h1, h2, h3, h4', h5⟩
  · obtain ⟨g, c, hv⟩ := Joins.ownsRow_form h hm
    subst hv
    rcases h.2 with ⟨hv, h0⟩ | ⟨g', c', cur, hv, hb, hg, hle, hmx, _⟩
    · omega
    · injection hv with e1 e2 e3
      injection e1 with e1
      injection e1 with e1
      subst e1 e3
      refine ⟨g, 0, c, rfl, hle, hmx, (Array.getElem?_eq_some_iff.1 hg).1, hb, h.1, fun j u hj => ?_⟩
      have := h.cells rfl j u hj
      rw [add_lit] at this
      exact this
  · subst h1
    exact ⟨qb, off, m, rfl, Nat.le_refl _, by unfold maxLen; omega, h3, h4', h2, h5⟩

theorem post_q {w : World} {B gr gw n base B0 : Nat} {rs : Nat → Int} {qs : Nat → Value} {k : Int} (h : BusAt w B gr gw n rs qs k) (b1 : B < base) (b2 : gr < base) (b3 : gw < base) (b4 : base ≤ w.heap.size) (b5 : B0 ≤ B) (b7 : B0 ≤ gw)
    (W D R : Nat) (b : Bool) (v r : Int) (hW : W < 4294967296) (hs : SplitR W (D : Int) (R : Int)) (hD : D < n) (hr : rs D = r) (hq : (R : Int) < r) (k0 : 0 ≤ k) (k1 : k ≤ 1000) {m : Nat} {xs : List Value} (h4 : m < 4) (hQ : Queue w base (qs D) m xs) :
    Calls Try.prog 13 #[.pointer (some ⟨B, 0, none⟩), .int .u32 (W : Int), .bool b, .int .u32 v] w (PostL w B gr gw n base B0 rs qs k D m (xs ++ txn k b R v)) := by
  obtain ⟨a, c, hv⟩ := hQ.form
  rcases hQ with ho | ⟨qb, off, h1, h2, h3, h4', h5⟩
  · rw [hv] at ho
    exact post_own h b1 b2 b3 b4 b5 b7 W D R b v r hW hs hD hr hq k0 k1 hv h4 ho
  · exact post_grows h b1 b2 b3 b4 b5 b7 W D R b v r hW hs hD hr hq k0 k1 h1 h4 h2 h3 h4' h5

def TakeL (w : World) (B gr gw n base B0 : Nat) (rs : Nat → Int) (qs : Nat → Value) (k : Int) (D m : Nat) (xs : List Value) (id r v : Int) (b : Bool) (e : Ending) (w' : World) : Prop :=
  e = txnE id b r v true ∧ ∃ v', Below B0 w w' ∧ w.heap.size ≤ w'.heap.size ∧ BusAt w' B gr gw n rs (fun j => if j = D then v' else qs j) k ∧ Queue w' base v' m xs

theorem take_q {w : World} {B gr gw n base B0 : Nat} {rs : Nat → Int} {qs : Nat → Value} {k : Int} (h : BusAt w B gr gw n rs qs k) (b3 : gw < base) (b5 : B0 ≤ w.heap.size) (b7 : B0 ≤ gw)
    (D : Nat) (hD : D < n) {m : Nat} {xs : List Value} (h4 : m < 4) (id r v : Int) (b : Bool) (hQ : Queue w base (qs D) (m + 1) (txn id b r v ++ xs)) :
    Calls Try.prog 14 #[.pointer (some ⟨B, 0, none⟩), .int .i64 (D : Int)] w (TakeL w B gr gw n base B0 rs qs k D m xs id r v b) := by
  obtain ⟨g, off, c, hv, hc, hc2, hg, hgb, hl, hx⟩ := hQ.open (by omega) (by omega)
  have x0 : w.cell? ⟨g, off, none⟩ = some (.int .i64 id) := hx 0 _ rfl
  have x1 : w.cell? ⟨g, off + 1, none⟩ = some (.bool b) := hx 1 _ rfl
  have x2 : w.cell? ⟨g, off + 2, none⟩ = some (.int .i64 r) := hx 2 _ rfl
  have x3 : w.cell? ⟨g, off + 3, none⟩ = some (.int .u32 v) := hx 3 _ rfl
  have hlx : xs.length = m * 4 := by simp [txn] at hl; omega
  have hys : ∀ j u, xs[j]? = some u → w.cell? ⟨g, off + 4 + j, none⟩ = some u := fun j u hj => by
    rw [show off + 4 + j = off + (j + 4) by omega]
    exact hx (j + 4) u (by simpa [txn] using hj)
  by_cases hm : m = 0
  · subst hm
    obtain rfl : xs = [] := List.eq_nil_of_length_eq_zero (by omega)
    refine (take_last (B0 := B0) h b3 b5 b7 D hD hv hc (by unfold maxLen at hc2; omega) hg hgb id r v b x0 x1 x2 x3).mono fun e w' ⟨he, t1, t2, t3, t4⟩ => ⟨he, _, t1, t3, t2, ?_⟩
    exact Or.inr ⟨g, off, rfl, rfl, by omega, hgb, fun j u hj => by simp at hj⟩
  · refine (take_more (B0 := B0) h b3 b5 b7 D hD hv hc hg hgb id r v b x0 x1 x2 x3 (by omega)).mono fun e w' ⟨he, t1, t2, t3, t4⟩ => ⟨he, _, t1, t3, t2, ?_⟩
    exact Or.inr ⟨g, off + 4, rfl, hlx, by omega, hgb, fun j u hj => (t4 ⟨g, off + 4 + j, none⟩ hg (by dsimp only; omega)).trans (hys j u hj)⟩

end Go.Proofs.Ytdjjgloloahlgaa
