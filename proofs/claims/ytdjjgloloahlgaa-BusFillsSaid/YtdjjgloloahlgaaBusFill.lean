/- A bus of which one device alone is spoken to: what is posted, taken and waits, as numbers. For every such bus in memory. -/
import Derived.Test.YtdjjgloloahlgaaBusQueue
namespace Go.Proofs.Ytdjjgloloahlgaa
open Go.RowKit

/-- Where a bus's own blocks lie. -/
structure Lay (B gr gw base B0 : Nat) : Prop where
  b1 : B < base
  b2 : gr < base
  b3 : gw < base
  b5 : B0 ≤ B
  b7 : B0 ≤ gw

/-- m things wait for device D, numbered from f on; t were posted; nothing waits for others. -/
def Fill (w0 wr : World) (B gr gw n base B0 : Nat) (F : Nat → Int) (D : Nat) (R : Int) (m f t : Nat) : Prop :=
  ∃ qs xs, BusAt wr B gr gw n F qs (t : Int) ∧ (∀ j, j < n → j ≠ D → qs j = .slice none 0 0) ∧ Queue wr base (qs D) m xs ∧ Txns f m R xs ∧ Below B0 w0 wr ∧ base ≤ wr.heap.size

theorem Fill.below {w0 w w' : World} {B gr gw n base B0 : Nat} {F : Nat → Int} {D : Nat} {R : Int} {m f t : Nat} (h : Fill w0 w B gr gw n base B0 F D R m f t) (l : Lay B gr gw base B0) (b : Below w.heap.size w w') : Fill w0 w' B gr gw n base B0 F D R m f t := by
  obtain ⟨qs, xs, h1, h2, h3, h4, h5, h6⟩ := h
  have := l.b1; have := l.b5
  exact ⟨qs, xs, h1.below b, h2, h3.below b, h4, h5.trans (b.mono (by omega)), Nat.le_trans h6 b.size⟩

theorem Fill.drewN {w0 w : World} {B gr gw n base B0 : Nat} {F : Nat → Int} {D : Nat} {R : Int} {m f t : Nat} (h : Fill w0 w B gr gw n base B0 F D R m f t) (q : Nat) : Fill w0 (w.drewN q) B gr gw n base B0 F D R m f t := by
  obtain ⟨qs, xs, h1, h2, h3, h4, h5, h6⟩ := h
  exact ⟨qs, xs, h1.drewN q, h2, h3.below ⟨rfl, rfl, rfl, Nat.le_refl _, fun _ _ => rfl⟩, h4, h5.trans ⟨rfl, rfl, rfl, Nat.le_refl _, fun _ _ => rfl⟩, h6⟩

theorem fill_start {w : World} {B gr gw n base B0 : Nat} {F : Nat → Int} {D : Nat} {R : Int} (h : BusAt w B gr gw n F (fun _ => .slice none 0 0) 0) (hb : base ≤ w.heap.size) : Fill w w B gr gw n base B0 F D R 0 0 0 :=
  ⟨_, [], h, fun _ _ _ => rfl, Or.inl (World.ownsRow_nil _ _ _ _), rfl, Below.refl _ _, hb⟩

theorem fill_post {w0 w : World} {B gr gw n base B0 : Nat} {F : Nat → Int} {D R : Nat} {m f t : Nat} (h : Fill w0 w B gr gw n base B0 F D (R : Int) m f t) (l : Lay B gr gw base B0)
    (W : Nat) (v r : Int) (hW : W < 4294967296) (hs : SplitR W (D : Int) (R : Int)) (hD : D < n) (hr : F D = r) (hq : (R : Int) < r) (ht : t ≤ 1000) (hm : m < 4) (e : f + m = t) :
    Calls Try.prog 13 #[.pointer (some ⟨B, 0, none⟩), .int .u32 (W : Int), .bool true, .int .u32 v] w fun e w' => e = pairN (t : Int) 0 ∧ Fill w0 w' B gr gw n base B0 F D (R : Int) (m + 1) f (t + 1) := by
  obtain ⟨qs, xs, h1, h2, h3, h4, h5, h6⟩ := h
  refine (post_q (B0 := B0) h1 l.b1 l.b2 l.b3 h6 l.b5 l.b7 W D R true v r hW hs hD hr hq (by omega) (by omega) hm h3).mono fun e w' ⟨v', cap, g, hv, he, b, u, o⟩ => ⟨he, _, xs ++ txn (t : Int) true (R : Int) v, u, fun j hj hn => ?_, ?_, ?_, h5.trans b, Nat.le_of_lt (Nat.lt_of_le_of_lt (o.lt g (by rw [hv]; rfl)).1 (o.lt g (by rw [hv]; rfl)).2)⟩
  · rw [if_neg hn]; exact h2 j hj hn
  · rw [if_pos rfl]; exact Or.inl o
  · have := h4.snoc v
    rw [show (f : Int) + (m : Int) = (t : Int) by omega] at this
    exact this

theorem fill_full {w0 w : World} {B gr gw n base B0 : Nat} {F : Nat → Int} {D R : Nat} {m f t : Nat} (h : Fill w0 w B gr gw n base B0 F D (R : Int) m f t) (l : Lay B gr gw base B0)
    (W : Nat) (v r : Int) (hW : W < 4294967296) (hs : SplitR W (D : Int) (R : Int)) (hD : D < n) (hr : F D = r) (hq : (R : Int) < r) (hm : 4 ≤ m) :
    Calls Try.prog 13 #[.pointer (some ⟨B, 0, none⟩), .int .u32 (W : Int), .bool true, .int .u32 v] w fun e w' => e = pairN 0 8 ∧ Fill w0 w' B gr gw n base B0 F D (R : Int) m f t := by
  have h' := h
  obtain ⟨qs, xs, h1, h2, h3, h4, h5, h6⟩ := h
  obtain ⟨a, c, hv⟩ := h3.form
  exact (post_full h1 W D R true v r hW hs hD hr hq hv hm).mono fun e w' ⟨he, b⟩ => ⟨he, h'.below l b.below⟩

theorem fill_over {w0 w : World} {B gr gw n base B0 : Nat} {F : Nat → Int} {D R : Nat} {R' : Int} {m f t : Nat} (h : Fill w0 w B gr gw n base B0 F D R' m f t) (l : Lay B gr gw base B0)
    (W : Nat) (v r : Int) (hW : W < 4294967296) (hs : SplitR W (D : Int) (R : Int)) (hD : D < n) (hr : F D = r) (hq : r ≤ (R : Int)) :
    Calls Try.prog 13 #[.pointer (some ⟨B, 0, none⟩), .int .u32 (W : Int), .bool false, .int .u32 v] w fun e w' => e = pairN 0 4 ∧ Fill w0 w' B gr gw n base B0 F D R' m f t := by
  have h' := h
  obtain ⟨qs, xs, h1, h2, h3, h4, h5, h6⟩ := h
  exact (post_noreg h1 W D R false v r hW hs hD hr hq).mono fun e w' ⟨he, b⟩ => ⟨he, h'.below l b.below⟩

def TookL (w0 : World) (B gr gw n base B0 : Nat) (F : Nat → Int) (D : Nat) (R : Int) (m f t : Nat) (e : Ending) (w' : World) : Prop :=
  ∃ v, e = txnE (f : Int) true R v true ∧ Fill w0 w' B gr gw n base B0 F D R m (f + 1) t

theorem fill_take {w0 w : World} {B gr gw n base B0 : Nat} {F : Nat → Int} {D : Nat} {R : Int} {m f t : Nat} (h : Fill w0 w B gr gw n base B0 F D R (m + 1) f t) (l : Lay B gr gw base B0) (hD : D < n) (hm : m < 4) :
    Calls Try.prog 14 #[.pointer (some ⟨B, 0, none⟩), .int .i64 (D : Int)] w (TookL w0 B gr gw n base B0 F D R m f t) := by
  obtain ⟨qs, xs, h1, h2, h3, h4, h5, h6⟩ := h
  obtain ⟨v, ys, rfl, h4⟩ := h4
  have := l.b1; have := l.b5
  refine (take_q (B0 := B0) h1 l.b3 (by omega) l.b7 D hD hm (f : Int) R v true h3).mono fun e w' ⟨he, v', b, hs, u, q⟩ => ⟨v, he, _, ys, u, fun j hj hn => ?_, ?_, ?_, h5.trans b, by omega⟩
  · rw [if_neg hn]; exact h2 j hj hn
  · rw [if_pos rfl]; exact q
  · have h4' := h4
    rw [show (f : Int) + 1 = ((f + 1 : Nat) : Int) by omega] at h4'
    exact h4'

theorem fill_none {w0 w : World} {B gr gw n base B0 : Nat} {F : Nat → Int} {D : Nat} {R : Int} {m f t : Nat} (h : Fill w0 w B gr gw n base B0 F D R m f t) (l : Lay B gr gw base B0) (hD : D < n) (hm : m ≤ 0) :
    Calls Try.prog 14 #[.pointer (some ⟨B, 0, none⟩), .int .i64 (D : Int)] w fun e w' => e = txnE 0 false 0 0 false ∧ Fill w0 w' B gr gw n base B0 F D R m f t := by
  have h' := h
  obtain ⟨qs, xs, h1, h2, h3, h4, h5, h6⟩ := h
  obtain ⟨a, c, hv⟩ := h3.form
  exact (take_none h1 D hD hv hm).mono fun e w' ⟨he, b⟩ => ⟨he, h'.below l b.below⟩

theorem fill_waits {w0 w : World} {B gr gw n base B0 : Nat} {F : Nat → Int} {D : Nat} {R : Int} {m f t : Nat} (h : Fill w0 w B gr gw n base B0 F D R m f t) (hD : D < n) :
    Calls Try.prog 15 #[.pointer (some ⟨B, 0, none⟩), .int .i64 (D : Int)] w fun e w' => e = .returned (.int .i64 (m : Int)) ∧ w' = w := by
  obtain ⟨qs, xs, h1, h2, h3, h4, h5, h6⟩ := h
  obtain ⟨a, c, hv⟩ := h3.form
  exact waiting_is h1 D hD hv

theorem fill_other {w0 w : World} {B gr gw n base B0 : Nat} {F : Nat → Int} {D : Nat} {R : Int} {m f t : Nat} (h : Fill w0 w B gr gw n base B0 F D R m f t) (j : Nat) (hj : j < n) (hn : j ≠ D) :
    Calls Try.prog 15 #[.pointer (some ⟨B, 0, none⟩), .int .i64 (j : Int)] w fun e w' => e = .returned (.int .i64 0) ∧ w' = w := by
  obtain ⟨qs, xs, h1, h2, h3, h4, h5, h6⟩ := h
  exact waiting_is h1 j hj (h2 j hj hn)

end Go.Proofs.Ytdjjgloloahlgaa
