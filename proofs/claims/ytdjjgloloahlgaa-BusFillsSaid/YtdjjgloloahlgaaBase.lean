/- What a call may leave behind it: new blocks, draws, and nothing else: old blocks read as before, and nothing is frozen or let go. No condition. -/
import Derived.WalkKit
import Derived.ProofKit
import Derived.Below
import Derived.Lib.Hide
import Derived.Deep.Draws
import Derived.Deep.QuietTactic
import Derived.Test.YtdjjgloloahlgaaProg
namespace Go.Proofs.Ytdjjgloloahlgaa
open Go.RowKit

/-- A fact kept from the walk; unlike 'Hid' no unfolding opens it. -/
structure Kept (p : Prop) : Prop where
  out : p

structure Mild (w w' : World) : Prop where
  below : Below w.heap.size w w'
  free : ∀ a, w'.frozen? a = w.frozen? a

theorem Mild.refl (w : World) : Mild w w := ⟨Below.refl _ _, fun _ => rfl⟩

theorem Mild.trans {a b c : World} (h : Mild a b) (k : Mild b c) : Mild a c :=
  ⟨h.below.trans (k.below.mono h.below.size), fun x => (k.free x).trans (h.free x)⟩

theorem Mild.drew {a w : World} (h : Mild a w) : Mild a w.drew := ⟨h.below.drew, h.free⟩

theorem Mild.drewN {a w : World} (h : Mild a w) (n : Nat) : Mild a (w.drewN n) := ⟨⟨h.below.os, h.below.tape, h.below.output, h.below.size, h.below.block⟩, h.free⟩

theorem Mild.of_drew {w w' : World} (h : ∃ n, w' = w.drewN n) : Mild w w' := by obtain ⟨n, rfl⟩ := h; exact (Mild.refl _).drewN n

theorem Mild.alloc {a w : World} (h : Mild a w) (c : Array Value) (t : TypeId) : Mild a (w.alloc (.cells c t)) :=
  ⟨h.below.alloc h.below.size _, fun x => (frozen?_alloc_cells _ _ _ x).trans (h.free x)⟩

theorem Mild.setCell {a w : World} (h : Mild a w) {p : Addr} (hp : a.heap.size ≤ p.block) (v : Value) : Mild a (w.setCell p v) :=
  ⟨h.below.setCell hp v, fun x => (World.frozen?_setCell _ _ _ _).trans (h.free x)⟩

theorem Mild.grown {w w' : World} (h : Mild w w') : Grown w w' := ⟨h.below.frame _, h.free, h.below.size⟩

theorem Mild.cell {w w' : World} (h : Mild w w') {p : Addr} (hp : p.block < w.heap.size) : w'.cell? p = w.cell? p := h.below.cell hp

theorem quiet_add {P : Program} {f : FuncId} {args : Array Value} {w : World} {a n : Nat} {v : Value}
    (h : Calls P f args (w.drewN (a + n)) fun e w' => e = .returned v ∧ ∃ m, w' = (w.drewN (a + n)).drewN m) :
    Calls P f args (w.drewN (a + n)) fun e w'' => e = .returned v ∧ ∃ m, w'' = w.drewN (a + m) :=
  h.mono fun _ _ ⟨he, m, hm⟩ => ⟨he, n + m, by rw [hm, World.drewN_drewN, Nat.add_assoc]⟩

theorem quiet_add_same {P : Program} {f : FuncId} {args : Array Value} {w : World} {a n : Nat} {v : Value}
    (h : Calls P f args (w.drewN (a + n)) fun e w' => e = .returned v ∧ w' = w.drewN (a + n)) :
    Calls P f args (w.drewN (a + n)) fun e w'' => e = .returned v ∧ ∃ m, w'' = w.drewN (a + m) :=
  h.mono fun _ _ ⟨he, hm⟩ => ⟨he, n, hm⟩

end Go.Proofs.Ytdjjgloloahlgaa
