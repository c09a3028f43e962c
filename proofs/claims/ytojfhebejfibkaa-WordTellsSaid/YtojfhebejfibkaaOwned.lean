/- What the laws with lists lean on besides: a list that the call owns is a source of words. -/
import Derived.Test.YtojfhebejfibkaaRow
namespace Go.Proofs.Ytojfhebejfibkaa
open Go.RowKit

theorem src_owned {w : World} {B : Nat} {ao : Option Addr} {n cap : Nat} {xs : List Value} (h : w.ownsRow B 22 1 (.slice ao n cap) n xs) (ho : ∀ u ∈ xs, u.oneCell' = true) : Src w ao n cap xs := by
  have hlen : xs.length = n := by have := h.1; omega
  rcases h.2 with ⟨hv, hn⟩ | ⟨g, c, cur, hv, hb, hh, r⟩
  · injection hv with h1 h2 h3
    subst h1 h2 h3
    exact ⟨fun _ => ⟨rfl, rfl⟩, hlen, fun ad e => (by cases e), fun ad e => (by cases e), ho⟩
  · injection hv with h1 h2 h3
    subst h1 h3
    refine ⟨fun e => (by cases e), hlen, fun ad e _ => ?_, fun ad e j u hj => ?_, ho⟩
    · injection e with e; subst e
      exact (h.lt g rfl).2
    · injection e with e; subst e
      exact h.cells rfl j u hj

end Go.Proofs.Ytojfhebejfibkaa
