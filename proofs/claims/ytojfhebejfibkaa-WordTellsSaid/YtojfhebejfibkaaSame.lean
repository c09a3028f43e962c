/- What the reference's Same and Status of chapter 13 compute of lists that hold the same. -/
import Derived.Test.YtojfhebejfibkaaRefw
namespace Go.Proofs.Ytojfhebejfibkaa
open Go.RowKit

theorem same_empty (a b : Option Addr) (n ca cb : Nat) (w : World) (hn : n ≤ 0) :
    Calls Try.prog 31 #[.slice a n ca, .slice b n cb] w fun e w' => e = .returned (.bool true) ∧ ∃ k, w' = w.drewN k := by
  go_enter Try.func31, Try.ntmps31
  go_wp2_with fail
  go_loopw [5] (fun i wr => ∃ k : Nat, k ≤ n ∧ i = .int .i64 k ∧ ∃ d, wr = w.drewN d) (fun i _ => n - (intOf i).toNat)
  case atStart => exact ⟨0, by omega, rfl, 0, rfl⟩
  case round =>
    obtain ⟨k, hk, rfl, d, rfl⟩ := hrel
    go_wp2_with fail
    go_ret
    exact ⟨rfl, d, rfl⟩

theorem same_own (g h n ca cb : Nat) (w : World) (f : Nat → Int) (hn : n ≤ 1000)
    (h1 : Kept (∀ k, k < n → w.cell? ⟨g, k, none⟩ = some (.int .u32 (f k)))) (h2 : Kept (∀ k, k < n → w.cell? ⟨h, k, none⟩ = some (.int .u32 (f k)))) :
    Calls Try.prog 31 #[.slice (some ⟨g, 0, none⟩) n ca, .slice (some ⟨h, 0, none⟩) n cb] w fun e w' => e = .returned (.bool true) ∧ ∃ k, w' = w.drewN k := by
  go_enter Try.func31, Try.ntmps31
  go_wp2_with fail
  go_loopw [5] (fun i wr => ∃ k : Nat, k ≤ n ∧ i = .int .i64 k ∧ ∃ d, wr = w.drewN d) (fun i _ => n - (intOf i).toNat)
  case atStart => exact ⟨0, by omega, rfl, 0, rfl⟩
  case round =>
    obtain ⟨k, hk, rfl, d, rfl⟩ := hrel
    by_cases hlt : k < n
    · have q1 := h1.out k hlt
      have q2 := h2.out k hlt
      obtain ⟨x, hx⟩ : ∃ x, f k = x := ⟨_, rfl⟩
      rw [hx] at q1 q2
      clear hx
      go_wp2_with fail
      go_quiet (fail)
      go_wp2_with fail
      go_roundw
      case rel => exact ⟨k + 1, by omega, by go_num, _, rfl⟩
      case measure => simp [intOf]; omega
    · go_wp2_with fail
      go_ret
      exact ⟨rfl, d, rfl⟩

theorem ref_status_short (ao : Option Addr) (m c : Nat) (w : World) (h : m < 2) :
    Calls Try.prog 30 #[.slice ao m c] w fun e w' => e = pairS 0 2 ∧ w' = w := by
  go_enter Try.func30, Try.ntmps30
  go_wp2_with fail
  go_ret2
  exact ⟨rfl, rfl⟩

theorem ref_status_long (b off m c : Nat) (X S : Int) (w : World) (h : 2 ≤ m) (hc : w.cell? ⟨b, off + 1, none⟩ = some (.int .u32 X)) (hS : wrap32 X = S) :
    Calls Try.prog 30 #[.slice (some ⟨b, off, none⟩) m c] w fun e w' => e = pairS S 0 ∧ w' = w := by
  go_enter Try.func30, Try.ntmps30
  go_wp2_with fail
  go_ret2
  exact ⟨pairS_of hS, rfl⟩

end Go.Proofs.Ytojfhebejfibkaa
