/- What a command's words are, and that two lists of the same words are the same: by relation, for every head and list of at most 600 words. -/
import Derived.Test.YtojfhebejfibkaaTell
namespace Go.Proofs.Ytojfhebejfibkaa
open Go.RowKit

/-- A list of words of the call's own, or of none. -/
structure Lst (w : World) (a : Option Addr) (n : Nat) (vs : List Int) : Prop where
  few : n ≤ 1000
  some : n ≠ 0 → ∃ g, a = some ⟨g, 0, none⟩ ∧ Lies w g n vs

theorem Lst.below {w w' : World} {a : Option Addr} {n : Nat} {vs : List Int} (h : Lst w a n vs) (b : Below w.heap.size w w') : Lst w' a n vs :=
  ⟨h.few, fun e => by obtain ⟨g, e1, l⟩ := h.some e; exact ⟨g, e1, l.below b⟩⟩

theorem same_lst {a b : Option Addr} {n ca cb : Nat} {vs : List Int} (w : World) (h1 : Lst w a n vs) (h2 : Lst w b n vs) :
    Calls Try.prog 31 #[.slice a n ca, .slice b n cb] w fun e w' => e = .returned (.bool true) ∧ ∃ k, w' = w.drewN k := by
  by_cases hn : n = 0
  · exact same_empty a b n ca cb w (by omega)
  · obtain ⟨g, rfl, l1⟩ := h1.some hn
    obtain ⟨g2, rfl, l2⟩ := h2.some hn
    exact same_own g g2 n ca cb w (fun k => vs.getD k 0) h1.few ⟨l1.cell⟩ ⟨l2.cell⟩

/-- How many words a command has, and which. -/
def CmdV (m : Nat) (v e : Int) (zs : List Int) (n : Nat) (vs : List Int) : Prop := (e = 0 ∧ n = m + 1 ∧ vs = v :: zs) ∨ (e = 1 ∧ n = 0 ∧ vs = [])

def CmdL (w : World) (n : Nat) (vs : List Int) (e : Int) (z : Ending) (w' : World) : Prop :=
  ∃ a1 c1, z = .returned (.tuple #[.slice a1 n c1, .int .i64 e]) ∧ Below w.heap.size w w' ∧ Lst w' a1 n vs

theorem cmd_exists {a b c d v e : Int} (m : Nat) (zs : List Int) (h : PackR a b c d v e) : ∃ n vs, CmdV m v e zs n vs := by
  rcases h with ⟨_, _, h⟩ | ⟨_, _, h⟩
  · exact ⟨_, _, Or.inl ⟨h, rfl, rfl⟩⟩
  · exact ⟨_, _, Or.inr ⟨h, rfl, rfl⟩⟩

theorem packR_exists (a b c d : Int) : ∃ v e, PackR a b c d v e := by
  by_cases h : headOk a b c d
  · exact ⟨_, _, Or.inl ⟨h, rfl, rfl⟩⟩
  · exact ⟨_, _, Or.inr ⟨h, rfl, rfl⟩⟩

theorem unpR_exists (W : Nat) : ∃ p q r s e, UnpR W p q r s e := by
  by_cases h : W < 268435456
  · exact ⟨_, _, _, _, _, Or.inl ⟨h, rfl, rfl, rfl, rfl, rfl⟩⟩
  · exact ⟨_, _, _, _, _, Or.inr ⟨by omega, rfl, rfl, rfl, rfl, rfl⟩⟩

theorem command_rel {a b c d v e : Int} {ao : Option Addr} {m c' n : Nat} {zs vs : List Int} (w : World) (h : PackR a b c d v e) (src : Src w ao m c' (zs.map (Value.int .u32))) (hm : m ≤ 600) (hv : CmdV m v e zs n vs) :
    Calls Try.prog 23 #[.agg #[.int .i64 a, .int .i64 b, .int .i64 c, .int .i64 d], .slice ao m c'] w (CmdL w n vs e) := by
  rcases h with ⟨h, rfl, rfl⟩ | ⟨h, rfl, rfl⟩
  · obtain ⟨_, rfl, rfl⟩ : (0 : Int) = 0 ∧ n = m + 1 ∧ vs = _ := by rcases hv with hv | ⟨hv, _⟩ <;> first | exact hv | omega
    obtain ⟨A, B, C, D, rfl, rfl, rfl, rfl, ha, hb, hc, hd⟩ := headOk_nat h
    have K := command_ok A B C D _ ao m c' _ w src hm ha hb hc hd rfl
    refine K.mono fun z w' ⟨g, hz, hr⟩ => ⟨_, _, hz, hr.below, by omega, fun _ => ⟨g, rfl, ?_⟩⟩
    have := lies_of (vs := ((A + 256 * B + 1024 * C + 262144 * D : Nat) : Int) :: zs) hr.owns
    rw [show ((A + 256 * B + 1024 * C + 262144 * D : Nat) : Int) = (A : Int) + 256 * B + 1024 * C + 262144 * D by omega] at this
    exact this
  · obtain ⟨_, rfl, rfl⟩ : (1 : Int) = 1 ∧ n = 0 ∧ vs = [] := by rcases hv with ⟨hv, _⟩ | hv <;> first | exact hv | omega
    exact (command_bad a b c d _ w h).mono fun z w' ⟨hz, hm⟩ => ⟨_, _, hz, hm.below, by omega, fun e => absurd rfl e⟩

theorem ref_command_rel {a b c d v e : Int} {ao : Option Addr} {m c' n : Nat} {zs vs : List Int} (w : World) (h : PackR a b c d v e) (src : Src w ao m c' (zs.map (Value.int .u32))) (hm : m ≤ 600) (hv : CmdV m v e zs n vs) :
    Calls Try.prog 29 #[.agg #[.int .i64 a, .int .i64 b, .int .i64 c, .int .i64 d], .slice ao m c'] w (CmdL w n vs e) := by
  rcases h with ⟨h, rfl, rfl⟩ | ⟨h, rfl, rfl⟩
  · obtain ⟨_, rfl, rfl⟩ : (0 : Int) = 0 ∧ n = m + 1 ∧ vs = _ := by rcases hv with hv | ⟨hv, _⟩ <;> first | exact hv | omega
    obtain ⟨A, B, C, D, rfl, rfl, rfl, rfl, ha, hb, hc, hd⟩ := headOk_nat h
    have K := ref_command_ok A B C D _ ao m c' _ w src hm ha hb hc hd rfl
    refine K.mono fun z w' ⟨g, cap, hz, hr⟩ => ⟨_, _, hz, hr.below, by omega, fun _ => ⟨g, rfl, ?_⟩⟩
    have := lies_of (vs := ((A + 256 * B + 1024 * C + 262144 * D : Nat) : Int) :: zs) hr.owns
    rw [show ((A + 256 * B + 1024 * C + 262144 * D : Nat) : Int) = (A : Int) + 256 * B + 1024 * C + 262144 * D by omega] at this
    exact this
  · obtain ⟨_, rfl, rfl⟩ : (1 : Int) = 1 ∧ n = 0 ∧ vs = [] := by rcases hv with ⟨hv, _⟩ | hv <;> first | exact hv | omega
    exact (ref_command_bad a b c d _ w h).mono fun z w' ⟨hz, hm⟩ => ⟨_, _, hz, hm.below, by omega, fun e => absurd rfl e⟩

/-- What an answer's words are. -/
def AnsL (w : World) (m : Nat) (W V : Int) (zs : List Int) (z : Ending) (w' : World) : Prop :=
  ∃ a1 c1, z = .returned (.slice a1 (m + 2) c1) ∧ Below w.heap.size w w' ∧ Lst w' a1 (m + 2) (W :: V :: zs)

theorem ans_of {w w' : World} {m : Nat} {W V : Int} {zs : List Int} {z : Ending} (hm : m ≤ 600) (h : AnsPost w.heap.size w (m + 2) (.int .u32 W :: .int .u32 V :: zs.map (Value.int .u32)) z w') : AnsL w m W V zs z w' := by
  obtain ⟨g, cap, hz, hr⟩ := h
  exact ⟨_, _, hz, hr.below, by omega, fun _ => ⟨g, rfl, lies_of (vs := W :: V :: zs) hr.owns⟩⟩

theorem answer_rel {W S V : Int} {ao : Option Addr} {m c' : Nat} {zs : List Int} (w : World) (src : Src w ao m c' (zs.map (Value.int .u32))) (hm : m ≤ 600) (hV : S % 4294967296 = V) :
    Calls Try.prog 24 #[.int .u32 W, .int .i32 S, .slice ao m c'] w (AnsL w m W V zs) :=
  (answer_any W S V ao m c' _ w src hm hV).mono fun _ _ h => ans_of hm h
theorem ref_answer_rel {W S V : Int} {ao : Option Addr} {m c' : Nat} {zs : List Int} (w : World) (src : Src w ao m c' (zs.map (Value.int .u32))) (hm : m ≤ 600) (hV : S % 4294967296 = V) :
    Calls Try.prog 32 #[.int .u32 W, .int .i32 S, .slice ao m c'] w (AnsL w m W V zs) :=
  (ref_answer_any W S V ao m c' _ w src hm hV).mono fun _ _ h => ans_of hm h

end Go.Proofs.Ytojfhebejfibkaa
