/- What the reference's Pack, Unpack, Command, Answer and Status of chapter 13 compute. For every input (lists of at most 600 words). -/
import Derived.Test.YtojfhebejfibkaaOwned
namespace Go.Proofs.Ytojfhebejfibkaa
open Go.RowKit

theorem in_yes (n m : Int) (w : World) (h0 : 0 ≤ n) (h1 : n ≤ m) : Calls Try.prog 37 #[.int .i64 n, .int .i64 m] w fun e w' => e = .returned (.bool true) ∧ w' = w := by
  go_enter Try.func37, Try.ntmps37
  go_wp2_with fail
  go_ret
  exact ⟨rfl, rfl⟩

theorem in_no (n m : Int) (w : World) (h : n < 0 ∨ m < n) : Calls Try.prog 37 #[.int .i64 n, .int .i64 m] w fun e w' => e = .returned (.bool false) ∧ w' = w := by
  by_cases h0 : n < 0
  · clear h
    go_enter Try.func37, Try.ntmps37
    go_wp2_with fail
    go_ret
    exact ⟨rfl, rfl⟩
  · have h1 : m < n := by omega
    clear h
    go_enter Try.func37, Try.ntmps37
    go_wp2_with fail
    go_ret
    exact ⟨by simp; omega, rfl⟩

theorem ref_pack_ok (A B C D R : Nat) (w : World) (ha : A ≤ 255) (hb : B ≤ 3) (hc : C ≤ 255) (hd : D ≤ 1023) (hR : A + 256 * B + 1024 * C + 262144 * D = R) :
    Calls Try.prog 27 #[.agg #[.int .i64 A, .int .i64 B, .int .i64 C, .int .i64 D]] w fun e w' => e = pairW R 0 ∧ Mild w w' := by
  have KR := Kept.mk hR
  clear hR
  go_enter Try.func27, Try.ntmps27
  go_wp2_with (go_at_call 37; refine (in_yes _ _ _ (by omega) (by omega)).mono ?_; rintro e w' ⟨rfl, rfl⟩)
  go_ret2
  exact ⟨pairW_of (by have := KR.out; omega), (Mild.refl _).alloc _ _⟩

theorem ref_pack_bad (a b c d : Int) (w : World) (h : ¬ headOk a b c d) :
    Calls Try.prog 27 #[.agg #[.int .i64 a, .int .i64 b, .int .i64 c, .int .i64 d]] w fun e w' => e = pairW 0 1 ∧ Mild w w' := by
  have H := Kept.mk h
  clear h
  by_cases ha : a < 0 ∨ 255 < a
  · have K := Kept.mk ha
    clear ha
    go_enter Try.func27, Try.ntmps27
    go_wp2_with (go_at_call 37; refine (in_no _ _ _ K.out).mono ?_; rintro e w' ⟨rfl, rfl⟩)
    go_ret2
    exact ⟨rfl, (Mild.refl _).alloc _ _⟩
  have a0 : 0 ≤ a := by omega
  have a1 : a ≤ 255 := by omega
  clear ha
  by_cases hb : b < 0 ∨ 3 < b
  · have K := Kept.mk hb
    clear hb
    go_enter Try.func27, Try.ntmps27
    go_wp2_with fail
    refine (in_yes _ _ _ a0 a1).mono ?_; rintro e w' ⟨rfl, rfl⟩
    go_wp2_with fail
    refine (in_no _ _ _ K.out).mono ?_; rintro e w' ⟨rfl, rfl⟩
    go_wp2_with fail
    go_ret2
    exact ⟨rfl, (Mild.refl _).alloc _ _⟩
  have b0 : 0 ≤ b := by omega
  have b1 : b ≤ 3 := by omega
  clear hb
  by_cases hc : c < 0 ∨ 255 < c
  · have K := Kept.mk hc
    clear hc
    go_enter Try.func27, Try.ntmps27
    go_wp2_with fail
    refine (in_yes _ _ _ a0 a1).mono ?_; rintro e w' ⟨rfl, rfl⟩
    go_wp2_with fail
    refine (in_yes _ _ _ b0 b1).mono ?_; rintro e w' ⟨rfl, rfl⟩
    go_wp2_with fail
    refine (in_no _ _ _ K.out).mono ?_; rintro e w' ⟨rfl, rfl⟩
    go_wp2_with fail
    go_ret2
    exact ⟨rfl, (Mild.refl _).alloc _ _⟩
  have c0 : 0 ≤ c := by omega
  have c1 : c ≤ 255 := by omega
  clear hc
  have K : Kept (d < 0 ∨ 1023 < d) := ⟨by have := H.out; unfold headOk at this; omega⟩
  go_enter Try.func27, Try.ntmps27
  go_wp2_with fail
  refine (in_yes _ _ _ a0 a1).mono ?_; rintro e w' ⟨rfl, rfl⟩
  go_wp2_with fail
  refine (in_yes _ _ _ b0 b1).mono ?_; rintro e w' ⟨rfl, rfl⟩
  go_wp2_with fail
  refine (in_yes _ _ _ c0 c1).mono ?_; rintro e w' ⟨rfl, rfl⟩
  go_wp2_with fail
  refine (in_no _ _ _ K.out).mono ?_; rintro e w' ⟨rfl, rfl⟩
  go_wp2_with fail
  go_ret2
  exact ⟨rfl, (Mild.refl _).alloc _ _⟩

theorem ref_unpack_bad (v : Int) (w : World) (h0 : v ≤ 4294967295) (h : 268435456 ≤ v) :
    Calls Try.prog 28 #[.int .u32 v] w fun e w' => e = headE 0 0 0 0 2 ∧ Mild w w' := by
  go_enter Try.func28, Try.ntmps28
  go_wp2_with fail
  refine bodyPost_ret (v := .tuple #[.agg #[.int .i64 0, .int .i64 0, .int .i64 0, .int .i64 0], .int .i64 2]) (by simp [results, Try.results28, go_sem]) rfl ⟨rfl, ?_⟩
  exact (Mild.refl _).alloc _ _

theorem ref_unpack_ok (v a b c d : Int) (w : World) (h0 : 0 ≤ v) (hW : v < 268435456) (ha : v % 256 = a) (hb : v / 256 % 4 = b) (hc : v / 1024 % 256 = c) (hd : v / 262144 = d) :
    Calls Try.prog 28 #[.int .u32 v] w fun e w' => e = headE a b c d 0 ∧ Mild w w' := by
  go_enter Try.func28, Try.ntmps28
  go_wp2_with fail
  refine bodyPost_ret (v := .tuple #[.agg #[.int .i64 a, .int .i64 b, .int .i64 c, .int .i64 d], .int .i64 0]) (by simp [results, Try.results28, go_sem]) rfl ⟨rfl, ?_⟩
  exact (Mild.refl _).alloc _ _

theorem two_new (w : World) (x y : Value) (t : TypeId) : ∀ j u, [x, y][j]? = some u → (w.alloc (.cells #[x, y] t)).cell? ((⟨w.heap.size, 0, none⟩ : Addr).add j) = some u := by
  intro j u hj
  match j, hj with
  | 0, hj => simp at hj; subst hj; simp [Addr.add]
  | 1, hj => simp at hj; subst hj; simp [Addr.add]
  | k + 2, hj => simp at hj

theorem owns_lit1 (w : World) (x : Value) : (w.alloc (.cells #[x] 22)).ownsRow w.heap.size 22 1 (.slice (some ⟨w.heap.size, 0, none⟩) 1 1) 1 [x] :=
  World.ownsRow_lit w #[x] 1 (Nat.le_refl _) (by unfold maxLen; omega) rfl
theorem owns_lit2 (w : World) (x y : Value) : (w.alloc (.cells #[x, y] 22)).ownsRow w.heap.size 22 1 (.slice (some ⟨w.heap.size, 0, none⟩) 2 2) 2 [x, y] :=
  World.ownsRow_lit w #[x, y] 2 (Nat.le_refl _) (by unfold maxLen; omega) rfl

set_option maxRecDepth 100000 in
theorem ref_answer_any (W S V : Int) (ao : Option Addr) (m c : Nat) (news : List Value) (w : World) (src : Src w ao m c news) (hm : m ≤ 600) (hV : S % 4294967296 = V) :
    Calls Try.prog 32 #[.int .u32 W, .int .i32 S, .slice ao m c] w (AnsPost w.heap.size w (m + 2) (.int .u32 W :: .int .u32 V :: news)) := by
  obtain ⟨i0, hi, hz0, hz1, hz2⟩ := info_parts info22
  have KS := Kept.mk src
  have KI := Kept.mk hi
  have KZ0 := Kept.mk hz0
  have KZ1 := Kept.mk hz1
  have KZ2 := Kept.mk hz2
  have KO := Kept.mk (owns_lit2 w (.int .u32 W) (.int .u32 V))
  have KB := Kept.mk ((Below.refl w.heap.size w).alloc (Nat.le_refl _) (.cells #[.int .u32 W, .int .u32 V] 22))
  have KM := Kept.mk (show 2 + m ≤ maxLen by unfold maxLen; omega)
  clear src hi hz0 hz1 hz2
  cases ao with
  | none =>
    obtain ⟨rfl, rfl⟩ := KS.out.none rfl
    have hn : news = [] := List.eq_nil_of_length_eq_zero KS.out.len
    subst hn
    go_enter Try.func32, Try.ntmps32
    go_wp2_with (at_builtin; refine wpList_append_own_none rfl (.tmp 12) (.tmp 13) 40 rfl _ 22 i0 1 Try.underlying40 KI.out _ _ _ rfl KO.out rfl ?_)
    go_ret
    exact ⟨w.heap.size, _, rfl, KO.out, KB.out⟩
  | some ad =>
    go_enter Try.func32, Try.ntmps32
    go_wp2_with (at_builtin; refine wpList_append_own _ rfl (.tmp 12) (.tmp 13) 40 rfl w.heap.size 22 i0 (.int .u32 0) 1 4 Try.underlying40 KI.out KZ0.out KZ1.out KZ2.out rfl (by omega) _ _ _ rfl KO.out ad m c news rfl (by rw [KS.out.len]; omega) ((KS.out.below KB.out).cells ad rfl) KS.out.one KM.out (by omega) KB.out.size ?_; intro v' w2 own2 grow2 _; have KO2 := Kept.mk own2; have KG := Kept.mk grow2; clear own2 grow2)
    have hb := KB.out.grown KG.out KB.out.size (fun k e => (KO.out.lt k e).1)
    obtain ⟨g2, cap, hv⟩ := Joins.ownsRow_form KO2.out (by omega)
    have ho := KO2.out
    subst hv
    rw [show 2 + m = m + 2 by omega] at ho ⊢
    go_ret
    exact ⟨g2, cap, rfl, ho, hb⟩

theorem ref_command_bad (a b c d : Int) (l : Value) (w : World) (h : ¬ headOk a b c d) :
    Calls Try.prog 29 #[.agg #[.int .i64 a, .int .i64 b, .int .i64 c, .int .i64 d], l] w fun e w' => e = .returned (.tuple #[.slice none 0 0, .int .i64 1]) ∧ Mild w w' := by
  have H := Kept.mk h
  clear h
  go_enter Try.func29, Try.ntmps29
  go_wp2_with fail
  refine (ref_pack_bad a b c d _ H.out).mono ?_; rintro z w1 ⟨rfl, m1⟩
  go_wp2_with fail
  go_ret2
  exact ⟨rfl, by first | exact m1 | exact ((Mild.refl _).alloc _ _).trans m1⟩

/-- What the reference's Command makes of a head that has a word. -/
def RcmPost (B : Nat) (w : World) (n : Nat) (xs : List Value) (e : Ending) (w' : World) : Prop := ∃ g cap, e = .returned (.tuple #[.slice (some ⟨g, 0, none⟩) n cap, .int .i64 0]) ∧ RowAt B w (.slice (some ⟨g, 0, none⟩) n cap) n xs w'

set_option maxRecDepth 100000 in
theorem ref_command_ok (A B C D R : Nat) (ao : Option Addr) (m c : Nat) (news : List Value) (w : World) (src : Src w ao m c news) (hm : m ≤ 600) (ha : A ≤ 255) (hb : B ≤ 3) (hc : C ≤ 255) (hd : D ≤ 1023) (hR : A + 256 * B + 1024 * C + 262144 * D = R) :
    Calls Try.prog 29 #[.agg #[.int .i64 A, .int .i64 B, .int .i64 C, .int .i64 D], .slice ao m c] w (RcmPost w.heap.size w (m + 1) (.int .u32 R :: news)) := by
  obtain ⟨i0, hi, hz0, hz1, hz2⟩ := info_parts info22
  have KS := Kept.mk src
  have KI := Kept.mk hi
  have KZ0 := Kept.mk hz0
  have KZ1 := Kept.mk hz1
  have KZ2 := Kept.mk hz2
  have KR := Kept.mk hR
  have KM := Kept.mk (show 1 + m ≤ maxLen by unfold maxLen; omega)
  clear src hi hz0 hz1 hz2 hR
  cases ao with
  | none =>
    obtain ⟨rfl, rfl⟩ := KS.out.none rfl
    have hn : news = [] := List.eq_nil_of_length_eq_zero KS.out.len
    subst hn
    go_enter Try.func29, Try.ntmps29
    go_wp2_with fail
    refine (ref_pack_ok A B C D R _ ha hb hc hd KR.out).mono ?_; rintro z w1 ⟨rfl, m1⟩
    have KB1 := Kept.mk ((((Mild.refl w).alloc #[.int .i64 A, .int .i64 B, .int .i64 C, .int .i64 D] 51).trans m1).below)
    clear m1
    have KO := Kept.mk (owns_lit1 w1 (.int .u32 R))
    have KB := Kept.mk (KB1.out.alloc KB1.out.size (.cells #[.int .u32 R] 22))
    go_wp2_with (at_builtin; refine wpList_append_own_none rfl (.tmp 17) (.tmp 18) 40 rfl _ 22 i0 1 Try.underlying40 KI.out _ _ _ rfl KO.out rfl ?_)
    go_ret2
    exact ⟨w1.heap.size, _, rfl, Joins.ownsRow_le KO.out KB1.out.size, KB.out⟩
  | some ad =>
    go_enter Try.func29, Try.ntmps29
    go_wp2_with fail
    refine (ref_pack_ok A B C D R _ ha hb hc hd KR.out).mono ?_; rintro z w1 ⟨rfl, m1⟩
    have KB1 := Kept.mk ((((Mild.refl w).alloc #[.int .i64 A, .int .i64 B, .int .i64 C, .int .i64 D] 51).trans m1).below)
    clear m1
    have KO := Kept.mk (owns_lit1 w1 (.int .u32 R))
    have KB := Kept.mk (KB1.out.alloc KB1.out.size (.cells #[.int .u32 R] 22))
    have KL := Kept.mk (show w1.heap.size ≤ (w1.alloc (.cells #[.int .u32 R] 22)).heap.size by simp)
    go_wp2_with (at_builtin; refine wpList_append_own _ rfl (.tmp 17) (.tmp 18) 40 rfl w1.heap.size 22 i0 (.int .u32 0) 1 4 Try.underlying40 KI.out KZ0.out KZ1.out KZ2.out rfl (by omega) _ _ _ rfl KO.out ad m c news rfl (by rw [KS.out.len]; omega) ((KS.out.below KB.out).cells ad rfl) KS.out.one KM.out (by omega) KL.out ?_; intro v' w2 own2 grow2 _; have KO2 := Kept.mk own2; have KG := Kept.mk grow2; clear own2 grow2)
    have hb := KB.out.grown KG.out KB.out.size (fun k e => Nat.le_trans KB1.out.size (KO.out.lt k e).1)
    obtain ⟨g2, cap, hv⟩ := Joins.ownsRow_form KO2.out (by omega)
    have ho := KO2.out
    subst hv
    rw [show 1 + m = m + 1 by omega] at ho ⊢
    go_ret2
    exact ⟨g2, cap, rfl, Joins.ownsRow_le ho KB1.out.size, hb⟩

end Go.Proofs.Ytojfhebejfibkaa
