/- What word.row makes: a new list of a word and those behind it. For every word and every list of at most 600 words. -/
import Derived.Test.YtojfhebejfibkaaWordLaw
import Derived.Test.YtojfhebejfibkaaBitMore
import Derived.OwnWalk
import Derived.Laws.AppendOwn
import Derived.Laws.AppendOwnNone
import Derived.Lib.SmallJoins
namespace Go.Proofs.Ytojfhebejfibkaa
open Go.RowKit

/-- Where the words of a list lie: nowhere, or in cells of a block that there is. -/
structure Src (w : World) (ao : Option Addr) (m c : Nat) (news : List Value) : Prop where
  none : ao = none → m = 0 ∧ c = 0
  len : news.length = m
  lt : ∀ ad, ao = some ad → m ≠ 0 → ad.block < w.heap.size
  cells : ∀ ad, ao = some ad → ∀ j u, news[j]? = some u → w.cell? (ad.add j) = some u
  one : ∀ u ∈ news, u.oneCell' = true

theorem Src.some_ne {w : World} {ao : Option Addr} {m c : Nat} {news : List Value} (h : Src w ao m c news) {j : Nat} {u : Value} (hj : news[j]? = some u) : m ≠ 0 := by
  intro e
  have hl := h.len
  rw [e] at hl
  rw [List.eq_nil_of_length_eq_zero hl] at hj
  simp at hj

theorem Src.below {w w' : World} {ao : Option Addr} {m c : Nat} {news : List Value} (h : Src w ao m c news) (b : Below w.heap.size w w') : Src w' ao m c news :=
  ⟨h.none, h.len, fun ad e n => Nat.lt_of_lt_of_le (h.lt ad e n) b.size, fun ad e j u hj => (b.cell (p := ad.add j) (by unfold Addr.add; split <;> exact h.lt ad e (h.some_ne hj))).trans (h.cells ad e j u hj), h.one⟩

theorem info22 : (Try.prog.info? 22).map (fun i => (i.zero, i.size, i.bytes)) = some (some (.int .u32 0), 1, 4) := by kernel_rfl

structure RowAt (B : Nat) (w : World) (v : Value) (n : Nat) (xs : List Value) (w' : World) : Prop where
  owns : w'.ownsRow B 22 1 v n xs
  below : Below B w w'

def RowPost (B : Nat) (w : World) (n : Nat) (xs : List Value) (e : Ending) (w' : World) : Prop := ∃ g, e = .returned (.slice (some ⟨g, 0, none⟩) n n) ∧ RowAt B w (.slice (some ⟨g, 0, none⟩) n n) n xs w'

theorem one_new (w : World) (x : Value) (t : TypeId) : ∀ j u, [x][j]? = some u → (w.alloc (.cells #[x] t)).cell? ((⟨w.heap.size, 0, none⟩ : Addr).add j) = some u := by
  intro j u hj
  match j, hj with
  | 0, hj =>
    simp at hj
    subst hj
    simp [Addr.add]
  | k + 1, hj => simp at hj

theorem below_made {B : Nat} {w w1 : World} (h : w.grownBy w1 none) (hB : B ≤ w.heap.size) : Below B w w1 := (Below.refl _ _).grown h hB (fun k e => by cases e)
theorem below_app {B : Nat} {w w1 w2 : World} (b : Below B w w1) (o : Obj) {g : Nat} (h : (w1.alloc o).grownBy w2 (some g)) (hB : B ≤ w1.heap.size) (hg : B ≤ g) : Below B w w2 :=
  (b.alloc hB o).grown h (by simp; omega) (fun k e => by injection e with e; omega)
theorem below_app' {B : Nat} {w w1 w2 : World} (b : Below B w w1) {g : Nat} (h : w1.grownBy w2 (some g)) (hB : B ≤ w1.heap.size) (hg : B ≤ g) : Below B w w2 :=
  b.grown h hB (fun k e => by injection e with e; omega)

set_option maxRecDepth 100000 in
theorem row_any (W : Int) (ao : Option Addr) (m c : Nat) (news : List Value) (w : World) (src : Src w ao m c news) (hm : m ≤ 600) :
    Calls Try.prog 35 #[.int .u32 W, .slice ao m c] w (RowPost w.heap.size w (m + 1) (.int .u32 W :: news)) := by
  obtain ⟨i0, hi, hz0, hz1, hz2⟩ := info_parts info22
  have KS := Kept.mk src
  have KI := Kept.mk hi
  have KZ0 := Kept.mk hz0
  have KZ1 := Kept.mk hz1
  have KZ2 := Kept.mk hz2
  clear src hi hz0 hz1 hz2
  go_enter Try.func35, Try.ntmps35
  have hb2 : i0.bytes * (m + 1) ≤ 281474976710656 := by rw [KZ2.out]; omega
  have hb3 : m + 1 ≤ maxLen := by unfold maxLen; omega
  have KB2 := Kept.mk hb2
  have KB3 := Kept.mk hb3
  clear hb2 hb3
  have hle : w.heap.size ≤ w.heap.size := Nat.le_refl _
  go_wp2_with (first
    | (at_make; refine wpList_make_own _ rfl _ _ 40 rfl w.heap.size 22 i0 (.int .u32 0) 1 Try.underlying40 KI.out KZ0.out KZ1.out .i64 .i64 _ (m + 1) rfl rfl (by omega) KB2.out KB3.out (Nat.le_refl _) ?_; intro w1 own1 grow1; have b1 := below_made grow1 hle; have s1 := b1.size; have KO1 := Kept.mk own1; have KB1 := Kept.mk b1; clear grow1 own1 b1)
    | (at_builtin; (refine wpList_append_fits _ rfl (.tmp 10) (.tmp 12) 40 rfl w.heap.size 22 i0 1 Try.underlying40 KI.out KZ1.out w.heap.size 0 (m + 1) [] rfl (KO1.out.alloc _) ⟨w1.heap.size, 0, none⟩ 1 1 [.int .u32 W] rfl rfl (one_new _ _ _) (by simp [Value.oneCell']) (by omega) ?_); intro w2 own2 grow2; have KB2 := Kept.mk (below_app KB1.out _ grow2 s1 hle); have KO2 := Kept.mk own2; clear grow2 own2 s1)
    | (at_builtin; (refine wpList_append_fits_any _ rfl (.tmp 14) (.tmp 15) 40 rfl w.heap.size 22 i0 1 Try.underlying40 KI.out KZ1.out w.heap.size 1 (m + 1) [.int .u32 W] rfl KO2.out ao m c news rfl (by rw [KS.out.len]; omega) KS.out.none (KS.out.below KB2.out).cells KS.out.one (by omega) ?_); intro w3 own3 grow3; have KB3 := Kept.mk (below_app' KB2.out grow3 KB2.out.size hle); have KO3 := Kept.mk own3; clear grow3 own3))
  have own := KO3.out
  rw [Nat.add_comm 1 m] at own
  go_ret
  exact ⟨w.heap.size, by simp [Nat.add_comm], own, KB3.out⟩

/-- What word.Answer makes. -/
def AnsPost (B : Nat) (w : World) (n : Nat) (xs : List Value) (e : Ending) (w' : World) : Prop := ∃ g cap, e = .returned (.slice (some ⟨g, 0, none⟩) n cap) ∧ RowAt B w (.slice (some ⟨g, 0, none⟩) n cap) n xs w'

theorem src_one (w : World) (x : Value) (h : x.oneCell' = true) : Src (w.alloc (.cells #[x] 22)) (some ⟨w.heap.size, 0, none⟩) 1 1 [x] :=
  ⟨fun e => (by cases e), rfl, fun ad e _ => (by injection e with e; subst e; simp), fun ad e => (by injection e with e; subst e; exact one_new _ _ _), fun u hu => (by simp at hu; subst hu; exact h)⟩

set_option maxRecDepth 100000 in
theorem answer_any (W S V : Int) (ao : Option Addr) (m c : Nat) (news : List Value) (w : World) (src : Src w ao m c news) (hm : m ≤ 600) (hV : S % 4294967296 = V) :
    Calls Try.prog 24 #[.int .u32 W, .int .i32 S, .slice ao m c] w (AnsPost w.heap.size w (m + 2) (.int .u32 W :: .int .u32 V :: news)) := by
  obtain ⟨i0, hi, hz0, hz1, hz2⟩ := info_parts info22
  have KS := Kept.mk src
  have KI := Kept.mk hi
  have KZ0 := Kept.mk hz0
  have KZ1 := Kept.mk hz1
  have KZ2 := Kept.mk hz2
  clear src hi hz0 hz1 hz2
  cases ao with
  | none =>
    obtain ⟨rfl, rfl⟩ := KS.out.none rfl
    have hn : news = [] := List.eq_nil_of_length_eq_zero KS.out.len
    subst hn
    go_enter Try.func24, Try.ntmps24
    go_wp2_with fail
    refine (row_any W _ 1 1 [.int .u32 V] _ (src_one w (.int .u32 V) rfl) (by omega)).mono ?_; rintro e w1 ⟨g, rfl, hr⟩
    have KO := Kept.mk hr.owns
    have KB := Kept.mk (((Below.refl w.heap.size w).alloc (Nat.le_refl _) (.cells #[.int .u32 V] 22)).trans (hr.below.mono (by simp)))
    clear hr
    go_wp2_with (at_builtin; (refine wpList_append_own_none rfl (.tmp 11) (.tmp 12) 40 rfl _ 22 i0 1 Try.underlying40 KI.out _ _ _ rfl KO.out rfl ?_))
    go_ret
    exact ⟨g, _, rfl, Joins.ownsRow_le KO.out (by simp), KB.out⟩
  | some ad =>
    go_enter Try.func24, Try.ntmps24
    go_wp2_with fail
    refine (row_any W _ 1 1 [.int .u32 V] _ (src_one w (.int .u32 V) rfl) (by omega)).mono ?_; rintro e w1 ⟨g, rfl, hr⟩
    have KO := Kept.mk hr.owns
    have KB := Kept.mk (((Below.refl w.heap.size w).alloc (Nat.le_refl _) (.cells #[.int .u32 V] 22)).trans (hr.below.mono (by simp)))
    have KL := Kept.mk (show (w.alloc (.cells #[.int .u32 V] 22)).heap.size ≤ w1.heap.size from hr.below.size)
    have KM := Kept.mk (show 1 + 1 + m ≤ maxLen by unfold maxLen; omega)
    clear hr
    go_wp2_with (at_builtin; refine wpList_append_own _ rfl (.tmp 11) (.tmp 12) 40 rfl (w.alloc (.cells #[.int .u32 V] 22)).heap.size 22 i0 (.int .u32 0) 1 4 Try.underlying40 KI.out KZ0.out KZ1.out KZ2.out rfl (by omega) _ _ _ rfl KO.out ad m c news rfl (by rw [KS.out.len]; omega) ((KS.out.below KB.out).cells ad rfl) KS.out.one KM.out (by omega) KL.out ?_; intro v' w2 own2 grow2 _; have KO2 := Kept.mk own2; have KG := Kept.mk grow2; clear own2 grow2)
    have hb := KB.out.grown KG.out KB.out.size (fun k e => by have := KO.out.lt k e; simp at this; omega)
    obtain ⟨g2, cap, hv⟩ := Joins.ownsRow_form KO2.out (by omega)
    have ho := KO2.out
    subst hv
    rw [show 1 + 1 + m = m + 2 by omega] at ho ⊢
    go_ret
    exact ⟨g2, cap, rfl, Joins.ownsRow_le ho (by simp), hb⟩

/-- What word.Command makes of a head that has a word. -/
def CmdPost (B : Nat) (w : World) (n : Nat) (xs : List Value) (e : Ending) (w' : World) : Prop := ∃ g, e = .returned (.tuple #[.slice (some ⟨g, 0, none⟩) n n, .int .i64 0]) ∧ RowAt B w (.slice (some ⟨g, 0, none⟩) n n) n xs w'

set_option maxRecDepth 100000 in
theorem command_ok (A B C D R : Nat) (ao : Option Addr) (m c : Nat) (news : List Value) (w : World) (src : Src w ao m c news) (hm : m ≤ 600) (ha : A ≤ 255) (hb : B ≤ 3) (hc : C ≤ 255) (hd : D ≤ 1023) (hR : A + 256 * B + 1024 * C + 262144 * D = R) :
    Calls Try.prog 23 #[.agg #[.int .i64 A, .int .i64 B, .int .i64 C, .int .i64 D], .slice ao m c] w (CmdPost w.heap.size w (m + 1) (.int .u32 R :: news)) := by
  have KS := Kept.mk src
  have KR := Kept.mk hR
  clear src hR
  go_enter Try.func23, Try.ntmps23
  go_wp2_with fail
  refine (pack_is A B C D R _ rfl rfl rfl rfl ha hb hc hd KR.out).mono ?_; rintro z w1 ⟨rfl, m1⟩
  have KB := Kept.mk ((((Mild.refl w).alloc #[.int .i64 A, .int .i64 B, .int .i64 C, .int .i64 D] 39).trans m1).below)
  clear m1
  go_wp2_with fail
  refine (row_any R _ m c news _ (KS.out.below KB.out) hm).mono ?_; rintro z w2 ⟨g, rfl, hr⟩
  have KO := Kept.mk (Joins.ownsRow_le hr.owns KB.out.size)
  have KC := Kept.mk (KB.out.trans (hr.below.mono KB.out.size))
  clear hr
  go_wp2_with fail
  go_ret2
  exact ⟨g, rfl, KO.out, KC.out⟩

theorem status_short (ao : Option Addr) (m c : Nat) (w : World) (h : m < 2) :
    Calls Try.prog 25 #[.slice ao m c] w fun e w' => e = pairS 0 2 ∧ w' = w := by
  go_enter Try.func25, Try.ntmps25
  go_wp2_with fail
  go_ret2
  exact ⟨rfl, rfl⟩

theorem status_long (b off m c : Nat) (X S : Int) (w : World) (h : 2 ≤ m) (hc : w.cell? ⟨b, off + 1, none⟩ = some (.int .u32 X)) (hS : wrap32 X = S) :
    Calls Try.prog 25 #[.slice (some ⟨b, off, none⟩) m c] w fun e w' => e = pairS S 0 ∧ w' = w := by
  go_enter Try.func25, Try.ntmps25
  go_wp2_with fail
  go_ret2
  exact ⟨pairS_of hS, rfl⟩

end Go.Proofs.Ytojfhebejfibkaa
