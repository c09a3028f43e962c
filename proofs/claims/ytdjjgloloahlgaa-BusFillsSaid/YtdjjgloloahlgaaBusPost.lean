/- What Post leaves where there is room for one more: it lies behind the others. For every bus in memory. -/
import Derived.Test.YtdjjgloloahlgaaBusAsk
import Derived.Deep.AppendLies
import Derived.Deep.RegionLawGrows
import Derived.Lib.SmallJoins
namespace Go.Proofs.Ytdjjgloloahlgaa
open Go.RowKit

/-- Something on its way, as its cells. -/
def txn (id : Int) (b : Bool) (r v : Int) : List Value := [.int .i64 id, .bool b, .int .i64 r, .int .u32 v]

/-- What waits for a device: a row of the bus's own (from block base on), or a slice without room behind it. -/
def Queue (w : World) (base : Nat) (v : Value) (m : Nat) (xs : List Value) : Prop :=
  w.ownsRow base 43 4 v m xs ∨
  (∃ b off, v = .slice (some ⟨b, off, none⟩) m m ∧ xs.length = m * 4 ∧ b < w.heap.size ∧ base ≤ b ∧ ∀ j u, xs[j]? = some u → w.cell? ⟨b, off + j, none⟩ = some u)

theorem BusAt.setPosted {w : World} {B gr gw n : Nat} {rs : Nat → Int} {qs : Nat → Value} {k : Int} (h : BusAt w B gr gw n rs qs k) (x : Int) :
    BusAt (w.setCell ⟨B, 2, none⟩ (.int .i64 x)) B gr gw n rs qs x :=
  ⟨(World.cell?_setCell_other _ _ _ _ (fun e => by injection e with _ e; omega)).trans h.c0, (World.cell?_setCell_other _ _ _ _ (fun e => by injection e with _ e; omega)).trans h.c1, World.cell?_setCell_same _ _ _ h.c2, fun o => (World.frozen?_setCell _ _ _ _).trans (h.fb o), by simpa using h.lb, h.r.setOther (fun e => h.ne1 e.symm) _, h.q.setOther (fun e => h.ne2 e.symm) _, h.ne1, h.ne2, h.ne3⟩

theorem BusAt.setQueue {w : World} {B gr gw n : Nat} {rs : Nat → Int} {qs : Nat → Value} {k : Int} (h : BusAt w B gr gw n rs qs k) (D : Nat) (v : Value) :
    BusAt (w.setCell ⟨gw, D, none⟩ v) B gr gw n rs (fun j => if j = D then v else qs j) k := by
  have ne : ∀ o, (⟨gw, D, none⟩ : Addr) ≠ ⟨B, o, none⟩ := fun o e => h.ne2 (by injection e with e; exact e.symm)
  exact ⟨(World.cell?_setCell_other _ _ _ _ (ne 0)).trans h.c0, (World.cell?_setCell_other _ _ _ _ (ne 1)).trans h.c1, (World.cell?_setCell_other _ _ _ _ (ne 2)).trans h.c2, fun o => (World.frozen?_setCell _ _ _ _).trans (h.fb o), by simpa using h.lb, h.r.setOther h.ne3 _, h.q.set D v, h.ne1, h.ne2, h.ne3⟩

/-- A bus keeps through what turns one row beyond its own blocks. -/
theorem BusAt.grown {w w' : World} {B gr gw n base : Nat} {rs : Nat → Int} {qs : Nat → Value} {k : Int} {row : Option Nat} (h : BusAt w B gr gw n rs qs k) (hg : w.grownBy w' row) (hr : ∀ j, row = some j → base ≤ j) (b1 : B < base) (b2 : gr < base) (b3 : gw < base) : BusAt w' B gr gw n rs qs k := by
  have hB : w'.heap[B]? = w.heap[B]? := hg.block B h.lb (fun e => by have := hr _ e.symm; omega)
  exact ⟨(World.cell?_of_block (a := ⟨B, 0, none⟩) hB).trans h.c0, (World.cell?_of_block (a := ⟨B, 1, none⟩) hB).trans h.c1, (World.cell?_of_block (a := ⟨B, 2, none⟩) hB).trans h.c2, fun o => (World.frozen?_of_block (a := ⟨B, o, none⟩) hB).trans (h.fb o), Nat.lt_of_lt_of_le h.lb hg.size,
    h.r.of_block (hg.block _ h.r.lt (fun e => by have := hr _ e.symm; omega)), h.q.of_block (hg.block _ h.q.lt (fun e => by have := hr _ e.symm; omega)), h.ne1, h.ne2, h.ne3⟩

theorem BusAt.drew {w : World} {B gr gw n : Nat} {rs : Nat → Int} {qs : Nat → Value} {k : Int} (h : BusAt w B gr gw n rs qs k) : BusAt w.drew B gr gw n rs qs k :=
  ⟨h.c0, h.c1, h.c2, h.fb, h.lb, h.r, h.q, h.ne1, h.ne2, h.ne3⟩

theorem BusAt.alloc {w : World} {B gr gw n : Nat} {rs : Nat → Int} {qs : Nat → Value} {k : Int} (h : BusAt w B gr gw n rs qs k) (o : Obj) : BusAt (w.alloc o) B gr gw n rs qs k := h.below ((Below.refl _ w).alloc (Nat.le_refl _) o)

theorem owns_below {w w' : World} {base e size n : Nat} {v : Value} {xs : List Value} (h : w.ownsRow base e size v n xs) (b : Below w.heap.size w w') : w'.ownsRow base e size v n xs := by
  refine ⟨h.1, ?_⟩
  rcases h.2 with h0 | ⟨g, cap, cur, hv, hb, hg, r⟩
  · exact .inl h0
  · exact .inr ⟨g, cap, cur, hv, hb, (b.block g (Array.getElem?_eq_some_iff.1 hg).1).trans hg, r⟩

theorem grown_setCell (w : World) (p : Addr) (v : Value) : w.grownBy (w.setCell p v) (some p.block) :=
  ⟨rfl, rfl, rfl, by simp, fun k _ hne => by simp [World.setCell, Array.getElem?_modify]; intro e; exact absurd (by rw [e]) hne⟩

theorem four_new (w : World) (x y z u : Value) (t : TypeId) : ∀ j s, [x, y, z, u][j]? = some s → (w.alloc (.cells #[x, y, z, u] t)).cell? ((⟨w.heap.size, 0, none⟩ : Addr).add j) = some s := by
  intro j s hj
  match j, hj with
  | 0, hj => simp at hj; subst hj; simp [Addr.add]
  | 1, hj => simp at hj; subst hj; simp [Addr.add]
  | 2, hj => simp at hj; subst hj; simp [Addr.add]
  | 3, hj => simp at hj; subst hj; simp [Addr.add]
  | k + 4, hj => simp at hj

theorem add_lit (b off j : Nat) : (⟨b, off, none⟩ : Addr).add j = ⟨b, off + j, none⟩ := by unfold Addr.add; split <;> simp_all

def PostL (w : World) (B gr gw n base B0 : Nat) (rs : Nat → Int) (qs : Nat → Value) (k : Int) (D m : Nat) (xs : List Value) (e : Ending) (w' : World) : Prop :=
  ∃ v cap g, v = .slice (some ⟨g, 0, none⟩) (m + 1) cap ∧ e = pairN k 0 ∧ Below B0 w w' ∧ BusAt w' B gr gw n rs (fun j => if j = D then v else qs j) (k + 1) ∧ w'.ownsRow base 43 4 v (m + 1) xs

set_option maxRecDepth 100000 in
set_option maxHeartbeats 2000000 in
theorem post_own {w : World} {B gr gw n base B0 : Nat} {rs : Nat → Int} {qs : Nat → Value} {k : Int} (h : BusAt w B gr gw n rs qs k) (b1 : B < base) (b2 : gr < base) (b3 : gw < base) (b4 : base ≤ w.heap.size) (b5 : B0 ≤ B) (b7 : B0 ≤ gw)
    (W D R : Nat) (b : Bool) (v r : Int) (hW : W < 4294967296) (hs : SplitR W (D : Int) (R : Int)) (hD : D < n) (hr : rs D = r) (hq : (R : Int) < r) (k0 : 0 ≤ k) (k1 : k ≤ 1000) {a : Option Addr} {m c : Nat} {xs : List Value} (hm : qs D = .slice a m c) (h4 : m < 4) (ho : w.ownsRow base 43 4 (.slice a m c) m xs) :
    Calls Try.prog 13 #[.pointer (some ⟨B, 0, none⟩), .int .u32 (W : Int), .bool b, .int .u32 v] w (PostL w B gr gw n base B0 rs qs k D m (xs ++ txn k b R v)) := by
  obtain ⟨i0, hi, hz0, hz1, hz2⟩ := info_parts info43
  have KI := Kept.mk hi
  have KZ0 := Kept.mk hz0
  have KZ1 := Kept.mk hz1
  have KZ2 := Kept.mk hz2
  have H := Kept.mk h
  have HS := Kept.mk hs
  have HW := Kept.mk hW
  have HR := Kept.mk hr
  have HM := Kept.mk hm
  have HO := Kept.mk ho
  clear h hs hW hr hm ho hi hz0 hz1 hz2
  go_enter Try.func13, Try.ntmps13
  go_wp2_with fail
  refine (split_is _ HW.out rfl HS.out).mono ?_; rintro e w1 ⟨rfl, m1⟩
  have H1 := Kept.mk (H.out.mild m1)
  have M1 := Kept.mk m1.below
  have O1 := Kept.mk (owns_below HO.out m1.below)
  clear m1 H HO
  go_wp2_with fail
  refine (has_yes H1.out D hD).mono ?_; rintro e w' ⟨rfl, rfl⟩
  have c0 := H1.out.c0
  have c1 := H1.out.c1
  have c2 := H1.out.c2
  have f2 := H1.out.fb 2
  have r0 := (H1.out.r.cell hD).trans (by rw [HR.out])
  have q0 := (H1.out.q.cell hD).trans (by rw [HM.out])
  go_wp2_with fail
  have U0 := H1.out.setPosted (k + 1)
  have O20 : (w'.setCell ⟨B, 2, none⟩ (.int .i64 (k + 1))).ownsRow base 43 4 (.slice a m c) m xs := O1.out.kept (grown_setCell w' ⟨B, 2, none⟩ (.int .i64 (k + 1))) (by
    cases a with
    | none => exact Or.inl rfl
    | some ad => right; intro e; have := (O1.out.lt ad.block rfl).1; simp [Value.ownBlock] at e; omega)
  have M20 : Below B0 w (w'.setCell ⟨B, 2, none⟩ (.int .i64 (k + 1))) := (M1.out.mono (by have := H1.out.lb; have := b4; omega)).setCell (by dsimp only; omega) _
  obtain ⟨w2, hw2⟩ : ∃ w2 : World, w'.setCell ⟨B, 2, none⟩ (.int .i64 (k + 1)) = w2 := ⟨_, rfl⟩
  rw [hw2] at U0 O20 M20 ⊢
  have U := Kept.mk U0
  have O2 := Kept.mk O20
  have M2 := Kept.mk M20
  clear hw2 U0 O20 M20 c0 c1 c2 f2 r0 q0 O1 M1 H1
  have hsz : base ≤ w2.heap.size := by have := M2.out.size; omega
  have c1 := U.out.c1
  have q1 := (U.out.q.cell hD).trans (by rw [HM.out])
  have fq := U.out.q.frozen D
  have lB := U.out.lb
  have lq := U.out.q.lt
  have hrow : ∀ j, (Value.slice a m c).ownBlock = some j → base ≤ j := fun j e => (O2.out.lt j e).1
  have HR2 := Kept.mk hrow
  clear hrow
  go_region_law (refine step_append_lies _ rfl (.tmp 68) (.tmp 74) 56 rfl base 43 i0 _ 4 32 Try.underlying56 KI.out KZ0.out KZ1.out KZ2.out rfl (by decide) (.slice a m c) m xs (by simp [Act.eval]) (O2.out.alloc _).drew ⟨w2.heap.size, 0, none⟩ 1 1 (txn k b R v) (by simp [Act.eval]) rfl (four_new w2 _ _ _ _ _) (by simp [txn, Value.oneCell']) (by omega) (by unfold maxLen; omega) (by omega) (by simp; omega) _ rfl ?_; intro g cap w3 own3 grow3 hat hlt; have N3 := Kept.mk ((M2.out.alloc (by omega) (.cells #[.int .i64 k, .bool b, .int .i64 (R : Int), .int .u32 v] 43)).drew.grown grow3 (by simp; omega) (fun j e => by have := HR2.out j e; omega)); have U3 := Kept.mk (BusAt.grown (base := base) (U.out.alloc (.cells #[.int .i64 k, .bool b, .int .i64 (R : Int), .int .u32 v] 43)).drew grow3 HR2.out b1 b2 b3); have c1' := U3.out.c1; have fq' := U3.out.q.frozen D; have q1' := U3.out.q.cell hD; have Z3 := Kept.mk own3; clear own3 grow3)
  all_goals go_wp2_with fail
  all_goals have hg := (Z3.out.lt g rfl).1
  all_goals have KO := Kept.mk (Z3.out.kept (grown_setCell w3 ⟨gw, D, none⟩ (.slice (some ⟨g, 0, none⟩) (m + 1) cap)) (Or.inr (by simp [Value.ownBlock]; omega)))
  all_goals go_ret2
  all_goals exact ⟨_, cap, g, rfl, rfl, N3.out.setCell (by dsimp only; omega) _, U3.out.setQueue D _, KO.out⟩

set_option maxRecDepth 100000 in
set_option maxHeartbeats 2000000 in
theorem post_grows {w : World} {B gr gw n base B0 : Nat} {rs : Nat → Int} {qs : Nat → Value} {k : Int} (h : BusAt w B gr gw n rs qs k) (b1 : B < base) (b2 : gr < base) (b3 : gw < base) (b4 : base ≤ w.heap.size) (b5 : B0 ≤ B) (b7 : B0 ≤ gw)
    (W D R : Nat) (b : Bool) (v r : Int) (hW : W < 4294967296) (hs : SplitR W (D : Int) (R : Int)) (hD : D < n) (hr : rs D = r) (hq : (R : Int) < r) (k0 : 0 ≤ k) (k1 : k ≤ 1000) {qb off m : Nat} {xs : List Value} (hm : qs D = .slice (some ⟨qb, off, none⟩) m m) (h4 : m < 4) (hl : xs.length = m * 4) (hb : qb < w.heap.size) (hbb : base ≤ qb) (ho : ∀ j u, xs[j]? = some u → w.cell? ⟨qb, off + j, none⟩ = some u) :
    Calls Try.prog 13 #[.pointer (some ⟨B, 0, none⟩), .int .u32 (W : Int), .bool b, .int .u32 v] w (PostL w B gr gw n base B0 rs qs k D m (xs ++ txn k b R v)) := by
  obtain ⟨i0, hi, hz0, hz1, hz2⟩ := info_parts info43
  have KI := Kept.mk hi
  have KZ0 := Kept.mk hz0
  have KZ1 := Kept.mk hz1
  have KZ2 := Kept.mk hz2
  have H := Kept.mk h
  have HS := Kept.mk hs
  have HW := Kept.mk hW
  have HR := Kept.mk hr
  have HM := Kept.mk hm
  have HO := Kept.mk ho
  clear h hs hW hr hm ho hi hz0 hz1 hz2
  go_enter Try.func13, Try.ntmps13
  go_wp2_with fail
  refine (split_is _ HW.out rfl HS.out).mono ?_; rintro e w1 ⟨rfl, m1⟩
  have H1 := Kept.mk (H.out.mild m1)
  have M1 := Kept.mk m1.below
  have O1 := Kept.mk (fun j u hj => (m1.cell (p := ⟨qb, off + j, none⟩) hb).trans (HO.out j u hj))
  have hb1 : qb < w1.heap.size := Nat.lt_of_lt_of_le hb m1.below.size
  clear m1 H HO
  go_wp2_with fail
  refine (has_yes H1.out D hD).mono ?_; rintro e w' ⟨rfl, rfl⟩
  have c0 := H1.out.c0
  have c1 := H1.out.c1
  have c2 := H1.out.c2
  have f2 := H1.out.fb 2
  have r0 := (H1.out.r.cell hD).trans (by rw [HR.out])
  have q0 := (H1.out.q.cell hD).trans (by rw [HM.out])
  go_wp2_with fail
  have U0 := H1.out.setPosted (k + 1)
  have O20 : ∀ j u, xs[j]? = some u → (w'.setCell ⟨B, 2, none⟩ (.int .i64 (k + 1))).cell? ⟨qb, off + j, none⟩ = some u := fun j u hj => (World.cell?_setCell_other _ _ _ _ (fun e => by injection e with e; omega)).trans (O1.out j u hj)
  have hb20 : qb < (w'.setCell ⟨B, 2, none⟩ (.int .i64 (k + 1))).heap.size := by simpa using hb1
  have M20 : Below B0 w (w'.setCell ⟨B, 2, none⟩ (.int .i64 (k + 1))) := (M1.out.mono (by have := H1.out.lb; have := b4; omega)).setCell (by dsimp only; omega) _
  obtain ⟨w2, hw2⟩ : ∃ w2 : World, w'.setCell ⟨B, 2, none⟩ (.int .i64 (k + 1)) = w2 := ⟨_, rfl⟩
  rw [hw2] at U0 O20 M20 hb20 ⊢
  have U := Kept.mk U0
  have O2 := Kept.mk O20
  have M2 := Kept.mk M20
  clear hw2 U0 O20 M20 c0 c1 c2 f2 r0 q0 O1 M1 H1
  have hsz : base ≤ w2.heap.size := by have := M2.out.size; omega
  have c1 := U.out.c1
  have q1 := (U.out.q.cell hD).trans (by rw [HM.out])
  have fq := U.out.q.frozen D
  have lB := U.out.lb
  have lq := U.out.q.lt
  go_region_law (refine step_append_grows rfl (.tmp 68) (.tmp 74) 56 rfl 43 i0 _ 4 32 Try.underlying56 KI.out KZ0.out KZ1.out KZ2.out rfl (by decide) (some ⟨qb, off, none⟩) m m xs (by simp [Act.eval]) (fun e => by cases e) hl (fun ad e j u hj => (by injection e with e; subst e; rw [add_lit]; exact (World.cell?_alloc_lt w2 _ ⟨qb, off + j, none⟩ hb20).trans (O2.out j u hj))) ⟨w2.heap.size, 0, none⟩ 1 1 (txn k b R v) (by simp [Act.eval]) rfl (four_new w2 _ _ _ _ _) (by simp [txn, Value.oneCell']) (by omega) (by unfold maxLen; omega) (by omega) ?_; intro v' w3 own3 grow3; obtain ⟨g, cap, hv⟩ := Joins.ownsRow_form own3 (by omega); subst hv; have N3 := Kept.mk ((M2.out.alloc (by omega) (.cells #[.int .i64 k, .bool b, .int .i64 (R : Int), .int .u32 v] 43)).drew.grown grow3 (by simp; omega) (fun j e => by cases e)); have U3 := Kept.mk (BusAt.grown (base := base) (U.out.alloc (.cells #[.int .i64 k, .bool b, .int .i64 (R : Int), .int .u32 v] 43)).drew grow3 (fun j e => by cases e) b1 b2 b3); have c1' := U3.out.c1; have fq' := U3.out.q.frozen D; have q1' := U3.out.q.cell hD; have Z3 := Kept.mk (Joins.ownsRow_le own3 (show base ≤ _ by simp; omega)); clear own3 grow3)
  all_goals go_wp2_with fail
  all_goals have hg := (Z3.out.lt g rfl).1
  all_goals have KO := Kept.mk (Z3.out.kept (grown_setCell w3 ⟨gw, D, none⟩ (.slice (some ⟨g, 0, none⟩) (m + 1) cap)) (Or.inr (by simp [Value.ownBlock]; omega)))
  all_goals go_ret2
  all_goals exact ⟨_, cap, g, rfl, rfl, N3.out.setCell (by dsimp only; omega) _, U3.out.setQueue D _, KO.out⟩

end Go.Proofs.Ytdjjgloloahlgaa
