/- What bus.New makes of at most six numbers from 0 to 8: a bus in which nothing waits. For every such input. -/
import Derived.Test.YtdjjgloloahlgaaBusLaw
import Derived.Deep.OwnRows
import Derived.RegionTactic
import Derived.BigQuiet
namespace Go.Proofs.Ytdjjgloloahlgaa
open Go.RowKit

theorem info3 : (Try.prog.info? 3).map (fun i => (i.zero, i.size, i.bytes)) = some (some (.int .i64 0), 1, 8) := by kernel_rfl
theorem info56 : (Try.prog.info? 56).map (fun i => (i.zero, i.size, i.bytes)) = some (some (.slice none 0 0), 1, 24) := by kernel_rfl
theorem info43 : (Try.prog.info? 43).map (fun i => (i.zero, i.size, i.bytes)) = some (some (.agg #[.int .i64 0, .bool false, .int .i64 0, .int .u32 0]), 4, 32) := by kernel_rfl

/-- A bus in memory: its three fields, of each device how many registers it has, and the slice of what waits for it. -/
structure BusAt (w : World) (B gr gw n : Nat) (rs : Nat → Int) (qs : Nat → Value) (k : Int) : Prop where
  c0 : w.cell? ⟨B, 0, none⟩ = some (.slice (some ⟨gr, 0, none⟩) n n)
  c1 : w.cell? ⟨B, 1, none⟩ = some (.slice (some ⟨gw, 0, none⟩) n n)
  c2 : w.cell? ⟨B, 2, none⟩ = some (.int .i64 k)
  fb : ∀ o, w.frozen? ⟨B, o, none⟩ = false
  lb : B < w.heap.size
  r : w.rowIs gr 3 n (fun i => .int .i64 (rs i))
  q : w.rowIs gw 56 n qs
  ne1 : B ≠ gr
  ne2 : B ≠ gw
  ne3 : gr ≠ gw

theorem bus_new {w : World} {n : Nat} {B gr gw : Nat} (hr : w.rowIs gr 3 n (fun _ => .int .i64 0)) (hq : w.rowIs gw 56 n (fun _ => .slice none 0 0)) (h1 : gr ≠ gw) (hb : B = w.heap.size) :
    BusAt (w.alloc (.cells #[.slice (some ⟨gr, 0, none⟩) n n, .slice (some ⟨gw, 0, none⟩) n n, .int .i64 0] 51)) B gr gw n (fun _ => 0) (fun _ => .slice none 0 0) 0 := by
  subst hb
  have a := hr.lt
  have b := hq.lt
  exact ⟨by simp, by simp, by simp, fun o => by simp, by simp, hr.alloc _, hq.alloc _, by omega, by omega, h1⟩

theorem BusAt.drewN {w : World} {B gr gw n : Nat} {rs : Nat → Int} {qs : Nat → Value} {k : Int} (h : BusAt w B gr gw n rs qs k) (m : Nat) : BusAt (w.drewN m) B gr gw n rs qs k :=
  ⟨h.c0, h.c1, h.c2, h.fb, h.lb, h.r, h.q, h.ne1, h.ne2, h.ne3⟩

theorem BusAt.setReg {w : World} {B gr gw n : Nat} {rs : Nat → Int} {qs : Nat → Value} {k : Int} (h : BusAt w B gr gw n rs qs k) (i : Nat) (x : Int) :
    BusAt (w.setCell ⟨gr, i, none⟩ (.int .i64 x)) B gr gw n (fun j => if j = i then x else rs j) qs k := by
  have ne : ∀ o, (⟨gr, i, none⟩ : Addr) ≠ ⟨B, o, none⟩ := fun o e => h.ne1 (by injection e with e; exact e.symm)
  refine ⟨(World.cell?_setCell_other _ _ _ _ (ne 0)).trans h.c0, (World.cell?_setCell_other _ _ _ _ (ne 1)).trans h.c1, (World.cell?_setCell_other _ _ _ _ (ne 2)).trans h.c2, fun o => (World.frozen?_setCell _ _ _ _).trans (h.fb o), by simpa using h.lb, ?_, h.q.setOther (fun e => h.ne3 e.symm) _, h.ne1, h.ne2, h.ne3⟩
  exact (h.r.set i (.int .i64 x)).congr fun j _ => by by_cases c : j = i <;> simp [c]

theorem BusAt.congr {w : World} {B gr gw n : Nat} {rs rs' : Nat → Int} {qs : Nat → Value} {k : Int} (h : BusAt w B gr gw n rs qs k) (e : ∀ i, i < n → rs i = rs' i) : BusAt w B gr gw n rs' qs k :=
  ⟨h.c0, h.c1, h.c2, h.fb, h.lb, h.r.congr fun i hi => by rw [e i hi], h.q, h.ne1, h.ne2, h.ne3⟩

theorem BusAt.below {w w' : World} {B gr gw n : Nat} {rs : Nat → Int} {qs : Nat → Value} {k : Int} (h : BusAt w B gr gw n rs qs k) (m : Below w.heap.size w w') : BusAt w' B gr gw n rs qs k :=
  ⟨(m.cell (p := ⟨B, 0, none⟩) h.lb).trans h.c0, (m.cell (p := ⟨B, 1, none⟩) h.lb).trans h.c1, (m.cell (p := ⟨B, 2, none⟩) h.lb).trans h.c2, fun o => (m.frozen (p := ⟨B, o, none⟩) h.lb).trans (h.fb o), Nat.lt_of_lt_of_le h.lb m.size, h.r.of_block (m.block _ h.r.lt), h.q.of_block (m.block _ h.q.lt), h.ne1, h.ne2, h.ne3⟩

theorem BusAt.mild {w w' : World} {B gr gw n : Nat} {rs : Nat → Int} {qs : Nat → Value} {k : Int} (h : BusAt w B gr gw n rs qs k) (m : Mild w w') : BusAt w' B gr gw n rs qs k := h.below m.below

/-- Numbers in memory: at the head of a block that there is, or none. -/
structure Nums (w : World) (ao : Option Addr) (n : Nat) (f : Nat → Int) : Prop where
  some : n ≠ 0 → ∃ g, ao = some ⟨g, 0, none⟩ ∧ g < w.heap.size ∧ ∀ i, i < n → w.cell? ⟨g, i, none⟩ = some (.int .i64 (f i))

theorem Nums.below {w w' : World} {ao : Option Addr} {n : Nat} {f : Nat → Int} (h : Nums w ao n f) (b : Below w.heap.size w w') : Nums w' ao n f :=
  ⟨fun e => by obtain ⟨g, e1, l, c⟩ := h.some e; exact ⟨g, e1, Nat.lt_of_lt_of_le l b.size, fun i hi => (b.cell (p := ⟨g, i, none⟩) l).trans (c i hi)⟩⟩

def NewPost (w : World) (n : Nat) (f : Nat → Int) (e : Ending) (w' : World) : Prop :=
  ∃ B gr gw, e = .returned (.tuple #[.pointer (some ⟨B, 0, none⟩), .int .i64 0]) ∧ Below w.heap.size w w' ∧ BusAt w' B gr gw n f (fun _ => .slice none 0 0) 0 ∧ w.heap.size ≤ B ∧ w.heap.size ≤ gr ∧ w.heap.size ≤ gw

set_option maxRecDepth 100000 in
set_option maxHeartbeats 1000000 in
theorem new_some (g n cap : Nat) (f : Nat → Int) (w : World) (hn : n ≤ 6) (h0 : 0 < n) (hg : g < w.heap.size) (hc : Kept (∀ i, i < n → w.cell? ⟨g, i, none⟩ = some (.int .i64 (f i)))) (KL : Kept (∀ i, i < n → 0 ≤ f i ∧ f i ≤ 8)) :
    Calls Try.prog 10 #[.slice (some ⟨g, 0, none⟩) n cap] w (NewPost w n f) := by
  have hm3 := fun (W : World) => run_make_row' (P := Try.prog) 32 3 (.int .i64 0) 8 Try.underlying32 info3 rfl .i64 .i64 n (by omega) (by omega) W
  have hm56 := fun (W : World) => run_make_row' (P := Try.prog) 49 56 (.slice none 0 0) 24 Try.underlying49 info56 rfl .i64 .i64 n (by omega) (by omega) W
  go_enter Try.func10, Try.ntmps10
  go_wp2_with fail
  go_region
  · have bus : BusAt ((((w.alloc (.cells (madeCells #[.int .i64 0] n) 3)).alloc (.cells (madeCells #[.slice none 0 0] n) 56)).alloc (.cells #[.slice (some ⟨w.heap.size, 0, none⟩) n n, .slice (some ⟨w.heap.size + 1, 0, none⟩) n n, .int .i64 0] 51)).drew) (w.heap.size + 1 + 1) (w.heap.size) (w.heap.size + 1) n (fun _ => 0) (fun _ => .slice none 0 0) 0 := (bus_new (B := w.heap.size + 1 + 1) ((World.rowIs_made w (.int .i64 0) n 3).alloc _) (by simpa using World.rowIs_made (w.alloc (.cells (madeCells #[.int .i64 0] n) 3)) (.slice none 0 0) n 56) (by omega) (by simp)).drewN 1
    have bel : Below w.heap.size w ((((w.alloc (.cells (madeCells #[.int .i64 0] n) 3)).alloc (.cells (madeCells #[.slice none 0 0] n) 56)).alloc (.cells #[.slice (some ⟨w.heap.size, 0, none⟩) n n, .slice (some ⟨w.heap.size + 1, 0, none⟩) n n, .int .i64 0] 51)).drew) := ((((Below.refl _ w).alloc (Nat.le_refl _) _).alloc (by simp) _).alloc (by simp; omega) _).drew
    obtain ⟨w1, hw1⟩ : ∃ w1 : World, (((w.alloc (.cells (madeCells #[.int .i64 0] n) 3)).alloc (.cells (madeCells #[.slice none 0 0] n) 56)).alloc (.cells #[.slice (some ⟨w.heap.size, 0, none⟩) n n, .slice (some ⟨w.heap.size + 1, 0, none⟩) n n, .int .i64 0] 51)).drew = w1 := ⟨_, rfl⟩
    rw [hw1] at bus bel ⊢
    clear hw1 hm3 hm56
    have KU := Kept.mk bus
    have KE := Kept.mk bel
    clear bus bel
    go_wp2_with fail
    go_loopw [20] (fun i wr => ∃ k : Nat, k ≤ n ∧ i = .int .i64 k ∧ Below w.heap.size w wr ∧ BusAt wr (w.heap.size + 1 + 1) (w.heap.size) (w.heap.size + 1) n (fun i => if i < k then f i else 0) (fun _ => .slice none 0 0) 0) (fun i _ => n - (intOf i).toNat)
    case atStart => exact ⟨0, by omega, rfl, KE.out, KU.out.congr fun i _ => by simp⟩
    case round =>
      obtain ⟨k, hk, rfl, bel0, bus0⟩ := hrel
      have bel := Kept.mk bel0
      have bus := Kept.mk bus0
      clear bel0 bus0
      by_cases hlt : k < n
      · have q1 := (bel.out.cell (p := ⟨g, k, none⟩) hg).trans (hc.out k hlt)
        have q2 := bus.out.c0
        have q3 := bus.out.r.cell hlt
        have q4 := bus.out.r.frozen k
        have l0 := (KL.out k hlt).1
        have l1 := (KL.out k hlt).2
        obtain ⟨x, hx⟩ : ∃ x, f k = x := ⟨_, rfl⟩
        have HX := Kept.mk hx
        rw [hx] at q1 l0 l1
        clear hx
        go_wp2_with fail
        go_roundw
        case rel => exact ⟨k + 1, by omega, by go_num, bel.out.setCell (by dsimp only; omega) _, (bus.out.setReg k x).congr fun i hi => by
          rw [← HX.out]
          by_cases c : i = k
          · subst c; rw [if_pos rfl, if_pos (by omega)]
          · rw [if_neg c]; by_cases d : i < k
            · rw [if_pos d, if_pos (by omega)]
            · rw [if_neg d, if_neg (by omega)]⟩
        case measure => simp [intOf]; omega
      · go_wp2_with fail
        go_ret2
        exact ⟨_, _, _, rfl, bel.out, bus.out.congr fun i hi => by rw [if_pos (by omega)], by omega, by omega, by omega⟩
  · have bus : BusAt ((((w.alloc (.cells (madeCells #[.slice none 0 0] n) 56)).alloc (.cells (madeCells #[.int .i64 0] n) 3)).alloc (.cells #[.slice (some ⟨w.heap.size + 1, 0, none⟩) n n, .slice (some ⟨w.heap.size, 0, none⟩) n n, .int .i64 0] 51)).drew) (w.heap.size + 1 + 1) (w.heap.size + 1) (w.heap.size) n (fun _ => 0) (fun _ => .slice none 0 0) 0 := (bus_new (B := w.heap.size + 1 + 1) (by simpa using World.rowIs_made (w.alloc (.cells (madeCells #[.slice none 0 0] n) 56)) (.int .i64 0) n 3) ((World.rowIs_made w (.slice none 0 0) n 56).alloc _) (by omega) (by simp)).drewN 1
    have bel : Below w.heap.size w ((((w.alloc (.cells (madeCells #[.slice none 0 0] n) 56)).alloc (.cells (madeCells #[.int .i64 0] n) 3)).alloc (.cells #[.slice (some ⟨w.heap.size + 1, 0, none⟩) n n, .slice (some ⟨w.heap.size, 0, none⟩) n n, .int .i64 0] 51)).drew) := ((((Below.refl _ w).alloc (Nat.le_refl _) _).alloc (by simp) _).alloc (by simp; omega) _).drew
    obtain ⟨w1, hw1⟩ : ∃ w1 : World, (((w.alloc (.cells (madeCells #[.slice none 0 0] n) 56)).alloc (.cells (madeCells #[.int .i64 0] n) 3)).alloc (.cells #[.slice (some ⟨w.heap.size + 1, 0, none⟩) n n, .slice (some ⟨w.heap.size, 0, none⟩) n n, .int .i64 0] 51)).drew = w1 := ⟨_, rfl⟩
    rw [hw1] at bus bel ⊢
    clear hw1 hm3 hm56
    have KU := Kept.mk bus
    have KE := Kept.mk bel
    clear bus bel
    go_wp2_with fail
    go_loopw [20] (fun i wr => ∃ k : Nat, k ≤ n ∧ i = .int .i64 k ∧ Below w.heap.size w wr ∧ BusAt wr (w.heap.size + 1 + 1) (w.heap.size + 1) (w.heap.size) n (fun i => if i < k then f i else 0) (fun _ => .slice none 0 0) 0) (fun i _ => n - (intOf i).toNat)
    case atStart => exact ⟨0, by omega, rfl, KE.out, KU.out.congr fun i _ => by simp⟩
    case round =>
      obtain ⟨k, hk, rfl, bel0, bus0⟩ := hrel
      have bel := Kept.mk bel0
      have bus := Kept.mk bus0
      clear bel0 bus0
      by_cases hlt : k < n
      · have q1 := (bel.out.cell (p := ⟨g, k, none⟩) hg).trans (hc.out k hlt)
        have q2 := bus.out.c0
        have q3 := bus.out.r.cell hlt
        have q4 := bus.out.r.frozen k
        have l0 := (KL.out k hlt).1
        have l1 := (KL.out k hlt).2
        obtain ⟨x, hx⟩ : ∃ x, f k = x := ⟨_, rfl⟩
        have HX := Kept.mk hx
        rw [hx] at q1 l0 l1
        clear hx
        go_wp2_with fail
        go_roundw
        case rel => exact ⟨k + 1, by omega, by go_num, bel.out.setCell (by dsimp only; omega) _, (bus.out.setReg k x).congr fun i hi => by
          rw [← HX.out]
          by_cases c : i = k
          · subst c; rw [if_pos rfl, if_pos (by omega)]
          · rw [if_neg c]; by_cases d : i < k
            · rw [if_pos d, if_pos (by omega)]
            · rw [if_neg d, if_neg (by omega)]⟩
        case measure => simp [intOf]; omega
      · go_wp2_with fail
        go_ret2
        exact ⟨_, _, _, rfl, bel.out, bus.out.congr fun i hi => by rw [if_pos (by omega)], by omega, by omega, by omega⟩

set_option maxRecDepth 100000 in
set_option maxHeartbeats 1000000 in
theorem new_none (ao : Option Addr) (n cap : Nat) (f : Nat → Int) (w : World) (hn : n ≤ 6) (h0 : n ≤ 0) :
    Calls Try.prog 10 #[.slice ao n cap] w (NewPost w n f) := by
  have hm3 := fun (W : World) => run_make_row' (P := Try.prog) 32 3 (.int .i64 0) 8 Try.underlying32 info3 rfl .i64 .i64 n (by omega) (by omega) W
  have hm56 := fun (W : World) => run_make_row' (P := Try.prog) 49 56 (.slice none 0 0) 24 Try.underlying49 info56 rfl .i64 .i64 n (by omega) (by omega) W
  go_enter Try.func10, Try.ntmps10
  go_wp2_with fail
  go_region
  · have bus : BusAt ((((w.alloc (.cells (madeCells #[.int .i64 0] n) 3)).alloc (.cells (madeCells #[.slice none 0 0] n) 56)).alloc (.cells #[.slice (some ⟨w.heap.size, 0, none⟩) n n, .slice (some ⟨w.heap.size + 1, 0, none⟩) n n, .int .i64 0] 51)).drew) (w.heap.size + 1 + 1) (w.heap.size) (w.heap.size + 1) n (fun _ => 0) (fun _ => .slice none 0 0) 0 := (bus_new (B := w.heap.size + 1 + 1) ((World.rowIs_made w (.int .i64 0) n 3).alloc _) (by simpa using World.rowIs_made (w.alloc (.cells (madeCells #[.int .i64 0] n) 3)) (.slice none 0 0) n 56) (by omega) (by simp)).drewN 1
    have bel : Below w.heap.size w ((((w.alloc (.cells (madeCells #[.int .i64 0] n) 3)).alloc (.cells (madeCells #[.slice none 0 0] n) 56)).alloc (.cells #[.slice (some ⟨w.heap.size, 0, none⟩) n n, .slice (some ⟨w.heap.size + 1, 0, none⟩) n n, .int .i64 0] 51)).drew) := ((((Below.refl _ w).alloc (Nat.le_refl _) _).alloc (by simp) _).alloc (by simp; omega) _).drew
    obtain ⟨w1, hw1⟩ : ∃ w1 : World, (((w.alloc (.cells (madeCells #[.int .i64 0] n) 3)).alloc (.cells (madeCells #[.slice none 0 0] n) 56)).alloc (.cells #[.slice (some ⟨w.heap.size, 0, none⟩) n n, .slice (some ⟨w.heap.size + 1, 0, none⟩) n n, .int .i64 0] 51)).drew = w1 := ⟨_, rfl⟩
    rw [hw1] at bus bel ⊢
    clear hw1 hm3 hm56
    have KU := Kept.mk bus
    have KE := Kept.mk bel
    clear bus bel
    go_wp2_with fail
    go_loopw [20] (fun i wr => ∃ k : Nat, k ≤ n ∧ i = .int .i64 k ∧ Below w.heap.size w wr ∧ BusAt wr (w.heap.size + 1 + 1) (w.heap.size) (w.heap.size + 1) n (fun i => if i < k then f i else 0) (fun _ => .slice none 0 0) 0) (fun i _ => n - (intOf i).toNat)
    case atStart => exact ⟨0, by omega, rfl, KE.out, KU.out.congr fun i _ => by simp⟩
    case round =>
      obtain ⟨k, hk, rfl, bel0, bus0⟩ := hrel
      have bel := Kept.mk bel0
      have bus := Kept.mk bus0
      clear bel0 bus0
      go_wp2_with fail
      go_ret2
      exact ⟨_, _, _, rfl, bel.out, bus.out.congr fun i hi => by rw [if_pos (by omega)], by omega, by omega, by omega⟩
  · have bus : BusAt ((((w.alloc (.cells (madeCells #[.slice none 0 0] n) 56)).alloc (.cells (madeCells #[.int .i64 0] n) 3)).alloc (.cells #[.slice (some ⟨w.heap.size + 1, 0, none⟩) n n, .slice (some ⟨w.heap.size, 0, none⟩) n n, .int .i64 0] 51)).drew) (w.heap.size + 1 + 1) (w.heap.size + 1) (w.heap.size) n (fun _ => 0) (fun _ => .slice none 0 0) 0 := (bus_new (B := w.heap.size + 1 + 1) (by simpa using World.rowIs_made (w.alloc (.cells (madeCells #[.slice none 0 0] n) 56)) (.int .i64 0) n 3) ((World.rowIs_made w (.slice none 0 0) n 56).alloc _) (by omega) (by simp)).drewN 1
    have bel : Below w.heap.size w ((((w.alloc (.cells (madeCells #[.slice none 0 0] n) 56)).alloc (.cells (madeCells #[.int .i64 0] n) 3)).alloc (.cells #[.slice (some ⟨w.heap.size + 1, 0, none⟩) n n, .slice (some ⟨w.heap.size, 0, none⟩) n n, .int .i64 0] 51)).drew) := ((((Below.refl _ w).alloc (Nat.le_refl _) _).alloc (by simp) _).alloc (by simp; omega) _).drew
    obtain ⟨w1, hw1⟩ : ∃ w1 : World, (((w.alloc (.cells (madeCells #[.slice none 0 0] n) 56)).alloc (.cells (madeCells #[.int .i64 0] n) 3)).alloc (.cells #[.slice (some ⟨w.heap.size + 1, 0, none⟩) n n, .slice (some ⟨w.heap.size, 0, none⟩) n n, .int .i64 0] 51)).drew = w1 := ⟨_, rfl⟩
    rw [hw1] at bus bel ⊢
    clear hw1 hm3 hm56
    have KU := Kept.mk bus
    have KE := Kept.mk bel
    clear bus bel
    go_wp2_with fail
    go_loopw [20] (fun i wr => ∃ k : Nat, k ≤ n ∧ i = .int .i64 k ∧ Below w.heap.size w wr ∧ BusAt wr (w.heap.size + 1 + 1) (w.heap.size + 1) (w.heap.size) n (fun i => if i < k then f i else 0) (fun _ => .slice none 0 0) 0) (fun i _ => n - (intOf i).toNat)
    case atStart => exact ⟨0, by omega, rfl, KE.out, KU.out.congr fun i _ => by simp⟩
    case round =>
      obtain ⟨k, hk, rfl, bel0, bus0⟩ := hrel
      have bel := Kept.mk bel0
      have bus := Kept.mk bus0
      clear bel0 bus0
      go_wp2_with fail
      go_ret2
      exact ⟨_, _, _, rfl, bel.out, bus.out.congr fun i hi => by rw [if_pos (by omega)], by omega, by omega, by omega⟩

theorem new_any (ao : Option Addr) (n cap : Nat) (f : Nat → Int) (w : World) (hn : n ≤ 6) (src : Nums w ao n f) (lo : ∀ i, i < n → 0 ≤ f i ∧ f i ≤ 8) :
    Calls Try.prog 10 #[.slice ao n cap] w (NewPost w n f) := by
  by_cases h0 : n = 0
  · exact new_none ao n cap f w hn (by omega)
  · obtain ⟨g, rfl, hg, hc⟩ := src.some h0
    exact new_some g n cap f w hn (by omega) hg ⟨hc⟩ ⟨lo⟩

end Go.Proofs.Ytdjjgloloahlgaa
