/- What Take hands back, and leaves. For every bus in memory. -/
import Derived.Test.YtdjjgloloahlgaaBusPost
namespace Go.Proofs.Ytdjjgloloahlgaa
open Go.RowKit

abbrev txnE (id : Int) (b : Bool) (r v : Int) (ok : Bool) : Ending := .returned (.tuple #[.agg #[.int .i64 id, .bool b, .int .i64 r, .int .u32 v], .bool ok])

theorem take_none {w : World} {B gr gw n : Nat} {rs : Nat → Int} {qs : Nat → Value} {k : Int} (h : BusAt w B gr gw n rs qs k) (D : Nat) (hD : D < n) {a : Option Addr} {m c : Nat} (hq : qs D = .slice a m c) (hm : m ≤ 0) :
    Calls Try.prog 14 #[.pointer (some ⟨B, 0, none⟩), .int .i64 (D : Int)] w fun e w' => e = txnE 0 false 0 0 false ∧ Mild w w' := by
  obtain rfl : m = 0 := by omega
  have H := Kept.mk (h.alloc (.cells #[.int .i64 0, .bool false, .int .i64 0, .int .u32 0] 43))
  have HM := Kept.mk hq
  clear h hq
  go_enter Try.func14, Try.ntmps14
  go_wp2_with fail
  refine (has_yes H.out D hD).mono ?_; rintro e w' ⟨rfl, rfl⟩
  have c1 := H.out.c1
  have q1 := (H.out.q.cell hD).trans (by rw [HM.out])
  go_wp2_with fail
  refine bodyPost_ret (v := .tuple #[.agg #[.int .i64 0, .bool false, .int .i64 0, .int .u32 0], .bool false]) (by simp [results, Try.results14, go_sem]) rfl ⟨rfl, ?_⟩
  exact (Mild.refl _).alloc _ _

def TookP (w : World) (B gr gw n B0 : Nat) (rs : Nat → Int) (qs : Nat → Value) (k : Int) (D : Nat) (v : Value) (w' : World) : Prop :=
  Below B0 w w' ∧ BusAt w' B gr gw n rs (fun j => if j = D then v else qs j) k ∧ w.heap.size ≤ w'.heap.size ∧ ∀ p : Addr, p.block < w.heap.size → p.block ≠ gw → w'.cell? p = w.cell? p

theorem BusAt.setFar {w : World} {B gr gw n : Nat} {rs : Nat → Int} {qs : Nat → Value} {k : Int} (h : BusAt w B gr gw n rs qs k) {p : Addr} (h1 : p.block ≠ B) (h2 : p.block ≠ gr) (h3 : p.block ≠ gw) (x : Value) : BusAt (w.setCell p x) B gr gw n rs qs k := by
  have ne : ∀ o, p ≠ ⟨B, o, none⟩ := fun o e => h1 (by rw [e])
  exact ⟨(World.cell?_setCell_other _ _ _ _ (ne 0)).trans h.c0, (World.cell?_setCell_other _ _ _ _ (ne 1)).trans h.c1, (World.cell?_setCell_other _ _ _ _ (ne 2)).trans h.c2, fun o => (World.frozen?_setCell _ _ _ _).trans (h.fb o), by simpa using h.lb, h.r.setOther (fun e => h2 e.symm) _, h.q.setOther (fun e => h3 e.symm) _, h.ne1, h.ne2, h.ne3⟩

theorem TookP.set {w w' : World} {B gr gw n B0 : Nat} {rs : Nat → Int} {qs : Nat → Value} {k : Int} {D : Nat} {v : Value} (h : TookP w B gr gw n B0 rs qs k D v w') (b5 : B0 ≤ w.heap.size) (lB : B < w.heap.size) (lr : gr < w.heap.size) (lw : gw < w.heap.size) (o : Nat) (x : Value) :
    TookP w B gr gw n B0 rs qs k D v (w'.setCell ⟨w.heap.size, o, none⟩ x) :=
  ⟨h.1.setCell b5 _, h.2.1.setFar (by dsimp only; omega) (by dsimp only; omega) (by dsimp only; omega) _, by simpa using h.2.2.1, fun p hp hn => (World.cell?_setCell_other _ _ _ _ (fun e => by rw [← e] at hp; dsimp only at hp; omega)).trans (h.2.2.2 p hp hn)⟩

theorem TookP.drew {w w' : World} {B gr gw n B0 : Nat} {rs : Nat → Int} {qs : Nat → Value} {k : Int} {D : Nat} {v : Value} (h : TookP w B gr gw n B0 rs qs k D v w') : TookP w B gr gw n B0 rs qs k D v w'.drew :=
  ⟨h.1.drew, h.2.1.drew, h.2.2.1, h.2.2.2⟩

set_option maxRecDepth 100000 in
set_option maxHeartbeats 1000000 in
theorem take_more {w : World} {B gr gw n B0 base : Nat} {rs : Nat → Int} {qs : Nat → Value} {k : Int} (h : BusAt w B gr gw n rs qs k) (b3 : gw < base) (b5 : B0 ≤ w.heap.size) (b7 : B0 ≤ gw) (D : Nat) (hD : D < n) {g off m c : Nat} (hq : qs D = .slice (some ⟨g, off, none⟩) (m + 1) c) (hc : (m + 1) ≤ c) (hg : g < w.heap.size) (hgb : base ≤ g)
    (id r v : Int) (b : Bool) (x0 : w.cell? ⟨g, off, none⟩ = some (.int .i64 id)) (x1 : w.cell? ⟨g, off + 1, none⟩ = some (.bool b)) (x2 : w.cell? ⟨g, off + 2, none⟩ = some (.int .i64 r)) (x3 : w.cell? ⟨g, off + 3, none⟩ = some (.int .u32 v)) (hm : 0 < m) :
    Calls Try.prog 14 #[.pointer (some ⟨B, 0, none⟩), .int .i64 (D : Int)] w fun e w' => e = txnE id b r v true ∧ TookP w B gr gw n B0 rs qs k D (.slice (some ⟨g, off + 4, none⟩) m m) w' := by
  have H := Kept.mk (h.alloc (.cells #[.int .i64 0, .bool false, .int .i64 0, .int .u32 0] 43))
  have HM := Kept.mk hq
  have lw := h.q.lt
  have lr := h.r.lt
  have lB := h.lb
  have R0 := World.rowIs_alloc (w.setCell ⟨gw, D, none⟩ (.slice (some ⟨g, off + 4, none⟩) m m)) #[.int .i64 0, .bool false, .int .i64 0, .int .u32 0] 43 (fun i => (#[.int .i64 0, .bool false, .int .i64 0, .int .u32 0] : Array Value).getD i undef) (fun i hi => by simp [Array.getD, show i < 4 from hi])
  rw [World.size_setCell] at R0
  have ne : ∀ o, (⟨gw, D, none⟩ : Addr) ≠ ⟨g, off + o, none⟩ := fun o e => by injection e with e; omega
  have al : ∀ o, ((w.setCell ⟨gw, D, none⟩ (.slice (some ⟨g, off + 4, none⟩) m m)).alloc (.cells #[.int .i64 0, .bool false, .int .i64 0, .int .u32 0] 43)).cell? ⟨g, off + o, none⟩ = w.cell? ⟨g, off + o, none⟩ := fun o => (World.cell?_alloc_lt (w.setCell ⟨gw, D, none⟩ (.slice (some ⟨g, off + 4, none⟩) m m)) _ ⟨g, off + o, none⟩ (by simpa using hg)).trans (World.cell?_setCell_other _ _ _ _ (ne o))
  have U := Kept.mk ((h.setQueue D (.slice (some ⟨g, off + 4, none⟩) m m)).alloc (.cells #[.int .i64 0, .bool false, .int .i64 0, .int .u32 0] 43))
  have L0 : Below B0 w ((w.setCell ⟨gw, D, none⟩ (.slice (some ⟨g, off + 4, none⟩) m m)).alloc (.cells #[.int .i64 0, .bool false, .int .i64 0, .int .u32 0] 43)) := ((Below.refl B0 w).setCell (p := ⟨gw, D, none⟩) b7 (.slice (some ⟨g, off + 4, none⟩) m m)).alloc (by simpa using b5) _
  have L := Kept.mk L0
  have KY := Kept.mk (And.intro ((al 0).trans x0) (And.intro ((al 1).trans x1) (And.intro ((al 2).trans x2) ((al 3).trans x3))))
  have KR := Kept.mk R0
  have KF : Kept (∀ p : Addr, p.block < w.heap.size → p.block ≠ gw → ((w.setCell ⟨gw, D, none⟩ (.slice (some ⟨g, off + 4, none⟩) m m)).alloc (.cells #[.int .i64 0, .bool false, .int .i64 0, .int .u32 0] 43)).cell? p = w.cell? p) := ⟨fun p hp hn => (World.cell?_alloc_lt (w.setCell ⟨gw, D, none⟩ (.slice (some ⟨g, off + 4, none⟩) m m)) _ p (by simpa using hp)).trans (World.cell?_setCell_other _ _ _ _ (fun e => hn (by rw [← e])))⟩
  clear h hq R0 ne al x0 x1 x2 x3 L0
  go_enter Try.func14, Try.ntmps14
  go_wp2_with fail
  refine (has_yes H.out D hD).mono ?_; rintro e w' ⟨rfl, rfl⟩
  have c1 := H.out.c1
  have q1 := (H.out.q.cell hD).trans (by rw [HM.out])
  have fq := H.out.q.frozen D
  go_wp2_with fail
  go_region
  clear c1 q1 fq
  obtain ⟨w2, hw2⟩ : ∃ w2 : World, (w.setCell ⟨gw, D, none⟩ (.slice (some ⟨g, off + 4, none⟩) m m)).alloc (.cells #[.int .i64 0, .bool false, .int .i64 0, .int .u32 0] 43) = w2 := ⟨_, rfl⟩
  rw [hw2] at KY KR U L KF ⊢
  clear hw2 H
  have y0 : w2.cell? ⟨g, off, none⟩ = some (.int .i64 id) := KY.out.1
  have y1 := KY.out.2.1
  have y2 := KY.out.2.2.1
  have y3 := KY.out.2.2.2
  have z0 : w2.cell? ⟨w.heap.size, 0, none⟩ = some (.int .i64 0) := KR.out.cell (i := 0) (by simp)
  have z1 : w2.cell? ⟨w.heap.size, 1, none⟩ = some (.bool false) := KR.out.cell (i := 1) (by simp)
  have z2 : w2.cell? ⟨w.heap.size, 2, none⟩ = some (.int .i64 0) := KR.out.cell (i := 2) (by simp)
  have z3 : w2.cell? ⟨w.heap.size, 3, none⟩ = some (.int .u32 0) := KR.out.cell (i := 3) (by simp)
  have f0 := KR.out.frozen 0
  have f1 := KR.out.frozen 1
  have f2 := KR.out.frozen 2
  have f3 := KR.out.frozen 3
  go_wp2_with fail
  have o : ∀ i j : Nat, i ≠ j → (⟨w.heap.size, i, none⟩ : Addr) ≠ ⟨w.heap.size, j, none⟩ := fun i j h e => h (by injection e)
  have s0 := World.cell?_setCell_same w2 ⟨w.heap.size, 0, none⟩ (.int .i64 id) z0
  have s1 := World.cell?_setCell_same (w2.setCell ⟨w.heap.size, 0, none⟩ (.int .i64 id)) ⟨w.heap.size, 1, none⟩ (.bool b) ((World.cell?_setCell_other _ _ _ _ (o 0 1 (by omega))).trans z1)
  have s2 := World.cell?_setCell_same ((w2.setCell ⟨w.heap.size, 0, none⟩ (.int .i64 id)).setCell ⟨w.heap.size, 1, none⟩ (.bool b)) ⟨w.heap.size, 2, none⟩ (.int .i64 r) ((World.cell?_setCell_other _ _ _ _ (o 1 2 (by omega))).trans ((World.cell?_setCell_other _ _ _ _ (o 0 2 (by omega))).trans z2))
  have s3 := World.cell?_setCell_same (((w2.setCell ⟨w.heap.size, 0, none⟩ (.int .i64 id)).setCell ⟨w.heap.size, 1, none⟩ (.bool b)).setCell ⟨w.heap.size, 2, none⟩ (.int .i64 r)) ⟨w.heap.size, 3, none⟩ (.int .u32 v) ((World.cell?_setCell_other _ _ _ _ (o 2 3 (by omega))).trans ((World.cell?_setCell_other _ _ _ _ (o 1 3 (by omega))).trans ((World.cell?_setCell_other _ _ _ _ (o 0 3 (by omega))).trans z3)))
  refine bodyPost_ret (v := .tuple #[.agg #[.int .i64 id, .bool b, .int .i64 r, .int .u32 v], .bool true]) (by simp [results, Try.results14, go_sem, s0, s1, s2, s3]) rfl ⟨rfl, ?_⟩
  clear s0 s1 s2 s3 o y0 y1 y2 y3 z0 z1 z2 z3 f0 f1 f2 f3
  have T : TookP w B gr gw n B0 rs qs k D (.slice (some ⟨g, off + 4, none⟩) m m) w2 := ⟨L.out, U.out, L.out.size, KF.out⟩
  exact ((((T.set b5 lB lr lw 0 _).set b5 lB lr lw 1 _).set b5 lB lr lw 2 _).set b5 lB lr lw 3 _).drew

set_option maxRecDepth 100000 in
set_option maxHeartbeats 1000000 in
theorem take_last {w : World} {B gr gw n B0 base : Nat} {rs : Nat → Int} {qs : Nat → Value} {k : Int} (h : BusAt w B gr gw n rs qs k) (b3 : gw < base) (b5 : B0 ≤ w.heap.size) (b7 : B0 ≤ gw) (D : Nat) (hD : D < n) {g off c : Nat} (hq : qs D = .slice (some ⟨g, off, none⟩) 1 c) (hc : 1 ≤ c) (hc2 : c ≤ 9223372036854775807) (hg : g < w.heap.size) (hgb : base ≤ g)
    (id r v : Int) (b : Bool) (x0 : w.cell? ⟨g, off, none⟩ = some (.int .i64 id)) (x1 : w.cell? ⟨g, off + 1, none⟩ = some (.bool b)) (x2 : w.cell? ⟨g, off + 2, none⟩ = some (.int .i64 r)) (x3 : w.cell? ⟨g, off + 3, none⟩ = some (.int .u32 v)) :
    Calls Try.prog 14 #[.pointer (some ⟨B, 0, none⟩), .int .i64 (D : Int)] w fun e w' => e = txnE id b r v true ∧ TookP w B gr gw n B0 rs qs k D (.slice (some ⟨g, off, none⟩) 0 0) w' := by
  have H := Kept.mk (h.alloc (.cells #[.int .i64 0, .bool false, .int .i64 0, .int .u32 0] 43))
  have HM := Kept.mk hq
  have lw := h.q.lt
  have lr := h.r.lt
  have lB := h.lb
  have R0 := World.rowIs_alloc (w.setCell ⟨gw, D, none⟩ (.slice (some ⟨g, off, none⟩) 0 0)) #[.int .i64 0, .bool false, .int .i64 0, .int .u32 0] 43 (fun i => (#[.int .i64 0, .bool false, .int .i64 0, .int .u32 0] : Array Value).getD i undef) (fun i hi => by simp [Array.getD, show i < 4 from hi])
  rw [World.size_setCell] at R0
  have ne : ∀ o, (⟨gw, D, none⟩ : Addr) ≠ ⟨g, off + o, none⟩ := fun o e => by injection e with e; omega
  have al : ∀ o, ((w.setCell ⟨gw, D, none⟩ (.slice (some ⟨g, off, none⟩) 0 0)).alloc (.cells #[.int .i64 0, .bool false, .int .i64 0, .int .u32 0] 43)).cell? ⟨g, off + o, none⟩ = w.cell? ⟨g, off + o, none⟩ := fun o => (World.cell?_alloc_lt (w.setCell ⟨gw, D, none⟩ (.slice (some ⟨g, off, none⟩) 0 0)) _ ⟨g, off + o, none⟩ (by simpa using hg)).trans (World.cell?_setCell_other _ _ _ _ (ne o))
  have U := Kept.mk ((h.setQueue D (.slice (some ⟨g, off, none⟩) 0 0)).alloc (.cells #[.int .i64 0, .bool false, .int .i64 0, .int .u32 0] 43))
  have L0 : Below B0 w ((w.setCell ⟨gw, D, none⟩ (.slice (some ⟨g, off, none⟩) 0 0)).alloc (.cells #[.int .i64 0, .bool false, .int .i64 0, .int .u32 0] 43)) := ((Below.refl B0 w).setCell (p := ⟨gw, D, none⟩) b7 (.slice (some ⟨g, off, none⟩) 0 0)).alloc (by simpa using b5) _
  have L := Kept.mk L0
  have KY := Kept.mk (And.intro ((al 0).trans x0) (And.intro ((al 1).trans x1) (And.intro ((al 2).trans x2) ((al 3).trans x3))))
  have KR := Kept.mk R0
  have KF : Kept (∀ p : Addr, p.block < w.heap.size → p.block ≠ gw → ((w.setCell ⟨gw, D, none⟩ (.slice (some ⟨g, off, none⟩) 0 0)).alloc (.cells #[.int .i64 0, .bool false, .int .i64 0, .int .u32 0] 43)).cell? p = w.cell? p) := ⟨fun p hp hn => (World.cell?_alloc_lt (w.setCell ⟨gw, D, none⟩ (.slice (some ⟨g, off, none⟩) 0 0)) _ p (by simpa using hp)).trans (World.cell?_setCell_other _ _ _ _ (fun e => hn (by rw [← e])))⟩
  clear h hq R0 ne al x0 x1 x2 x3 L0
  go_enter Try.func14, Try.ntmps14
  go_wp2_with fail
  refine (has_yes H.out D hD).mono ?_; rintro e w' ⟨rfl, rfl⟩
  have c1 := H.out.c1
  have q1 := (H.out.q.cell hD).trans (by rw [HM.out])
  have fq := H.out.q.frozen D
  go_wp2_with fail
  go_region
  clear c1 q1 fq
  obtain ⟨w2, hw2⟩ : ∃ w2 : World, (w.setCell ⟨gw, D, none⟩ (.slice (some ⟨g, off, none⟩) 0 0)).alloc (.cells #[.int .i64 0, .bool false, .int .i64 0, .int .u32 0] 43) = w2 := ⟨_, rfl⟩
  rw [hw2] at KY KR U L KF ⊢
  clear hw2 H
  have y0 : w2.cell? ⟨g, off, none⟩ = some (.int .i64 id) := KY.out.1
  have y1 := KY.out.2.1
  have y2 := KY.out.2.2.1
  have y3 := KY.out.2.2.2
  have z0 : w2.cell? ⟨w.heap.size, 0, none⟩ = some (.int .i64 0) := KR.out.cell (i := 0) (by simp)
  have z1 : w2.cell? ⟨w.heap.size, 1, none⟩ = some (.bool false) := KR.out.cell (i := 1) (by simp)
  have z2 : w2.cell? ⟨w.heap.size, 2, none⟩ = some (.int .i64 0) := KR.out.cell (i := 2) (by simp)
  have z3 : w2.cell? ⟨w.heap.size, 3, none⟩ = some (.int .u32 0) := KR.out.cell (i := 3) (by simp)
  have f0 := KR.out.frozen 0
  have f1 := KR.out.frozen 1
  have f2 := KR.out.frozen 2
  have f3 := KR.out.frozen 3
  go_wp2_with fail
  have o : ∀ i j : Nat, i ≠ j → (⟨w.heap.size, i, none⟩ : Addr) ≠ ⟨w.heap.size, j, none⟩ := fun i j h e => h (by injection e)
  have s0 := World.cell?_setCell_same w2 ⟨w.heap.size, 0, none⟩ (.int .i64 id) z0
  have s1 := World.cell?_setCell_same (w2.setCell ⟨w.heap.size, 0, none⟩ (.int .i64 id)) ⟨w.heap.size, 1, none⟩ (.bool b) ((World.cell?_setCell_other _ _ _ _ (o 0 1 (by omega))).trans z1)
  have s2 := World.cell?_setCell_same ((w2.setCell ⟨w.heap.size, 0, none⟩ (.int .i64 id)).setCell ⟨w.heap.size, 1, none⟩ (.bool b)) ⟨w.heap.size, 2, none⟩ (.int .i64 r) ((World.cell?_setCell_other _ _ _ _ (o 1 2 (by omega))).trans ((World.cell?_setCell_other _ _ _ _ (o 0 2 (by omega))).trans z2))
  have s3 := World.cell?_setCell_same (((w2.setCell ⟨w.heap.size, 0, none⟩ (.int .i64 id)).setCell ⟨w.heap.size, 1, none⟩ (.bool b)).setCell ⟨w.heap.size, 2, none⟩ (.int .i64 r)) ⟨w.heap.size, 3, none⟩ (.int .u32 v) ((World.cell?_setCell_other _ _ _ _ (o 2 3 (by omega))).trans ((World.cell?_setCell_other _ _ _ _ (o 1 3 (by omega))).trans ((World.cell?_setCell_other _ _ _ _ (o 0 3 (by omega))).trans z3)))
  refine bodyPost_ret (v := .tuple #[.agg #[.int .i64 id, .bool b, .int .i64 r, .int .u32 v], .bool true]) (by simp [results, Try.results14, go_sem, s0, s1, s2, s3]) rfl ⟨rfl, ?_⟩
  clear s0 s1 s2 s3 o y0 y1 y2 y3 z0 z1 z2 z3 f0 f1 f2 f3
  have T : TookP w B gr gw n B0 rs qs k D (.slice (some ⟨g, off, none⟩) 0 0) w2 := ⟨L.out, U.out, L.out.size, KF.out⟩
  exact ((((T.set b5 lB lr lw 0 _).set b5 lB lr lw 1 _).set b5 lB lr lw 2 _).set b5 lB lr lw 3 _).drew

end Go.Proofs.Ytdjjgloloahlgaa
