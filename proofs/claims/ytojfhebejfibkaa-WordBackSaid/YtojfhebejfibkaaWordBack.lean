/- WordBack: for every input the law returns true, and each argument reads afterwards as it read before. No condition. -/
import Derived.Test.YtojfhebejfibkaaRows
import Derived.WalkKit
import Derived.ProofKit
import Derived.OpenShut
import Derived.ShutString
import Derived.ChangeOld
import Derived.Below
import Derived.Lib.SmallJoins
import Derived.Test.YtojfhebejfibkaaRow
import Derived.BigQuiet
namespace Go.Proofs.Ytojfhebejfibkaa.wordBack
open Go.ChangeShapes Go.WideShapes Go.ChangeAt Go.RowKit
open Go.ChangeMaps (open_string shut_string)
set_option linter.unusedVariables false

theorem own : ownKnob Try.prog.godebug = none := by kernel_rfl
theorem laidOut : laidOutB Try.prog = true := by kernel_rfl
theorem cells39 : Try.prog.cellsOf 39 = 4 := by kernel_rfl

theorem World.cell?_lt' {w : World} {a : Addr} {v : Value} (h : w.cell? a = some v) : a.block < w.heap.size := by
  by_cases c : a.block < w.heap.size
  · exact c
  · unfold World.cell? at h
    rw [Array.getElem?_eq_none (by omega)] at h
    simp at h

/-- What the walk is told of a slice of integers that came in: it is nil; or it leads to a row of cells. -/
def IsRow (k : IntKind) (w : World) (a : Option Addr) (len cap : Nat) (zs : List Int) : Prop :=
  (a = none ∧ len = 0 ∧ cap = 0 ∧ zs = []) ∨
  ∃ x, a = some x ∧ len ≤ cap ∧ cap ≤ maxLen ∧ zs.length = cap ∧ (∀ i, i < zs.length → w.cell? (x.add i) = some (.int k (zs.getD i 0))) ∧ (∀ n ∈ zs, (Lit.int k n).wf = true) ∧ ∀ i, i < zs.length → (x.add i).block < w.heap.size

theorem isRow_src {w : World} {a : Option Addr} {len cap : Nat} {z : List Int} (h : IsRow .u32 w a len cap z) : Src w a len cap ((z.take len).map (Value.int .u32)) := by
  rcases h with ⟨rfl, rfl, rfl, rfl⟩ | ⟨x, rfl, h1, h2, h3, h4, h5, h6⟩
  · exact ⟨fun _ => ⟨rfl, rfl⟩, rfl, fun ad e => (by cases e), fun ad e => (by cases e), fun u hu => (by simp at hu)⟩
  · refine ⟨fun e => (by cases e), by simp; omega, ?_, ?_, fun u hu => ?_⟩
    · intro ad e n
      injection e with e; subst e
      have := h6 0 (by omega)
      simpa [Addr.add] using this
    · intro ad e j u hj
      injection e with e; subst e
      rw [List.getElem?_map, List.getElem?_take] at hj
      by_cases c : j < len
      · rw [if_pos c] at hj
        have hz : j < z.length := by omega
        rw [List.getElem?_eq_getElem hz] at hj
        simp at hj
        rw [h4 j hz, ← hj]
        simp [List.getD, hz]
      · rw [if_neg c] at hj; simp at hj
    · obtain ⟨n, _, rfl⟩ := List.mem_map.1 hu
      rfl

/-- The cells of a list that is not empty: their block, and what each holds. -/
theorem isRow_cells {w : World} {a : Option Addr} {len cap : Nat} {z : List Int} (h : IsRow .u32 w a len cap z) (hl : len ≠ 0) :
    ∃ b off, a = some ⟨b, off, none⟩ ∧ b < w.heap.size ∧ len ≤ cap ∧ ∀ j, j < len → w.cell? ⟨b, off + j, none⟩ = some (.int .u32 (z.getD j 0)) := by
  rcases h with ⟨rfl, rfl, rfl, rfl⟩ | ⟨x, rfl, h1, h2, h3, h4, h5, h6⟩
  · exact absurd rfl hl
  · obtain ⟨b, off, spot⟩ := x
    have hc := h4 0 (by omega)
    have hspot : spot = none := by simpa [Addr.add] using World.cell?_spot hc
    subst hspot
    refine ⟨b, off, rfl, by simpa [Addr.add] using h6 0 (by omega), h1, fun j hj => ?_⟩
    have := h4 j (by omega)
    unfold Addr.add at this
    by_cases c : j = 0
    · subst c; simpa using this
    · simpa [c] using this

set_option maxRecDepth 100000 in
set_option maxHeartbeats 2000000 in
theorem coreYSA (W : Nat) (S V : Int) (len cap : Nat) (z : List Int) (w : World) (A B C D R : Nat) (ha : A ≤ 255) (hb : B ≤ 3) (hc : C ≤ 255) (hd : D ≤ 1023) (hR : Kept (A + 256 * B + 1024 * C + 262144 * D = R)) (hRl : R < 268435456) (u1 : Kept (R % 256 = A)) (u2 : Kept (R / 256 % 4 = B)) (u3 : Kept (R / 1024 % 256 = C)) (u4 : Kept (R / 262144 = D)) (hW : W < 268435456) (E F G H : Nat) (he : E ≤ 255) (hf : F ≤ 3) (hg : G ≤ 255) (hh : H ≤ 1023) (v1 : Kept (W % 256 = E)) (v2 : Kept (W / 256 % 4 = F)) (v3 : Kept (W / 1024 % 256 = G)) (v4 : Kept (W / 262144 = H)) (v5 : Kept (E + 256 * F + 1024 * G + 262144 * H = W)) (b off : Nat) (hb0 : b < w.heap.size) (hl0 : 0 < len) (hlc : len ≤ cap) (hcell : Kept (∀ j, j < len → w.cell? ⟨b, off + j, none⟩ = some (.int .u32 (z.getD j 0)))) (KS : Kept (Src w (some ⟨b, off, none⟩) len cap ((z.take len).map (Value.int .u32)))) (hlen : len ≤ 500) (hV : Kept (S % 4294967296 = V)) (hSV : Kept (wrap32 V = S)) (s0 : -2147483648 ≤ S) (s1 : S ≤ 2147483647) (zl : Kept (len ≤ z.length)) :
    Calls Try.prog 12 #[.agg #[.int .i64 A, .int .i64 B, .int .i64 C, .int .i64 D], .int .u32 W, .int .i32 S, .slice (some ⟨b, off, none⟩) len cap] w fun e w' => e = .returned (.bool true) ∧ Below w.heap.size w w' := by
  have hs28 : ((W : Int) / 268435456 == 0) = true := by simp; omega
  go_enter Try.func12, Try.ntmps12
  go_wp2_with fail
  refine (shownW_any _).mono ?_; rintro z' w1 ⟨rfl, m1⟩
  have H1 := (Four.new w (.int .i64 A) (.int .i64 B) (.int .i64 C) (.int .i64 D) 39).mild (by simp) m1
  have acc := ((Mild.refl w).alloc #[.int .i64 A, .int .i64 B, .int .i64 C, .int .i64 D] 39).trans m1
  have hl1 : w.heap.size < w1.heap.size := by have := m1.below.size; simp at this; omega
  clear m1
  have e0 := H1.c0
  have e1 := H1.c1
  have e2 := H1.c2
  have e3 := H1.c3
  have ef := H1.free
  go_wp2_with fail
  clear e0 e1 e2 e3 ef
  refine (pack_is A B C D R _ rfl rfl rfl rfl ha hb hc hd hR.out).mono ?_; rintro z' w2 ⟨rfl, m2⟩
  have H2 := H1.mild hl1 m2
  have acc := acc.trans m2
  have hl2 : w.heap.size < w2.heap.size := by have := m2.below.size; omega
  clear m2 H1
  go_wp2_with fail
  refine (unpack_is R A B C D _ rfl hRl u1.out u2.out u3.out u4.out).mono ?_; rintro z' w3 ⟨rfl, m3⟩
  have H3 := H2.mild hl2 m3
  have acc := acc.trans m3
  have hl3 : w.heap.size < w3.heap.size := by have := m3.below.size; omega
  clear m3 H2
  have e0 := H3.c0
  have e1 := H3.c1
  have e2 := H3.c2
  have e3 := H3.c3
  have ef := H3.free
  go_wp2_with fail
  clear e0 e1 e2 e3 ef
  have acc := acc.alloc #[.int .i64 A, .int .i64 B, .int .i64 C, .int .i64 D] 39
  refine (unpack_is W E F G H _ rfl hW v1.out v2.out v3.out v4.out).mono ?_; rintro z' w4 ⟨rfl, m4⟩
  have acc := acc.trans m4
  clear m4
  go_wp2_with fail
  refine (pack_is E F G H W _ rfl rfl rfl rfl he hf hg hh v5.out).mono ?_; rintro z' w5 ⟨rfl, m5⟩
  have acc := (acc.alloc #[.int .i64 E, .int .i64 F, .int .i64 G, .int .i64 H] 39).trans m5
  clear m5
  go_wp2_with fail
  have bel := Kept.mk acc.below
  clear acc
  refine (answer_any W S V _ len cap _ _ (KS.out.below bel.out) (by omega) hV.out).mono ?_; rintro z' w6 ⟨g, cp, rfl, hr⟩
  have KO := Kept.mk hr.owns
  have KB := Kept.mk (bel.out.trans (hr.below.mono bel.out.size))
  clear hr bel
  have t0 : w6.cell? ⟨g, 0, none⟩ = some (.int .u32 W) := by rw [KO.out.cellAt 0 (by omega)]; rfl
  have t1 : w6.cell? ⟨g, 0 + 1, none⟩ = some (.int .u32 V) := by rw [KO.out.cellAt (0 + 1) (by omega)]; rfl
  go_wp2_with fail
  refine (status_long g 0 (len + 2) cp V S _ (by omega) t1 hSV.out).mono ?_; rintro z' w' ⟨rfl, rfl⟩
  go_wp2_with fail
  go_loopw [21] (fun i wr => ∃ k : Nat, k ≤ len ∧ i = .int .i64 k ∧ ∃ n, wr = w'.drewN n) (fun i _ => len - (intOf i).toNat)
  case atStart => exact ⟨0, by omega, rfl, 0, rfl⟩
  case round =>
    obtain ⟨k, hk, rfl, n, rfl⟩ := hrel
    by_cases hlt : k < len
    · have q1 : w'.cell? ⟨b, off + k, none⟩ = some (.int .u32 (z.getD k 0)) := by rw [KB.out.cell hb0]; exact hcell.out k hlt
      have q2 : w'.cell? ⟨g, k + 2, none⟩ = some (.int .u32 (z.getD k 0)) := by
        have hz := zl.out
        rw [KO.out.cellAt (k + 2) (by omega)]
        simp [hlt, List.getD, List.getElem?_eq_getElem (show k < z.length by omega)]
      obtain ⟨zk, hzk⟩ : ∃ x, z.getD k 0 = x := ⟨_, rfl⟩
      rw [hzk] at q1 q2
      clear hzk
      go_wp2_with fail
      go_quiet (fail)
      go_wp2_with fail
      go_roundw
      case rel => exact ⟨k + 1, by omega, by go_num, _, rfl⟩
      case measure => simp [intOf]; omega
    · go_wp2_with fail
      go_ret
      exact ⟨rfl, KB.out.trans ⟨rfl, rfl, rfl, Nat.le_refl _, fun _ _ => rfl⟩⟩

set_option maxRecDepth 100000 in
set_option maxHeartbeats 2000000 in
theorem coreYSE (W : Nat) (S V : Int) (len cap : Nat) (z : List Int) (w : World) (A B C D R : Nat) (ha : A ≤ 255) (hb : B ≤ 3) (hc : C ≤ 255) (hd : D ≤ 1023) (hR : Kept (A + 256 * B + 1024 * C + 262144 * D = R)) (hRl : R < 268435456) (u1 : Kept (R % 256 = A)) (u2 : Kept (R / 256 % 4 = B)) (u3 : Kept (R / 1024 % 256 = C)) (u4 : Kept (R / 262144 = D)) (hW : W < 268435456) (E F G H : Nat) (he : E ≤ 255) (hf : F ≤ 3) (hg : G ≤ 255) (hh : H ≤ 1023) (v1 : Kept (W % 256 = E)) (v2 : Kept (W / 256 % 4 = F)) (v3 : Kept (W / 1024 % 256 = G)) (v4 : Kept (W / 262144 = H)) (v5 : Kept (E + 256 * F + 1024 * G + 262144 * H = W)) (ao : Option Addr) (hl0 : len ≤ 0) (KS : Kept (Src w ao len cap ((z.take len).map (Value.int .u32)))) (hlen : len ≤ 500) (hV : Kept (S % 4294967296 = V)) (hSV : Kept (wrap32 V = S)) (s0 : -2147483648 ≤ S) (s1 : S ≤ 2147483647) :
    Calls Try.prog 12 #[.agg #[.int .i64 A, .int .i64 B, .int .i64 C, .int .i64 D], .int .u32 W, .int .i32 S, .slice ao len cap] w fun e w' => e = .returned (.bool true) ∧ Below w.heap.size w w' := by
  have hs28 : ((W : Int) / 268435456 == 0) = true := by simp; omega
  go_enter Try.func12, Try.ntmps12
  go_wp2_with fail
  refine (shownW_any _).mono ?_; rintro z' w1 ⟨rfl, m1⟩
  have H1 := (Four.new w (.int .i64 A) (.int .i64 B) (.int .i64 C) (.int .i64 D) 39).mild (by simp) m1
  have acc := ((Mild.refl w).alloc #[.int .i64 A, .int .i64 B, .int .i64 C, .int .i64 D] 39).trans m1
  have hl1 : w.heap.size < w1.heap.size := by have := m1.below.size; simp at this; omega
  clear m1
  have e0 := H1.c0
  have e1 := H1.c1
  have e2 := H1.c2
  have e3 := H1.c3
  have ef := H1.free
  go_wp2_with fail
  clear e0 e1 e2 e3 ef
  refine (pack_is A B C D R _ rfl rfl rfl rfl ha hb hc hd hR.out).mono ?_; rintro z' w2 ⟨rfl, m2⟩
  have H2 := H1.mild hl1 m2
  have acc := acc.trans m2
  have hl2 : w.heap.size < w2.heap.size := by have := m2.below.size; omega
  clear m2 H1
  go_wp2_with fail
  refine (unpack_is R A B C D _ rfl hRl u1.out u2.out u3.out u4.out).mono ?_; rintro z' w3 ⟨rfl, m3⟩
  have H3 := H2.mild hl2 m3
  have acc := acc.trans m3
  have hl3 : w.heap.size < w3.heap.size := by have := m3.below.size; omega
  clear m3 H2
  have e0 := H3.c0
  have e1 := H3.c1
  have e2 := H3.c2
  have e3 := H3.c3
  have ef := H3.free
  go_wp2_with fail
  clear e0 e1 e2 e3 ef
  have acc := acc.alloc #[.int .i64 A, .int .i64 B, .int .i64 C, .int .i64 D] 39
  refine (unpack_is W E F G H _ rfl hW v1.out v2.out v3.out v4.out).mono ?_; rintro z' w4 ⟨rfl, m4⟩
  have acc := acc.trans m4
  clear m4
  go_wp2_with fail
  refine (pack_is E F G H W _ rfl rfl rfl rfl he hf hg hh v5.out).mono ?_; rintro z' w5 ⟨rfl, m5⟩
  have acc := (acc.alloc #[.int .i64 E, .int .i64 F, .int .i64 G, .int .i64 H] 39).trans m5
  clear m5
  go_wp2_with fail
  have bel := Kept.mk acc.below
  clear acc
  refine (answer_any W S V _ len cap _ _ (KS.out.below bel.out) (by omega) hV.out).mono ?_; rintro z' w6 ⟨g, cp, rfl, hr⟩
  have KO := Kept.mk hr.owns
  have KB := Kept.mk (bel.out.trans (hr.below.mono bel.out.size))
  clear hr bel
  have t0 : w6.cell? ⟨g, 0, none⟩ = some (.int .u32 W) := by rw [KO.out.cellAt 0 (by omega)]; rfl
  have t1 : w6.cell? ⟨g, 0 + 1, none⟩ = some (.int .u32 V) := by rw [KO.out.cellAt (0 + 1) (by omega)]; rfl
  go_wp2_with fail
  refine (status_long g 0 (len + 2) cp V S _ (by omega) t1 hSV.out).mono ?_; rintro z' w' ⟨rfl, rfl⟩
  go_wp2_with fail
  go_loopw [21] (fun i wr => ∃ k : Nat, k ≤ len ∧ i = .int .i64 k ∧ ∃ n, wr = w'.drewN n) (fun i _ => len - (intOf i).toNat)
  case atStart => exact ⟨0, by omega, rfl, 0, rfl⟩
  case round =>
    obtain ⟨k, hk, rfl, n, rfl⟩ := hrel
    go_wp2_with fail
    go_ret
    exact ⟨rfl, KB.out.trans ⟨rfl, rfl, rfl, Nat.le_refl _, fun _ _ => rfl⟩⟩

set_option maxRecDepth 100000 in
set_option maxHeartbeats 2000000 in
theorem coreYLA (W : Nat) (S V : Int) (len cap : Nat) (z : List Int) (w : World) (A B C D R : Nat) (ha : A ≤ 255) (hb : B ≤ 3) (hc : C ≤ 255) (hd : D ≤ 1023) (hR : Kept (A + 256 * B + 1024 * C + 262144 * D = R)) (hRl : R < 268435456) (u1 : Kept (R % 256 = A)) (u2 : Kept (R / 256 % 4 = B)) (u3 : Kept (R / 1024 % 256 = C)) (u4 : Kept (R / 262144 = D)) (hW : Kept (W < 4294967296)) (hW2 : 268435456 ≤ W) (hW3 : W ≤ 4294967295) (b off : Nat) (hb0 : b < w.heap.size) (hl0 : 0 < len) (hlc : len ≤ cap) (hcell : Kept (∀ j, j < len → w.cell? ⟨b, off + j, none⟩ = some (.int .u32 (z.getD j 0)))) (KS : Kept (Src w (some ⟨b, off, none⟩) len cap ((z.take len).map (Value.int .u32)))) (hlen : len ≤ 500) (hV : Kept (S % 4294967296 = V)) (hSV : Kept (wrap32 V = S)) (s0 : -2147483648 ≤ S) (s1 : S ≤ 2147483647) (zl : Kept (len ≤ z.length)) :
    Calls Try.prog 12 #[.agg #[.int .i64 A, .int .i64 B, .int .i64 C, .int .i64 D], .int .u32 W, .int .i32 S, .slice (some ⟨b, off, none⟩) len cap] w fun e w' => e = .returned (.bool true) ∧ Below w.heap.size w w' := by
  have hs28 : ((W : Int) / 268435456 == 0) = false := by simp; omega
  go_enter Try.func12, Try.ntmps12
  go_wp2_with fail
  refine (shownW_any _).mono ?_; rintro z' w1 ⟨rfl, m1⟩
  have H1 := (Four.new w (.int .i64 A) (.int .i64 B) (.int .i64 C) (.int .i64 D) 39).mild (by simp) m1
  have acc := ((Mild.refl w).alloc #[.int .i64 A, .int .i64 B, .int .i64 C, .int .i64 D] 39).trans m1
  have hl1 : w.heap.size < w1.heap.size := by have := m1.below.size; simp at this; omega
  clear m1
  have e0 := H1.c0
  have e1 := H1.c1
  have e2 := H1.c2
  have e3 := H1.c3
  have ef := H1.free
  go_wp2_with fail
  clear e0 e1 e2 e3 ef
  refine (pack_is A B C D R _ rfl rfl rfl rfl ha hb hc hd hR.out).mono ?_; rintro z' w2 ⟨rfl, m2⟩
  have H2 := H1.mild hl1 m2
  have acc := acc.trans m2
  have hl2 : w.heap.size < w2.heap.size := by have := m2.below.size; omega
  clear m2 H1
  go_wp2_with fail
  refine (unpack_is R A B C D _ rfl hRl u1.out u2.out u3.out u4.out).mono ?_; rintro z' w3 ⟨rfl, m3⟩
  have H3 := H2.mild hl2 m3
  have acc := acc.trans m3
  have hl3 : w.heap.size < w3.heap.size := by have := m3.below.size; omega
  clear m3 H2
  have e0 := H3.c0
  have e1 := H3.c1
  have e2 := H3.c2
  have e3 := H3.c3
  have ef := H3.free
  go_wp2_with fail
  clear e0 e1 e2 e3 ef
  have acc := acc.alloc #[.int .i64 A, .int .i64 B, .int .i64 C, .int .i64 D] 39
  refine (unpack_bad W _ hW.out hW2).mono ?_; rintro z' w4 ⟨rfl, m4⟩
  have acc := (acc.trans m4).alloc #[.int .i64 0, .int .i64 0, .int .i64 0, .int .i64 0] 39
  clear m4
  go_wp2_with fail
  have bel := Kept.mk acc.below
  clear acc
  refine (answer_any W S V _ len cap _ _ (KS.out.below bel.out) (by omega) hV.out).mono ?_; rintro z' w6 ⟨g, cp, rfl, hr⟩
  have KO := Kept.mk hr.owns
  have KB := Kept.mk (bel.out.trans (hr.below.mono bel.out.size))
  clear hr bel
  have t0 : w6.cell? ⟨g, 0, none⟩ = some (.int .u32 W) := by rw [KO.out.cellAt 0 (by omega)]; rfl
  have t1 : w6.cell? ⟨g, 0 + 1, none⟩ = some (.int .u32 V) := by rw [KO.out.cellAt (0 + 1) (by omega)]; rfl
  go_wp2_with fail
  refine (status_long g 0 (len + 2) cp V S _ (by omega) t1 hSV.out).mono ?_; rintro z' w' ⟨rfl, rfl⟩
  go_wp2_with fail
  go_loopw [21] (fun i wr => ∃ k : Nat, k ≤ len ∧ i = .int .i64 k ∧ ∃ n, wr = w'.drewN n) (fun i _ => len - (intOf i).toNat)
  case atStart => exact ⟨0, by omega, rfl, 0, rfl⟩
  case round =>
    obtain ⟨k, hk, rfl, n, rfl⟩ := hrel
    by_cases hlt : k < len
    · have q1 : w'.cell? ⟨b, off + k, none⟩ = some (.int .u32 (z.getD k 0)) := by rw [KB.out.cell hb0]; exact hcell.out k hlt
      have q2 : w'.cell? ⟨g, k + 2, none⟩ = some (.int .u32 (z.getD k 0)) := by
        have hz := zl.out
        rw [KO.out.cellAt (k + 2) (by omega)]
        simp [hlt, List.getD, List.getElem?_eq_getElem (show k < z.length by omega)]
      obtain ⟨zk, hzk⟩ : ∃ x, z.getD k 0 = x := ⟨_, rfl⟩
      rw [hzk] at q1 q2
      clear hzk
      go_wp2_with fail
      go_quiet (fail)
      go_wp2_with fail
      go_roundw
      case rel => exact ⟨k + 1, by omega, by go_num, _, rfl⟩
      case measure => simp [intOf]; omega
    · go_wp2_with fail
      go_ret
      exact ⟨rfl, KB.out.trans ⟨rfl, rfl, rfl, Nat.le_refl _, fun _ _ => rfl⟩⟩

set_option maxRecDepth 100000 in
set_option maxHeartbeats 2000000 in
theorem coreYLE (W : Nat) (S V : Int) (len cap : Nat) (z : List Int) (w : World) (A B C D R : Nat) (ha : A ≤ 255) (hb : B ≤ 3) (hc : C ≤ 255) (hd : D ≤ 1023) (hR : Kept (A + 256 * B + 1024 * C + 262144 * D = R)) (hRl : R < 268435456) (u1 : Kept (R % 256 = A)) (u2 : Kept (R / 256 % 4 = B)) (u3 : Kept (R / 1024 % 256 = C)) (u4 : Kept (R / 262144 = D)) (hW : Kept (W < 4294967296)) (hW2 : 268435456 ≤ W) (hW3 : W ≤ 4294967295) (ao : Option Addr) (hl0 : len ≤ 0) (KS : Kept (Src w ao len cap ((z.take len).map (Value.int .u32)))) (hlen : len ≤ 500) (hV : Kept (S % 4294967296 = V)) (hSV : Kept (wrap32 V = S)) (s0 : -2147483648 ≤ S) (s1 : S ≤ 2147483647) :
    Calls Try.prog 12 #[.agg #[.int .i64 A, .int .i64 B, .int .i64 C, .int .i64 D], .int .u32 W, .int .i32 S, .slice ao len cap] w fun e w' => e = .returned (.bool true) ∧ Below w.heap.size w w' := by
  have hs28 : ((W : Int) / 268435456 == 0) = false := by simp; omega
  go_enter Try.func12, Try.ntmps12
  go_wp2_with fail
  refine (shownW_any _).mono ?_; rintro z' w1 ⟨rfl, m1⟩
  have H1 := (Four.new w (.int .i64 A) (.int .i64 B) (.int .i64 C) (.int .i64 D) 39).mild (by simp) m1
  have acc := ((Mild.refl w).alloc #[.int .i64 A, .int .i64 B, .int .i64 C, .int .i64 D] 39).trans m1
  have hl1 : w.heap.size < w1.heap.size := by have := m1.below.size; simp at this; omega
  clear m1
  have e0 := H1.c0
  have e1 := H1.c1
  have e2 := H1.c2
  have e3 := H1.c3
  have ef := H1.free
  go_wp2_with fail
  clear e0 e1 e2 e3 ef
  refine (pack_is A B C D R _ rfl rfl rfl rfl ha hb hc hd hR.out).mono ?_; rintro z' w2 ⟨rfl, m2⟩
  have H2 := H1.mild hl1 m2
  have acc := acc.trans m2
  have hl2 : w.heap.size < w2.heap.size := by have := m2.below.size; omega
  clear m2 H1
  go_wp2_with fail
  refine (unpack_is R A B C D _ rfl hRl u1.out u2.out u3.out u4.out).mono ?_; rintro z' w3 ⟨rfl, m3⟩
  have H3 := H2.mild hl2 m3
  have acc := acc.trans m3
  have hl3 : w.heap.size < w3.heap.size := by have := m3.below.size; omega
  clear m3 H2
  have e0 := H3.c0
  have e1 := H3.c1
  have e2 := H3.c2
  have e3 := H3.c3
  have ef := H3.free
  go_wp2_with fail
  clear e0 e1 e2 e3 ef
  have acc := acc.alloc #[.int .i64 A, .int .i64 B, .int .i64 C, .int .i64 D] 39
  refine (unpack_bad W _ hW.out hW2).mono ?_; rintro z' w4 ⟨rfl, m4⟩
  have acc := (acc.trans m4).alloc #[.int .i64 0, .int .i64 0, .int .i64 0, .int .i64 0] 39
  clear m4
  go_wp2_with fail
  have bel := Kept.mk acc.below
  clear acc
  refine (answer_any W S V _ len cap _ _ (KS.out.below bel.out) (by omega) hV.out).mono ?_; rintro z' w6 ⟨g, cp, rfl, hr⟩
  have KO := Kept.mk hr.owns
  have KB := Kept.mk (bel.out.trans (hr.below.mono bel.out.size))
  clear hr bel
  have t0 : w6.cell? ⟨g, 0, none⟩ = some (.int .u32 W) := by rw [KO.out.cellAt 0 (by omega)]; rfl
  have t1 : w6.cell? ⟨g, 0 + 1, none⟩ = some (.int .u32 V) := by rw [KO.out.cellAt (0 + 1) (by omega)]; rfl
  go_wp2_with fail
  refine (status_long g 0 (len + 2) cp V S _ (by omega) t1 hSV.out).mono ?_; rintro z' w' ⟨rfl, rfl⟩
  go_wp2_with fail
  go_loopw [21] (fun i wr => ∃ k : Nat, k ≤ len ∧ i = .int .i64 k ∧ ∃ n, wr = w'.drewN n) (fun i _ => len - (intOf i).toNat)
  case atStart => exact ⟨0, by omega, rfl, 0, rfl⟩
  case round =>
    obtain ⟨k, hk, rfl, n, rfl⟩ := hrel
    go_wp2_with fail
    go_ret
    exact ⟨rfl, KB.out.trans ⟨rfl, rfl, rfl, Nat.le_refl _, fun _ _ => rfl⟩⟩

set_option maxRecDepth 100000 in
set_option maxHeartbeats 2000000 in
theorem coreNSA (W : Nat) (S V : Int) (len cap : Nat) (z : List Int) (w : World) (A B C D : Int) (hbad : Kept (¬ headOk A B C D)) (hW : W < 268435456) (E F G H : Nat) (he : E ≤ 255) (hf : F ≤ 3) (hg : G ≤ 255) (hh : H ≤ 1023) (v1 : Kept (W % 256 = E)) (v2 : Kept (W / 256 % 4 = F)) (v3 : Kept (W / 1024 % 256 = G)) (v4 : Kept (W / 262144 = H)) (v5 : Kept (E + 256 * F + 1024 * G + 262144 * H = W)) (b off : Nat) (hb0 : b < w.heap.size) (hl0 : 0 < len) (hlc : len ≤ cap) (hcell : Kept (∀ j, j < len → w.cell? ⟨b, off + j, none⟩ = some (.int .u32 (z.getD j 0)))) (KS : Kept (Src w (some ⟨b, off, none⟩) len cap ((z.take len).map (Value.int .u32)))) (hlen : len ≤ 500) (hV : Kept (S % 4294967296 = V)) (hSV : Kept (wrap32 V = S)) (s0 : -2147483648 ≤ S) (s1 : S ≤ 2147483647) (zl : Kept (len ≤ z.length)) :
    Calls Try.prog 12 #[.agg #[.int .i64 A, .int .i64 B, .int .i64 C, .int .i64 D], .int .u32 W, .int .i32 S, .slice (some ⟨b, off, none⟩) len cap] w fun e w' => e = .returned (.bool true) ∧ Below w.heap.size w w' := by
  have hs28 : ((W : Int) / 268435456 == 0) = true := by simp; omega
  go_enter Try.func12, Try.ntmps12
  go_wp2_with fail
  refine (shownW_any _).mono ?_; rintro z' w1 ⟨rfl, m1⟩
  have H1 := (Four.new w (.int .i64 A) (.int .i64 B) (.int .i64 C) (.int .i64 D) 39).mild (by simp) m1
  have acc := ((Mild.refl w).alloc #[.int .i64 A, .int .i64 B, .int .i64 C, .int .i64 D] 39).trans m1
  have hl1 : w.heap.size < w1.heap.size := by have := m1.below.size; simp at this; omega
  clear m1
  have e0 := H1.c0
  have e1 := H1.c1
  have e2 := H1.c2
  have e3 := H1.c3
  have ef := H1.free
  go_wp2_with fail
  clear e0 e1 e2 e3 ef
  refine (pack_bad A B C D _ hbad.out).mono ?_; rintro z' w2 ⟨rfl, m2⟩
  have acc := acc.trans m2
  clear m2 H1
  go_wp2_with fail
  refine (unpack_is W E F G H _ rfl hW v1.out v2.out v3.out v4.out).mono ?_; rintro z' w4 ⟨rfl, m4⟩
  have acc := acc.trans m4
  clear m4
  go_wp2_with fail
  refine (pack_is E F G H W _ rfl rfl rfl rfl he hf hg hh v5.out).mono ?_; rintro z' w5 ⟨rfl, m5⟩
  have acc := (acc.alloc #[.int .i64 E, .int .i64 F, .int .i64 G, .int .i64 H] 39).trans m5
  clear m5
  go_wp2_with fail
  have bel := Kept.mk acc.below
  clear acc
  refine (answer_any W S V _ len cap _ _ (KS.out.below bel.out) (by omega) hV.out).mono ?_; rintro z' w6 ⟨g, cp, rfl, hr⟩
  have KO := Kept.mk hr.owns
  have KB := Kept.mk (bel.out.trans (hr.below.mono bel.out.size))
  clear hr bel
  have t0 : w6.cell? ⟨g, 0, none⟩ = some (.int .u32 W) := by rw [KO.out.cellAt 0 (by omega)]; rfl
  have t1 : w6.cell? ⟨g, 0 + 1, none⟩ = some (.int .u32 V) := by rw [KO.out.cellAt (0 + 1) (by omega)]; rfl
  go_wp2_with fail
  refine (status_long g 0 (len + 2) cp V S _ (by omega) t1 hSV.out).mono ?_; rintro z' w' ⟨rfl, rfl⟩
  go_wp2_with fail
  go_loopw [21] (fun i wr => ∃ k : Nat, k ≤ len ∧ i = .int .i64 k ∧ ∃ n, wr = w'.drewN n) (fun i _ => len - (intOf i).toNat)
  case atStart => exact ⟨0, by omega, rfl, 0, rfl⟩
  case round =>
    obtain ⟨k, hk, rfl, n, rfl⟩ := hrel
    by_cases hlt : k < len
    · have q1 : w'.cell? ⟨b, off + k, none⟩ = some (.int .u32 (z.getD k 0)) := by rw [KB.out.cell hb0]; exact hcell.out k hlt
      have q2 : w'.cell? ⟨g, k + 2, none⟩ = some (.int .u32 (z.getD k 0)) := by
        have hz := zl.out
        rw [KO.out.cellAt (k + 2) (by omega)]
        simp [hlt, List.getD, List.getElem?_eq_getElem (show k < z.length by omega)]
      obtain ⟨zk, hzk⟩ : ∃ x, z.getD k 0 = x := ⟨_, rfl⟩
      rw [hzk] at q1 q2
      clear hzk
      go_wp2_with fail
      go_quiet (fail)
      go_wp2_with fail
      go_roundw
      case rel => exact ⟨k + 1, by omega, by go_num, _, rfl⟩
      case measure => simp [intOf]; omega
    · go_wp2_with fail
      go_ret
      exact ⟨rfl, KB.out.trans ⟨rfl, rfl, rfl, Nat.le_refl _, fun _ _ => rfl⟩⟩

set_option maxRecDepth 100000 in
set_option maxHeartbeats 2000000 in
theorem coreNSE (W : Nat) (S V : Int) (len cap : Nat) (z : List Int) (w : World) (A B C D : Int) (hbad : Kept (¬ headOk A B C D)) (hW : W < 268435456) (E F G H : Nat) (he : E ≤ 255) (hf : F ≤ 3) (hg : G ≤ 255) (hh : H ≤ 1023) (v1 : Kept (W % 256 = E)) (v2 : Kept (W / 256 % 4 = F)) (v3 : Kept (W / 1024 % 256 = G)) (v4 : Kept (W / 262144 = H)) (v5 : Kept (E + 256 * F + 1024 * G + 262144 * H = W)) (ao : Option Addr) (hl0 : len ≤ 0) (KS : Kept (Src w ao len cap ((z.take len).map (Value.int .u32)))) (hlen : len ≤ 500) (hV : Kept (S % 4294967296 = V)) (hSV : Kept (wrap32 V = S)) (s0 : -2147483648 ≤ S) (s1 : S ≤ 2147483647) :
    Calls Try.prog 12 #[.agg #[.int .i64 A, .int .i64 B, .int .i64 C, .int .i64 D], .int .u32 W, .int .i32 S, .slice ao len cap] w fun e w' => e = .returned (.bool true) ∧ Below w.heap.size w w' := by
  have hs28 : ((W : Int) / 268435456 == 0) = true := by simp; omega
  go_enter Try.func12, Try.ntmps12
  go_wp2_with fail
  refine (shownW_any _).mono ?_; rintro z' w1 ⟨rfl, m1⟩
  have H1 := (Four.new w (.int .i64 A) (.int .i64 B) (.int .i64 C) (.int .i64 D) 39).mild (by simp) m1
  have acc := ((Mild.refl w).alloc #[.int .i64 A, .int .i64 B, .int .i64 C, .int .i64 D] 39).trans m1
  have hl1 : w.heap.size < w1.heap.size := by have := m1.below.size; simp at this; omega
  clear m1
  have e0 := H1.c0
  have e1 := H1.c1
  have e2 := H1.c2
  have e3 := H1.c3
  have ef := H1.free
  go_wp2_with fail
  clear e0 e1 e2 e3 ef
  refine (pack_bad A B C D _ hbad.out).mono ?_; rintro z' w2 ⟨rfl, m2⟩
  have acc := acc.trans m2
  clear m2 H1
  go_wp2_with fail
  refine (unpack_is W E F G H _ rfl hW v1.out v2.out v3.out v4.out).mono ?_; rintro z' w4 ⟨rfl, m4⟩
  have acc := acc.trans m4
  clear m4
  go_wp2_with fail
  refine (pack_is E F G H W _ rfl rfl rfl rfl he hf hg hh v5.out).mono ?_; rintro z' w5 ⟨rfl, m5⟩
  have acc := (acc.alloc #[.int .i64 E, .int .i64 F, .int .i64 G, .int .i64 H] 39).trans m5
  clear m5
  go_wp2_with fail
  have bel := Kept.mk acc.below
  clear acc
  refine (answer_any W S V _ len cap _ _ (KS.out.below bel.out) (by omega) hV.out).mono ?_; rintro z' w6 ⟨g, cp, rfl, hr⟩
  have KO := Kept.mk hr.owns
  have KB := Kept.mk (bel.out.trans (hr.below.mono bel.out.size))
  clear hr bel
  have t0 : w6.cell? ⟨g, 0, none⟩ = some (.int .u32 W) := by rw [KO.out.cellAt 0 (by omega)]; rfl
  have t1 : w6.cell? ⟨g, 0 + 1, none⟩ = some (.int .u32 V) := by rw [KO.out.cellAt (0 + 1) (by omega)]; rfl
  go_wp2_with fail
  refine (status_long g 0 (len + 2) cp V S _ (by omega) t1 hSV.out).mono ?_; rintro z' w' ⟨rfl, rfl⟩
  go_wp2_with fail
  go_loopw [21] (fun i wr => ∃ k : Nat, k ≤ len ∧ i = .int .i64 k ∧ ∃ n, wr = w'.drewN n) (fun i _ => len - (intOf i).toNat)
  case atStart => exact ⟨0, by omega, rfl, 0, rfl⟩
  case round =>
    obtain ⟨k, hk, rfl, n, rfl⟩ := hrel
    go_wp2_with fail
    go_ret
    exact ⟨rfl, KB.out.trans ⟨rfl, rfl, rfl, Nat.le_refl _, fun _ _ => rfl⟩⟩

set_option maxRecDepth 100000 in
set_option maxHeartbeats 2000000 in
theorem coreNLA (W : Nat) (S V : Int) (len cap : Nat) (z : List Int) (w : World) (A B C D : Int) (hbad : Kept (¬ headOk A B C D)) (hW : Kept (W < 4294967296)) (hW2 : 268435456 ≤ W) (hW3 : W ≤ 4294967295) (b off : Nat) (hb0 : b < w.heap.size) (hl0 : 0 < len) (hlc : len ≤ cap) (hcell : Kept (∀ j, j < len → w.cell? ⟨b, off + j, none⟩ = some (.int .u32 (z.getD j 0)))) (KS : Kept (Src w (some ⟨b, off, none⟩) len cap ((z.take len).map (Value.int .u32)))) (hlen : len ≤ 500) (hV : Kept (S % 4294967296 = V)) (hSV : Kept (wrap32 V = S)) (s0 : -2147483648 ≤ S) (s1 : S ≤ 2147483647) (zl : Kept (len ≤ z.length)) :
    Calls Try.prog 12 #[.agg #[.int .i64 A, .int .i64 B, .int .i64 C, .int .i64 D], .int .u32 W, .int .i32 S, .slice (some ⟨b, off, none⟩) len cap] w fun e w' => e = .returned (.bool true) ∧ Below w.heap.size w w' := by
  have hs28 : ((W : Int) / 268435456 == 0) = false := by simp; omega
  go_enter Try.func12, Try.ntmps12
  go_wp2_with fail
  refine (shownW_any _).mono ?_; rintro z' w1 ⟨rfl, m1⟩
  have H1 := (Four.new w (.int .i64 A) (.int .i64 B) (.int .i64 C) (.int .i64 D) 39).mild (by simp) m1
  have acc := ((Mild.refl w).alloc #[.int .i64 A, .int .i64 B, .int .i64 C, .int .i64 D] 39).trans m1
  have hl1 : w.heap.size < w1.heap.size := by have := m1.below.size; simp at this; omega
  clear m1
  have e0 := H1.c0
  have e1 := H1.c1
  have e2 := H1.c2
  have e3 := H1.c3
  have ef := H1.free
  go_wp2_with fail
  clear e0 e1 e2 e3 ef
  refine (pack_bad A B C D _ hbad.out).mono ?_; rintro z' w2 ⟨rfl, m2⟩
  have acc := acc.trans m2
  clear m2 H1
  go_wp2_with fail
  refine (unpack_bad W _ hW.out hW2).mono ?_; rintro z' w4 ⟨rfl, m4⟩
  have acc := (acc.trans m4).alloc #[.int .i64 0, .int .i64 0, .int .i64 0, .int .i64 0] 39
  clear m4
  go_wp2_with fail
  have bel := Kept.mk acc.below
  clear acc
  refine (answer_any W S V _ len cap _ _ (KS.out.below bel.out) (by omega) hV.out).mono ?_; rintro z' w6 ⟨g, cp, rfl, hr⟩
  have KO := Kept.mk hr.owns
  have KB := Kept.mk (bel.out.trans (hr.below.mono bel.out.size))
  clear hr bel
  have t0 : w6.cell? ⟨g, 0, none⟩ = some (.int .u32 W) := by rw [KO.out.cellAt 0 (by omega)]; rfl
  have t1 : w6.cell? ⟨g, 0 + 1, none⟩ = some (.int .u32 V) := by rw [KO.out.cellAt (0 + 1) (by omega)]; rfl
  go_wp2_with fail
  refine (status_long g 0 (len + 2) cp V S _ (by omega) t1 hSV.out).mono ?_; rintro z' w' ⟨rfl, rfl⟩
  go_wp2_with fail
  go_loopw [21] (fun i wr => ∃ k : Nat, k ≤ len ∧ i = .int .i64 k ∧ ∃ n, wr = w'.drewN n) (fun i _ => len - (intOf i).toNat)
  case atStart => exact ⟨0, by omega, rfl, 0, rfl⟩
  case round =>
    obtain ⟨k, hk, rfl, n, rfl⟩ := hrel
    by_cases hlt : k < len
    · have q1 : w'.cell? ⟨b, off + k, none⟩ = some (.int .u32 (z.getD k 0)) := by rw [KB.out.cell hb0]; exact hcell.out k hlt
      have q2 : w'.cell? ⟨g, k + 2, none⟩ = some (.int .u32 (z.getD k 0)) := by
        have hz := zl.out
        rw [KO.out.cellAt (k + 2) (by omega)]
        simp [hlt, List.getD, List.getElem?_eq_getElem (show k < z.length by omega)]
      obtain ⟨zk, hzk⟩ : ∃ x, z.getD k 0 = x := ⟨_, rfl⟩
      rw [hzk] at q1 q2
      clear hzk
      go_wp2_with fail
      go_quiet (fail)
      go_wp2_with fail
      go_roundw
      case rel => exact ⟨k + 1, by omega, by go_num, _, rfl⟩
      case measure => simp [intOf]; omega
    · go_wp2_with fail
      go_ret
      exact ⟨rfl, KB.out.trans ⟨rfl, rfl, rfl, Nat.le_refl _, fun _ _ => rfl⟩⟩

set_option maxRecDepth 100000 in
set_option maxHeartbeats 2000000 in
theorem coreNLE (W : Nat) (S V : Int) (len cap : Nat) (z : List Int) (w : World) (A B C D : Int) (hbad : Kept (¬ headOk A B C D)) (hW : Kept (W < 4294967296)) (hW2 : 268435456 ≤ W) (hW3 : W ≤ 4294967295) (ao : Option Addr) (hl0 : len ≤ 0) (KS : Kept (Src w ao len cap ((z.take len).map (Value.int .u32)))) (hlen : len ≤ 500) (hV : Kept (S % 4294967296 = V)) (hSV : Kept (wrap32 V = S)) (s0 : -2147483648 ≤ S) (s1 : S ≤ 2147483647) :
    Calls Try.prog 12 #[.agg #[.int .i64 A, .int .i64 B, .int .i64 C, .int .i64 D], .int .u32 W, .int .i32 S, .slice ao len cap] w fun e w' => e = .returned (.bool true) ∧ Below w.heap.size w w' := by
  have hs28 : ((W : Int) / 268435456 == 0) = false := by simp; omega
  go_enter Try.func12, Try.ntmps12
  go_wp2_with fail
  refine (shownW_any _).mono ?_; rintro z' w1 ⟨rfl, m1⟩
  have H1 := (Four.new w (.int .i64 A) (.int .i64 B) (.int .i64 C) (.int .i64 D) 39).mild (by simp) m1
  have acc := ((Mild.refl w).alloc #[.int .i64 A, .int .i64 B, .int .i64 C, .int .i64 D] 39).trans m1
  have hl1 : w.heap.size < w1.heap.size := by have := m1.below.size; simp at this; omega
  clear m1
  have e0 := H1.c0
  have e1 := H1.c1
  have e2 := H1.c2
  have e3 := H1.c3
  have ef := H1.free
  go_wp2_with fail
  clear e0 e1 e2 e3 ef
  refine (pack_bad A B C D _ hbad.out).mono ?_; rintro z' w2 ⟨rfl, m2⟩
  have acc := acc.trans m2
  clear m2 H1
  go_wp2_with fail
  refine (unpack_bad W _ hW.out hW2).mono ?_; rintro z' w4 ⟨rfl, m4⟩
  have acc := (acc.trans m4).alloc #[.int .i64 0, .int .i64 0, .int .i64 0, .int .i64 0] 39
  clear m4
  go_wp2_with fail
  have bel := Kept.mk acc.below
  clear acc
  refine (answer_any W S V _ len cap _ _ (KS.out.below bel.out) (by omega) hV.out).mono ?_; rintro z' w6 ⟨g, cp, rfl, hr⟩
  have KO := Kept.mk hr.owns
  have KB := Kept.mk (bel.out.trans (hr.below.mono bel.out.size))
  clear hr bel
  have t0 : w6.cell? ⟨g, 0, none⟩ = some (.int .u32 W) := by rw [KO.out.cellAt 0 (by omega)]; rfl
  have t1 : w6.cell? ⟨g, 0 + 1, none⟩ = some (.int .u32 V) := by rw [KO.out.cellAt (0 + 1) (by omega)]; rfl
  go_wp2_with fail
  refine (status_long g 0 (len + 2) cp V S _ (by omega) t1 hSV.out).mono ?_; rintro z' w' ⟨rfl, rfl⟩
  go_wp2_with fail
  go_loopw [21] (fun i wr => ∃ k : Nat, k ≤ len ∧ i = .int .i64 k ∧ ∃ n, wr = w'.drewN n) (fun i _ => len - (intOf i).toNat)
  case atStart => exact ⟨0, by omega, rfl, 0, rfl⟩
  case round =>
    obtain ⟨k, hk, rfl, n, rfl⟩ := hrel
    go_wp2_with fail
    go_ret
    exact ⟨rfl, KB.out.trans ⟨rfl, rfl, rfl, Nat.le_refl _, fun _ _ => rfl⟩⟩


set_option maxRecDepth 100000 in
theorem coreLong (A B C D : Int) (W : Nat) (S : Int) (ao : Option Addr) (len cap : Nat) (w : World) (hl : 500 < len) (hl2 : len ≤ 9223372036854775807) :
    Calls Try.prog 12 #[.agg #[.int .i64 A, .int .i64 B, .int .i64 C, .int .i64 D], .int .u32 W, .int .i32 S, .slice ao len cap] w fun e w' => e = .returned (.bool true) ∧ Below w.heap.size w w' := by
  go_enter Try.func12, Try.ntmps12
  go_wp2_with fail
  refine (shownW_any _).mono ?_; rintro z' w1 ⟨rfl, m1⟩
  have acc := ((Mild.refl w).alloc #[.int .i64 A, .int .i64 B, .int .i64 C, .int .i64 D] 39).trans m1
  go_wp2_with fail
  go_ret
  exact ⟨rfl, acc.below⟩

theorem isRow_len {w : World} {a : Option Addr} {len cap : Nat} {z : List Int} (h : IsRow .u32 w a len cap z) : len ≤ z.length ∧ len ≤ 9223372036854775807 := by
  rcases h with ⟨rfl, rfl, rfl, rfl⟩ | ⟨x, rfl, h1, h2, h3, _⟩
  · exact ⟨Nat.le_refl _, by omega⟩
  · unfold maxLen at h2; omega

theorem walk (h0a h0b h0c h0d : Int) (a1 : Int) (a2 : Int) (a3 : Option Addr) (len3 cap3 : Nat) (z3 : List Int) (w : World) (wh0a : (Lit.int .i64 h0a).wf = true) (wh0b : (Lit.int .i64 h0b).wf = true) (wh0c : (Lit.int .i64 h0c).wf = true) (wh0d : (Lit.int .i64 h0d).wf = true) (w1 : (Lit.int .u32 a1).wf = true) (w2 : (Lit.int .i32 a2).wf = true) (w3 : IsRow .u32 w a3 len3 cap3 z3) :
    Calls Try.prog 12 #[.agg #[.int .i64 h0a, .int .i64 h0b, .int .i64 h0c, .int .i64 h0d], .int .u32 a1, .int .i32 a2, .slice a3 len3 cap3] w fun e w' => e = .returned (.bool true) ∧ Below w.heap.size w w' := by
  obtain ⟨A0, A1⟩ := bounds_u32 w1
  obtain ⟨W, rfl⟩ := Int.eq_ofNat_of_zero_le A0
  obtain ⟨s0, s1⟩ := bounds_i32 w2
  have hl := isRow_len w3
  by_cases hlen : 500 < len3
  · exact coreLong h0a h0b h0c h0d W a2 a3 len3 cap3 w hlen hl.2
  have hlen : len3 ≤ 500 := by omega
  have KS := Kept.mk (isRow_src w3)
  obtain ⟨V, hV⟩ : ∃ V, a2 % 4294967296 = V := ⟨_, rfl⟩
  have hSV : wrap32 V = a2 := by unfold wrap32; omega
  by_cases hk : headOk h0a h0b h0c h0d
  · obtain ⟨A, B, C, D, rfl, rfl, rfl, rfl, ha, hb, hc, hd⟩ := headOk_nat hk
    obtain ⟨R, hR⟩ : ∃ R, A + 256 * B + 1024 * C + 262144 * D = R := ⟨_, rfl⟩
    by_cases hW : W < 268435456
    · by_cases hz : len3 = 0
      · exact coreYSE W a2 V len3 cap3 z3 w A B C D R ha hb hc hd ⟨hR⟩ (by omega) ⟨by omega⟩ ⟨by omega⟩ ⟨by omega⟩ ⟨by omega⟩ hW _ _ _ _ (by omega) (by omega) (by omega) (by omega) ⟨rfl⟩ ⟨rfl⟩ ⟨rfl⟩ ⟨rfl⟩ ⟨by omega⟩ a3 (by omega) KS hlen ⟨hV⟩ ⟨hSV⟩ s0 s1
      · obtain ⟨b, off, rfl, hb0, hlc, hcell⟩ := isRow_cells w3 hz
        exact coreYSA W a2 V len3 cap3 z3 w A B C D R ha hb hc hd ⟨hR⟩ (by omega) ⟨by omega⟩ ⟨by omega⟩ ⟨by omega⟩ ⟨by omega⟩ hW _ _ _ _ (by omega) (by omega) (by omega) (by omega) ⟨rfl⟩ ⟨rfl⟩ ⟨rfl⟩ ⟨rfl⟩ ⟨by omega⟩ b off hb0 (by omega) hlc ⟨hcell⟩ KS hlen ⟨hV⟩ ⟨hSV⟩ s0 s1 ⟨hl.1⟩
    · by_cases hz : len3 = 0
      · exact coreYLE W a2 V len3 cap3 z3 w A B C D R ha hb hc hd ⟨hR⟩ (by omega) ⟨by omega⟩ ⟨by omega⟩ ⟨by omega⟩ ⟨by omega⟩ ⟨by omega⟩ (by omega) (by omega) a3 (by omega) KS hlen ⟨hV⟩ ⟨hSV⟩ s0 s1
      · obtain ⟨b, off, rfl, hb0, hlc, hcell⟩ := isRow_cells w3 hz
        exact coreYLA W a2 V len3 cap3 z3 w A B C D R ha hb hc hd ⟨hR⟩ (by omega) ⟨by omega⟩ ⟨by omega⟩ ⟨by omega⟩ ⟨by omega⟩ ⟨by omega⟩ (by omega) (by omega) b off hb0 (by omega) hlc ⟨hcell⟩ KS hlen ⟨hV⟩ ⟨hSV⟩ s0 s1 ⟨hl.1⟩
  · by_cases hW : W < 268435456
    · by_cases hz : len3 = 0
      · exact coreNSE W a2 V len3 cap3 z3 w _ _ _ _ ⟨hk⟩ hW _ _ _ _ (by omega) (by omega) (by omega) (by omega) ⟨rfl⟩ ⟨rfl⟩ ⟨rfl⟩ ⟨rfl⟩ ⟨by omega⟩ a3 (by omega) KS hlen ⟨hV⟩ ⟨hSV⟩ s0 s1
      · obtain ⟨b, off, rfl, hb0, hlc, hcell⟩ := isRow_cells w3 hz
        exact coreNSA W a2 V len3 cap3 z3 w _ _ _ _ ⟨hk⟩ hW _ _ _ _ (by omega) (by omega) (by omega) (by omega) ⟨rfl⟩ ⟨rfl⟩ ⟨rfl⟩ ⟨rfl⟩ ⟨by omega⟩ b off hb0 (by omega) hlc ⟨hcell⟩ KS hlen ⟨hV⟩ ⟨hSV⟩ s0 s1 ⟨hl.1⟩
    · by_cases hz : len3 = 0
      · exact coreNLE W a2 V len3 cap3 z3 w _ _ _ _ ⟨hk⟩ ⟨by omega⟩ (by omega) (by omega) a3 (by omega) KS hlen ⟨hV⟩ ⟨hSV⟩ s0 s1
      · obtain ⟨b, off, rfl, hb0, hlc, hcell⟩ := isRow_cells w3 hz
        exact coreNLA W a2 V len3 cap3 z3 w _ _ _ _ ⟨hk⟩ ⟨by omega⟩ (by omega) (by omega) b off hb0 (by omega) hlc ⟨hcell⟩ KS hlen ⟨hV⟩ ⟨hSV⟩ s0 s1 ⟨hl.1⟩

set_option maxRecDepth 100000 in
theorem lifted (os : Os) (started : os.Started) (H : Type) (enc : TypeId × Value → H) :
    ReturnsInHanded {} Try.checked os 12 .any (Rows.wordBackSpec.pre6 enc Try.prog Try.f12 Rows.wordBackRow.domain false) (Rows.wordBackSpec.post enc Try.prog Try.f12 false true false false) := by
  refine returnsInHanded_of_change (C := Try.checked) own started (by kernel_rfl) Try.func12
    (ChangeSpec.witness6 (enc := enc) (C := Try.checked) false ⟨#[], #[.agg #[.int .i64 0, .int .i64 0, .int .i64 0, .int .i64 0], .int .u32 0, .int .i32 0, .slice none 0 0], []⟩ 8 (by kernel_rfl) (by kernel_rfl) (by kernel_rfl) (by kernel_rfl)) ?_
  intro W base args ds gs before hval0 hW hcnd _
  have hval : ∀ (j : Nat) t v, Try.f12.params[j]? = some t → args[j]? = some v → Value.okWide Try.prog W .any base t v := hval0
  have hW' := hW
  obtain ⟨p, q, hA0, hV, rfl, hfz, hnd⟩ := hW
  have hA : DataW.TrodAll enc Try.prog W 0 (fun _ => true) true Try.f12.params.toList args.toList ds p := hA0
  rw [Try.params12] at hA hval
  obtain ⟨v0, vs0, d0, ds0, p0, q0, hargs, rfl, rfl, h0, r0⟩ := trodAll_cons hA
  obtain ⟨v1, vs1, d1, ds1, p1, q1, rfl, rfl, rfl, h1, r1⟩ := trodAll_cons r0
  obtain ⟨v2, vs2, d2, ds2, p2, q2, rfl, rfl, rfl, h2, r2⟩ := trodAll_cons r1
  obtain ⟨v3, vs3, d3, ds3, p3, q3, rfl, rfl, rfl, h3, r3⟩ := trodAll_cons r2
  obtain ⟨rfl, rfl, rfl⟩ := trodAll_nil r3
  obtain rfl : args = #[v0, v1, v2, v3] := by cases args; simp_all
  obtain ⟨rfl, rfl⟩ := trodVars_none hV
  have k0 := h0
  have lt0 : ∀ x ∈ p0, x.block < W.heap.size := by obtain ⟨m, hm⟩ := k0; exact DataW.trod_lt m _ _ _ hm
  obtain ⟨c00, c01, c02, c03, y00, y01, y02, y03, fu0, rfl, hd0, hp0, hy00, hy01, hy02, hy03⟩ := Joins.open_agg4 Try.underlying39 (by kernel_rfl) cells39 (hval 0 39 v0 rfl rfl) h0
  obtain ⟨h0a, e00, _, wh0a⟩ := DataW.trod_int Try.underlying3 hy00
  simp at e00
  subst e00
  obtain ⟨h0b, e01, _, wh0b⟩ := DataW.trod_int Try.underlying3 hy01
  simp at e01
  subst e01
  obtain ⟨h0c, e02, _, wh0c⟩ := DataW.trod_int Try.underlying3 hy02
  simp at e02
  subst e02
  obtain ⟨h0d, e03, _, wh0d⟩ := DataW.trod_int Try.underlying3 hy03
  simp at e03
  subst e03
  obtain ⟨a1, rfl, rfl, rfl, w1⟩ := open_int Try.underlying22 (hval 1 22 v1 rfl rfl) h1
  obtain ⟨a2, rfl, rfl, rfl, w2⟩ := open_int Try.underlying21 (hval 2 21 v2 rfl rfl) h2
  obtain ⟨a3, len3, cap3, rfl⟩ := okWide_slice Try.underlying40 (hval 3 40 v3 rfl rfl)
  have k3 := h3
  have lt3 : ∀ x ∈ p3, x.block < W.heap.size := by obtain ⟨m, hm⟩ := k3; exact DataW.trod_lt m _ _ _ hm
  obtain ⟨z3, w3⟩ : ∃ zs, IsRow .u32 W a3 len3 cap3 zs := by
    obtain ⟨fuel, hf⟩ := h3
    rcases open_ints Try.underlying40 Try.underlying22 (by kernel_rfl) hf with ⟨hcs, _⟩ | ⟨x, l, c, zs, hcs, _, hl, hm, hz, _, hcell, hwz⟩
    · simp [Value.cells] at hcs
      obtain ⟨rfl, rfl, rfl⟩ := hcs
      exact ⟨[], .inl ⟨rfl, rfl, rfl, rfl⟩⟩
    · simp [Value.cells] at hcs
      obtain ⟨rfl, rfl, rfl⟩ := hcs
      refine ⟨zs, .inr ⟨_, rfl, hl, hm, by simpa using hz, hcell, hwz, fun i hi => ?_⟩⟩
      exact World.cell?_lt' (hcell i hi)
  clear hA0 hval0
  refine (walk h0a h0b h0c h0d a1 a2 a3 len3 cap3 z3 W wh0a wh0b wh0c wh0d w1 w2 w3).mono fun e W' ⟨he, bel⟩ => ?_
  subst he
  exact ⟨_, rfl, _, _, _, [], _, [], hW', trodAll_mk1 (shut_bool Try.underlying4 _), (trodAll_cons_mk (Below.trod laidOut (by kernel_rfl) (of_decide_eq_true (by kernel_rfl)) k0 bel lt0) (trodAll_cons_mk (shut_int Try.underlying22 w1) (trodAll_cons_mk (shut_int Try.underlying21 w2) (trodAll_cons_mk (Below.trod laidOut (by kernel_rfl) (of_decide_eq_true (by kernel_rfl)) k3 bel lt3) trodAll_mk0)))), rfl, bel.frame _, fun h => by cases h⟩

theorem over : Rows.wordBackRow.holds Try.pinned (OpenSpec.ofChange Rows.wordBackSpec) :=
  OpenClaim.holds_of_wide 12 Try.f12 rfl rfl rfl rfl rfl rfl rfl ⟨rfl, rfl, rfl, rfl, rfl⟩ rfl rfl rfl rfl rfl (by kernel_rfl) Try.func12 (by kernel_rfl)
    (of_decide_eq_true (by kernel_rfl)) (by unfold Func.isWrapper; first | (rw [if_pos (by decide +kernel)]; kernel_rfl) | (rw [if_neg (by decide +kernel)]; exact ⟨rfl, rfl⟩))
    (fun os started H enc _ => lifted os started H enc)

theorem proved : Rows.WordBackSaid :=
  over
#print axioms proved
end Go.Proofs.Ytojfhebejfibkaa.wordBack
