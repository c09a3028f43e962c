/- BusBits: for every input the law returns true, and each argument reads afterwards as it read before. No condition. -/
import Derived.Test.YtdjjgloloahlgaaRows
import Derived.WalkKit
import Derived.ProofKit
import Derived.OpenShut
import Derived.ShutString
import Derived.ChangeOld
import Derived.Below
import Derived.Lib.SmallJoins
import Derived.Test.YtdjjgloloahlgaaBusQueue
namespace Go.Proofs.Ytdjjgloloahlgaa.busBits
open Go.ChangeShapes Go.WideShapes Go.ChangeAt Go.RowKit
open Go.ChangeMaps (open_string shut_string)
set_option linter.unusedVariables false

theorem own : ownKnob Try.prog.godebug = none := by kernel_rfl
theorem laidOut : laidOutB Try.prog = true := by kernel_rfl

theorem World.cell?_lt' {w : World} {a : Addr} {v : Value} (h : w.cell? a = some v) : a.block < w.heap.size := by
  by_cases c : a.block < w.heap.size
  · exact c
  · unfold World.cell? at h
    rw [Array.getElem?_eq_none (by omega)] at h
    simp at h

/-- What the walk is told of a slice of integers that came in: it is nil; or it leads to a row of cells. -/
def IsRow (k : IntKind) (w : World) (a : Option Addr) (len cap : Nat) (zs : List Int) : Prop :=
  (a = none ∧ len = 0 ∧ cap = 0 ∧ zs = []) ∨
  ∃ x, a = some x ∧ len ≤ cap ∧ cap ≤ maxLen ∧ zs.length = cap ∧ (∀ i, i < zs.length → w.cell? (x.add i) = some (.int k (zs.getD i 0))) ∧ (∀ n ∈ zs, (Lit.int k n).wf = true) ∧ ∀ i, i < zs.length → (x.add i).block < w.heap.size

theorem isRow_came {w : World} {a : Option Addr} {len cap : Nat} {z : List Int} (h : IsRow .i64 w a len cap z) : Came64 w a len (fun j => z.getD j 0) := by
  rcases h with ⟨rfl, rfl, rfl, rfl⟩ | ⟨x, rfl, h1, h2, h3, h4, h5, h6⟩
  · exact ⟨fun j hj => absurd hj (by omega), fun e => absurd rfl e⟩
  · refine ⟨fun j hj => ?_, fun hn => ?_⟩
    · have hz : j < z.length := by omega
      have := bounds_i64 (h5 (z.getD j 0) (by simp [List.getD, List.getElem?_eq_getElem hz]))
      omega
    · obtain ⟨b, off, spot⟩ := x
      have hc := h4 0 (by omega)
      have hspot : spot = none := by simpa [Addr.add] using World.cell?_spot hc
      subst hspot
      refine ⟨b, off, rfl, by simpa [Addr.add] using h6 0 (by omega), fun j hj => ?_⟩
      have := h4 j (by omega)
      unfold Addr.add at this
      by_cases c : j = 0
      · subst c; simpa using this
      · simpa [c] using this

theorem isRow_max {w : World} {a : Option Addr} {len cap : Nat} {z : List Int} (h : IsRow .i64 w a len cap z) : len ≤ 9223372036854775807 := by
  rcases h with ⟨rfl, rfl, rfl, rfl⟩ | ⟨x, rfl, h1, h2, h3, _⟩
  · omega
  · unfold maxLen at h2; omega

set_option maxRecDepth 100000 in
set_option maxHeartbeats 2000000 in
theorem coreA1 (n cap : Nat) (z F : Nat → Int) (W D G A R1 : Nat) (w : World) (HW : Kept (W < 4294967296)) (hn : n ≤ 6) (HD : Kept (getN W 16 8 = D)) (HG : Kept (getN W 2 14 = G)) (hD : D < 256) (hG : G < 16384) (HA : Kept (AddrR (D : Int) (G : Int) (A : Int) 0)) (H1 : Kept (putN 0 16 8 D = R1)) (H2 : Kept (putN R1 2 14 G = A)) (HR1 : Kept (R1 < 4294967296)) (HF : Kept (∀ j, j < n → pk (z j) 9 = F j)) (HFB : Kept (∀ j, j < n → 0 ≤ F j ∧ F j ≤ 8)) (b off : Nat) (hb0 : b < w.heap.size) (h0 : 0 < n) (hcell : Kept (∀ j, j < n → w.cell? ⟨b, off + j, none⟩ = some (.int .i64 (z j)))) (hlo : Kept (∀ j, j < n → -9223372036854775808 ≤ z j ∧ z j ≤ 9223372036854775807)) (HS : Kept (SplitR W (-1) (-1))) (hAW : ((A : Int) == (W : Int)) = false) :
    Calls Try.prog 4 #[.slice (some ⟨b, off, none⟩) n cap, .int .u32 (W : Int)] w fun e w' => e = .returned (.bool true) ∧ Below w.heap.size w w' := by
  obtain ⟨i0, hi, hz0, hz1, hz2⟩ := info_parts info3
  have KI := Kept.mk hi
  have KZ0 := Kept.mk hz0
  have KZ1 := Kept.mk hz1
  have KZ2 := Kept.mk hz2
  clear hi hz0 hz1 hz2
  have h8 := Kept.mk (show D < 2 ^ 8 by omega)
  have h14 := Kept.mk (show G < 2 ^ 14 by omega)
  go_enter Try.func4, Try.ntmps4
  go_wp2_with fail
  refine (shown_any _).mono ?_; rintro z' w1 ⟨rfl, m1⟩
  have KB1 := Kept.mk m1.below
  clear m1
  go_wp2_with fail
  go_loopw [6, 7] (fun v i wr => ∃ k : Nat, k ≤ n ∧ i = .int .i64 k ∧ ∃ a c, v = .slice a k c ∧ wr.ownsRow w1.heap.size 3 1 (.slice a k c) k (numsV k F) ∧ Below w1.heap.size w1 wr) (fun _ i _ => n - (intOf i).toNat)
  case atStart => exact ⟨0, by omega, rfl, none, 0, rfl, World.ownsRow_nil _ _ _ _, Below.refl _ _⟩
  case round =>
    obtain ⟨k, hk, rfl, a, c, rfl, own0, bel0⟩ := hrel
    have KO := Kept.mk own0
    have KB := Kept.mk bel0
    have hl1 := KB1.out.size
    have hl2 := bel0.size
    have KW := Kept.mk (KB1.out.trans (bel0.mono hl1))
    clear own0 bel0
    by_cases hlt : k < n
    · have q1 := (KW.out.cell (p := ⟨b, off + k, none⟩) hb0).trans (hcell.out k hlt)
      have HF1 := Kept.mk (HF.out k hlt)
      have HL1 := Kept.mk (hlo.out k hlt)
      have lo1 := (HFB.out k hlt).1
      have lo2 := (HFB.out k hlt).2
      obtain ⟨x, hx⟩ : ∃ x, z k = x := ⟨_, rfl⟩
      obtain ⟨u, hu⟩ : ∃ u, F k = u := ⟨_, rfl⟩
      have HU := Kept.mk hu
      rw [hx] at q1 HF1 HL1
      rw [hu] at HF1 lo1 lo2
      clear hx hu
      go_wp2_with fail
      refine (pick_is _ HL1.out (by omega) (by omega) HF1.out).mono ?_; rintro z' w' ⟨rfl, rfl⟩
      go_wp2_with (at_builtin; refine wpList_append_own _ rfl (.tmp 36) (.tmp 42) 32 rfl w1.heap.size 3 i0 (.int .i64 0) 1 8 Try.underlying32 KI.out KZ0.out KZ1.out KZ2.out rfl (by decide) _ _ _ rfl (KO.out.alloc _) ⟨w'.heap.size, 0, none⟩ 1 1 [.int .i64 u] rfl rfl (one_new _ _ _) (by simp [Value.oneCell']) (by unfold maxLen; omega) (by omega) (by simp; omega) ?_; intro v' w2 own2 grow2 _; obtain ⟨a', c', hv⟩ := owns_form own2; subst hv; have KO2 := Kept.mk own2; have KG2 := Kept.mk ((KB.out.alloc hl2 (.cells #[.int .i64 u] 3)).grown grow2 (by simp; omega) (fun j e => (KO.out.lt j e).1)); clear own2 grow2)
      go_roundw
      case rel => exact ⟨k + 1, by omega, by go_num, a', c', rfl, by rw [numsV_succ, HU.out]; exact KO2.out, KG2.out⟩
      case measure => simp [intOf]; omega
    · have NM := Kept.mk (nums_of KO.out)
      go_wp2_with fail
      refine (new_any _ k c F _ (by omega) NM.out (fun i hi => HFB.out i (by omega))).mono ?_; rintro z' w3 ⟨B, gr, gw, rfl, b3, U3, p1, p2, p3⟩
      have KU3 := Kept.mk U3
      have KB3 := Kept.mk (KW.out.trans (b3.mono (by omega)))
      have hl3 := b3.size
      clear b3 U3
      go_wp2_with fail
      refine (get_is _ HW.out (by omega) (by omega) HD.out rfl rfl rfl).mono ?_; rintro z' w4 ⟨rfl, m4⟩
      go_wp2_with fail
      refine (get_is _ HW.out (by omega) (by omega) HG.out rfl rfl rfl).mono ?_; rintro z' w5 ⟨rfl, m5⟩
      go_wp2_with fail
      refine (address_is _ HA.out).mono ?_; rintro z' w6 ⟨rfl, m6⟩
      go_wp2_with fail
      refine (put_is (W := 0) (L := 16) (M := 8) _ (by omega) (by omega) (by omega) h8.out H1.out rfl rfl rfl rfl).mono ?_; rintro z' w7 ⟨rfl, m7⟩
      go_wp2_with fail
      refine (put_is (L := 2) (M := 14) _ HR1.out (by omega) (by omega) h14.out H2.out rfl rfl rfl rfl).mono ?_; rintro z' w8 ⟨rfl, m8⟩
      have m8' := (((m4.trans m5).trans m6).trans m7).trans m8
      have KU8 := Kept.mk (KU3.out.mild m8')
      have KB8 := Kept.mk (KB3.out.trans (m8'.below.mono (by omega)))
      have hl8 := m8'.below.size
      clear m4 m5 m6 m7 m8 m8'
      go_wp2_with fail
      refine (post_nodev KU8.out W (-1) (-1) false 0 HW.out HS.out (Or.inl (by omega))).mono ?_; rintro z' w9 ⟨rfl, m9⟩
      have KB9 := Kept.mk (KB8.out.trans (m9.below.mono (by omega)))
      go_wp2_with fail
      go_ret
      exact ⟨rfl, KB9.out⟩

set_option maxRecDepth 100000 in
set_option maxHeartbeats 2000000 in
theorem coreA2 (n cap : Nat) (z F : Nat → Int) (W D G A R1 : Nat) (w : World) (HW : Kept (W < 4294967296)) (hn : n ≤ 6) (HD : Kept (getN W 16 8 = D)) (HG : Kept (getN W 2 14 = G)) (hD : D < 256) (hG : G < 16384) (HA : Kept (AddrR (D : Int) (G : Int) (A : Int) 0)) (H1 : Kept (putN 0 16 8 D = R1)) (H2 : Kept (putN R1 2 14 G = A)) (HR1 : Kept (R1 < 4294967296)) (HF : Kept (∀ j, j < n → pk (z j) 9 = F j)) (HFB : Kept (∀ j, j < n → 0 ≤ F j ∧ F j ≤ 8)) (b off : Nat) (hb0 : b < w.heap.size) (h0 : 0 < n) (hcell : Kept (∀ j, j < n → w.cell? ⟨b, off + j, none⟩ = some (.int .i64 (z j)))) (hlo : Kept (∀ j, j < n → -9223372036854775808 ≤ z j ∧ z j ≤ 9223372036854775807)) (HS : Kept (SplitR W (D : Int) (G : Int))) (hAW : ((A : Int) == (W : Int)) = true) (hDn : n ≤ D) :
    Calls Try.prog 4 #[.slice (some ⟨b, off, none⟩) n cap, .int .u32 (W : Int)] w fun e w' => e = .returned (.bool true) ∧ Below w.heap.size w w' := by
  obtain ⟨i0, hi, hz0, hz1, hz2⟩ := info_parts info3
  have KI := Kept.mk hi
  have KZ0 := Kept.mk hz0
  have KZ1 := Kept.mk hz1
  have KZ2 := Kept.mk hz2
  clear hi hz0 hz1 hz2
  have h8 := Kept.mk (show D < 2 ^ 8 by omega)
  have h14 := Kept.mk (show G < 2 ^ 14 by omega)
  go_enter Try.func4, Try.ntmps4
  go_wp2_with fail
  refine (shown_any _).mono ?_; rintro z' w1 ⟨rfl, m1⟩
  have KB1 := Kept.mk m1.below
  clear m1
  go_wp2_with fail
  go_loopw [6, 7] (fun v i wr => ∃ k : Nat, k ≤ n ∧ i = .int .i64 k ∧ ∃ a c, v = .slice a k c ∧ wr.ownsRow w1.heap.size 3 1 (.slice a k c) k (numsV k F) ∧ Below w1.heap.size w1 wr) (fun _ i _ => n - (intOf i).toNat)
  case atStart => exact ⟨0, by omega, rfl, none, 0, rfl, World.ownsRow_nil _ _ _ _, Below.refl _ _⟩
  case round =>
    obtain ⟨k, hk, rfl, a, c, rfl, own0, bel0⟩ := hrel
    have KO := Kept.mk own0
    have KB := Kept.mk bel0
    have hl1 := KB1.out.size
    have hl2 := bel0.size
    have KW := Kept.mk (KB1.out.trans (bel0.mono hl1))
    clear own0 bel0
    by_cases hlt : k < n
    · have q1 := (KW.out.cell (p := ⟨b, off + k, none⟩) hb0).trans (hcell.out k hlt)
      have HF1 := Kept.mk (HF.out k hlt)
      have HL1 := Kept.mk (hlo.out k hlt)
      have lo1 := (HFB.out k hlt).1
      have lo2 := (HFB.out k hlt).2
      obtain ⟨x, hx⟩ : ∃ x, z k = x := ⟨_, rfl⟩
      obtain ⟨u, hu⟩ : ∃ u, F k = u := ⟨_, rfl⟩
      have HU := Kept.mk hu
      rw [hx] at q1 HF1 HL1
      rw [hu] at HF1 lo1 lo2
      clear hx hu
      go_wp2_with fail
      refine (pick_is _ HL1.out (by omega) (by omega) HF1.out).mono ?_; rintro z' w' ⟨rfl, rfl⟩
      go_wp2_with (at_builtin; refine wpList_append_own _ rfl (.tmp 36) (.tmp 42) 32 rfl w1.heap.size 3 i0 (.int .i64 0) 1 8 Try.underlying32 KI.out KZ0.out KZ1.out KZ2.out rfl (by decide) _ _ _ rfl (KO.out.alloc _) ⟨w'.heap.size, 0, none⟩ 1 1 [.int .i64 u] rfl rfl (one_new _ _ _) (by simp [Value.oneCell']) (by unfold maxLen; omega) (by omega) (by simp; omega) ?_; intro v' w2 own2 grow2 _; obtain ⟨a', c', hv⟩ := owns_form own2; subst hv; have KO2 := Kept.mk own2; have KG2 := Kept.mk ((KB.out.alloc hl2 (.cells #[.int .i64 u] 3)).grown grow2 (by simp; omega) (fun j e => (KO.out.lt j e).1)); clear own2 grow2)
      go_roundw
      case rel => exact ⟨k + 1, by omega, by go_num, a', c', rfl, by rw [numsV_succ, HU.out]; exact KO2.out, KG2.out⟩
      case measure => simp [intOf]; omega
    · have NM := Kept.mk (nums_of KO.out)
      go_wp2_with fail
      refine (new_any _ k c F _ (by omega) NM.out (fun i hi => HFB.out i (by omega))).mono ?_; rintro z' w3 ⟨B, gr, gw, rfl, b3, U3, p1, p2, p3⟩
      have KU3 := Kept.mk U3
      have KB3 := Kept.mk (KW.out.trans (b3.mono (by omega)))
      have hl3 := b3.size
      clear b3 U3
      go_wp2_with fail
      refine (get_is _ HW.out (by omega) (by omega) HD.out rfl rfl rfl).mono ?_; rintro z' w4 ⟨rfl, m4⟩
      go_wp2_with fail
      refine (get_is _ HW.out (by omega) (by omega) HG.out rfl rfl rfl).mono ?_; rintro z' w5 ⟨rfl, m5⟩
      go_wp2_with fail
      refine (address_is _ HA.out).mono ?_; rintro z' w6 ⟨rfl, m6⟩
      go_wp2_with fail
      refine (put_is (W := 0) (L := 16) (M := 8) _ (by omega) (by omega) (by omega) h8.out H1.out rfl rfl rfl rfl).mono ?_; rintro z' w7 ⟨rfl, m7⟩
      go_wp2_with fail
      refine (put_is (L := 2) (M := 14) _ HR1.out (by omega) (by omega) h14.out H2.out rfl rfl rfl rfl).mono ?_; rintro z' w8 ⟨rfl, m8⟩
      have m8' := (((m4.trans m5).trans m6).trans m7).trans m8
      have KU8 := Kept.mk (KU3.out.mild m8')
      have KB8 := Kept.mk (KB3.out.trans (m8'.below.mono (by omega)))
      have hl8 := m8'.below.size
      clear m4 m5 m6 m7 m8 m8'
      go_wp2_with fail
      refine (post_nodev KU8.out W (D : Int) (G : Int) false 0 HW.out HS.out (Or.inr (by omega))).mono ?_; rintro z' w9 ⟨rfl, m9⟩
      have KB9 := Kept.mk (KB8.out.trans (m9.below.mono (by omega)))
      go_wp2_with fail
      go_ret
      exact ⟨rfl, KB9.out⟩

set_option maxRecDepth 100000 in
set_option maxHeartbeats 2000000 in
theorem coreA3 (n cap : Nat) (z F : Nat → Int) (W D G A R1 : Nat) (w : World) (HW : Kept (W < 4294967296)) (hn : n ≤ 6) (HD : Kept (getN W 16 8 = D)) (HG : Kept (getN W 2 14 = G)) (hD : D < 256) (hG : G < 16384) (HA : Kept (AddrR (D : Int) (G : Int) (A : Int) 0)) (H1 : Kept (putN 0 16 8 D = R1)) (H2 : Kept (putN R1 2 14 G = A)) (HR1 : Kept (R1 < 4294967296)) (HF : Kept (∀ j, j < n → pk (z j) 9 = F j)) (HFB : Kept (∀ j, j < n → 0 ≤ F j ∧ F j ≤ 8)) (b off : Nat) (hb0 : b < w.heap.size) (h0 : 0 < n) (hcell : Kept (∀ j, j < n → w.cell? ⟨b, off + j, none⟩ = some (.int .i64 (z j)))) (hlo : Kept (∀ j, j < n → -9223372036854775808 ≤ z j ∧ z j ≤ 9223372036854775807)) (HS : Kept (SplitR W (D : Int) (G : Int))) (hAW : ((A : Int) == (W : Int)) = true) (hDn : D < n) (y : Int) (HY : Kept (F D = y)) (hy : y ≤ G) (hy2 : decide ((G : Int) < y) = false) :
    Calls Try.prog 4 #[.slice (some ⟨b, off, none⟩) n cap, .int .u32 (W : Int)] w fun e w' => e = .returned (.bool true) ∧ Below w.heap.size w w' := by
  obtain ⟨i0, hi, hz0, hz1, hz2⟩ := info_parts info3
  have KI := Kept.mk hi
  have KZ0 := Kept.mk hz0
  have KZ1 := Kept.mk hz1
  have KZ2 := Kept.mk hz2
  clear hi hz0 hz1 hz2
  have h8 := Kept.mk (show D < 2 ^ 8 by omega)
  have h14 := Kept.mk (show G < 2 ^ 14 by omega)
  go_enter Try.func4, Try.ntmps4
  go_wp2_with fail
  refine (shown_any _).mono ?_; rintro z' w1 ⟨rfl, m1⟩
  have KB1 := Kept.mk m1.below
  clear m1
  go_wp2_with fail
  go_loopw [6, 7] (fun v i wr => ∃ k : Nat, k ≤ n ∧ i = .int .i64 k ∧ ∃ a c, v = .slice a k c ∧ wr.ownsRow w1.heap.size 3 1 (.slice a k c) k (numsV k F) ∧ Below w1.heap.size w1 wr) (fun _ i _ => n - (intOf i).toNat)
  case atStart => exact ⟨0, by omega, rfl, none, 0, rfl, World.ownsRow_nil _ _ _ _, Below.refl _ _⟩
  case round =>
    obtain ⟨k, hk, rfl, a, c, rfl, own0, bel0⟩ := hrel
    have KO := Kept.mk own0
    have KB := Kept.mk bel0
    have hl1 := KB1.out.size
    have hl2 := bel0.size
    have KW := Kept.mk (KB1.out.trans (bel0.mono hl1))
    clear own0 bel0
    by_cases hlt : k < n
    · have q1 := (KW.out.cell (p := ⟨b, off + k, none⟩) hb0).trans (hcell.out k hlt)
      have HF1 := Kept.mk (HF.out k hlt)
      have HL1 := Kept.mk (hlo.out k hlt)
      have lo1 := (HFB.out k hlt).1
      have lo2 := (HFB.out k hlt).2
      obtain ⟨x, hx⟩ : ∃ x, z k = x := ⟨_, rfl⟩
      obtain ⟨u, hu⟩ : ∃ u, F k = u := ⟨_, rfl⟩
      have HU := Kept.mk hu
      rw [hx] at q1 HF1 HL1
      rw [hu] at HF1 lo1 lo2
      clear hx hu
      go_wp2_with fail
      refine (pick_is _ HL1.out (by omega) (by omega) HF1.out).mono ?_; rintro z' w' ⟨rfl, rfl⟩
      go_wp2_with (at_builtin; refine wpList_append_own _ rfl (.tmp 36) (.tmp 42) 32 rfl w1.heap.size 3 i0 (.int .i64 0) 1 8 Try.underlying32 KI.out KZ0.out KZ1.out KZ2.out rfl (by decide) _ _ _ rfl (KO.out.alloc _) ⟨w'.heap.size, 0, none⟩ 1 1 [.int .i64 u] rfl rfl (one_new _ _ _) (by simp [Value.oneCell']) (by unfold maxLen; omega) (by omega) (by simp; omega) ?_; intro v' w2 own2 grow2 _; obtain ⟨a', c', hv⟩ := owns_form own2; subst hv; have KO2 := Kept.mk own2; have KG2 := Kept.mk ((KB.out.alloc hl2 (.cells #[.int .i64 u] 3)).grown grow2 (by simp; omega) (fun j e => (KO.out.lt j e).1)); clear own2 grow2)
      go_roundw
      case rel => exact ⟨k + 1, by omega, by go_num, a', c', rfl, by rw [numsV_succ, HU.out]; exact KO2.out, KG2.out⟩
      case measure => simp [intOf]; omega
    · have NM := Kept.mk (nums_of KO.out)
      obtain ⟨g0, rfl, hg0, hr0⟩ := NM.out.some (by omega)
      have KR0 := Kept.mk (hr0 D (by omega))
      clear hr0
      go_wp2_with fail
      refine (new_any _ k c F _ (by omega) NM.out (fun i hi => HFB.out i (by omega))).mono ?_; rintro z' w3 ⟨B, gr, gw, rfl, b3, U3, p1, p2, p3⟩
      have KU3 := Kept.mk U3
      have KB3 := Kept.mk (KW.out.trans (b3.mono (by omega)))
      have KR3 := Kept.mk ((b3.cell (p := ⟨g0, D, none⟩) hg0).trans KR0.out)
      have hg3 : g0 < w3.heap.size := Nat.lt_of_lt_of_le hg0 b3.size
      have hl3 := b3.size
      clear b3 U3
      go_wp2_with fail
      refine (get_is _ HW.out (by omega) (by omega) HD.out rfl rfl rfl).mono ?_; rintro z' w4 ⟨rfl, m4⟩
      go_wp2_with fail
      refine (get_is _ HW.out (by omega) (by omega) HG.out rfl rfl rfl).mono ?_; rintro z' w5 ⟨rfl, m5⟩
      go_wp2_with fail
      refine (address_is _ HA.out).mono ?_; rintro z' w6 ⟨rfl, m6⟩
      go_wp2_with fail
      refine (put_is (W := 0) (L := 16) (M := 8) _ (by omega) (by omega) (by omega) h8.out H1.out rfl rfl rfl rfl).mono ?_; rintro z' w7 ⟨rfl, m7⟩
      go_wp2_with fail
      refine (put_is (L := 2) (M := 14) _ HR1.out (by omega) (by omega) h14.out H2.out rfl rfl rfl rfl).mono ?_; rintro z' w8 ⟨rfl, m8⟩
      have m8' := (((m4.trans m5).trans m6).trans m7).trans m8
      have KU8 := Kept.mk (KU3.out.mild m8')
      have KB8 := Kept.mk (KB3.out.trans (m8'.below.mono (by omega)))
      have hl8 := m8'.below.size
      have KR8 := Kept.mk ((m8'.below.cell (p := ⟨g0, D, none⟩) hg3).trans KR3.out)
      have hg8 : g0 < w8.heap.size := by omega
      clear m4 m5 m6 m7 m8 m8'
      go_wp2_with fail
      refine (post_noreg KU8.out W D G false 0 y HW.out HS.out (by omega) HY.out hy).mono ?_; rintro z' w9 ⟨rfl, m9⟩
      have KB9 := Kept.mk (KB8.out.trans (m9.below.mono (by omega)))
      have c9 := (m9.below.cell (p := ⟨g0, D, none⟩) hg8).trans (KR8.out.trans (by rw [HY.out]))
      go_wp2_with fail
      go_ret
      exact ⟨rfl, KB9.out⟩

set_option maxRecDepth 100000 in
set_option maxHeartbeats 2000000 in
theorem coreA4 (n cap : Nat) (z F : Nat → Int) (W D G A R1 : Nat) (w : World) (HW : Kept (W < 4294967296)) (hn : n ≤ 6) (HD : Kept (getN W 16 8 = D)) (HG : Kept (getN W 2 14 = G)) (hD : D < 256) (hG : G < 16384) (HA : Kept (AddrR (D : Int) (G : Int) (A : Int) 0)) (H1 : Kept (putN 0 16 8 D = R1)) (H2 : Kept (putN R1 2 14 G = A)) (HR1 : Kept (R1 < 4294967296)) (HF : Kept (∀ j, j < n → pk (z j) 9 = F j)) (HFB : Kept (∀ j, j < n → 0 ≤ F j ∧ F j ≤ 8)) (b off : Nat) (hb0 : b < w.heap.size) (h0 : 0 < n) (hcell : Kept (∀ j, j < n → w.cell? ⟨b, off + j, none⟩ = some (.int .i64 (z j)))) (hlo : Kept (∀ j, j < n → -9223372036854775808 ≤ z j ∧ z j ≤ 9223372036854775807)) (HS : Kept (SplitR W (D : Int) (G : Int))) (hAW : ((A : Int) == (W : Int)) = true) (hDn : D < n) (y : Int) (HY : Kept (F D = y)) (hy : (G : Int) < y) :
    Calls Try.prog 4 #[.slice (some ⟨b, off, none⟩) n cap, .int .u32 (W : Int)] w fun e w' => e = .returned (.bool true) ∧ Below w.heap.size w w' := by
  obtain ⟨i0, hi, hz0, hz1, hz2⟩ := info_parts info3
  have KI := Kept.mk hi
  have KZ0 := Kept.mk hz0
  have KZ1 := Kept.mk hz1
  have KZ2 := Kept.mk hz2
  clear hi hz0 hz1 hz2
  have h8 := Kept.mk (show D < 2 ^ 8 by omega)
  have h14 := Kept.mk (show G < 2 ^ 14 by omega)
  go_enter Try.func4, Try.ntmps4
  go_wp2_with fail
  refine (shown_any _).mono ?_; rintro z' w1 ⟨rfl, m1⟩
  have KB1 := Kept.mk m1.below
  clear m1
  go_wp2_with fail
  go_loopw [6, 7] (fun v i wr => ∃ k : Nat, k ≤ n ∧ i = .int .i64 k ∧ ∃ a c, v = .slice a k c ∧ wr.ownsRow w1.heap.size 3 1 (.slice a k c) k (numsV k F) ∧ Below w1.heap.size w1 wr) (fun _ i _ => n - (intOf i).toNat)
  case atStart => exact ⟨0, by omega, rfl, none, 0, rfl, World.ownsRow_nil _ _ _ _, Below.refl _ _⟩
  case round =>
    obtain ⟨k, hk, rfl, a, c, rfl, own0, bel0⟩ := hrel
    have KO := Kept.mk own0
    have KB := Kept.mk bel0
    have hl1 := KB1.out.size
    have hl2 := bel0.size
    have KW := Kept.mk (KB1.out.trans (bel0.mono hl1))
    clear own0 bel0
    by_cases hlt : k < n
    · have q1 := (KW.out.cell (p := ⟨b, off + k, none⟩) hb0).trans (hcell.out k hlt)
      have HF1 := Kept.mk (HF.out k hlt)
      have HL1 := Kept.mk (hlo.out k hlt)
      have lo1 := (HFB.out k hlt).1
      have lo2 := (HFB.out k hlt).2
      obtain ⟨x, hx⟩ : ∃ x, z k = x := ⟨_, rfl⟩
      obtain ⟨u, hu⟩ : ∃ u, F k = u := ⟨_, rfl⟩
      have HU := Kept.mk hu
      rw [hx] at q1 HF1 HL1
      rw [hu] at HF1 lo1 lo2
      clear hx hu
      go_wp2_with fail
      refine (pick_is _ HL1.out (by omega) (by omega) HF1.out).mono ?_; rintro z' w' ⟨rfl, rfl⟩
      go_wp2_with (at_builtin; refine wpList_append_own _ rfl (.tmp 36) (.tmp 42) 32 rfl w1.heap.size 3 i0 (.int .i64 0) 1 8 Try.underlying32 KI.out KZ0.out KZ1.out KZ2.out rfl (by decide) _ _ _ rfl (KO.out.alloc _) ⟨w'.heap.size, 0, none⟩ 1 1 [.int .i64 u] rfl rfl (one_new _ _ _) (by simp [Value.oneCell']) (by unfold maxLen; omega) (by omega) (by simp; omega) ?_; intro v' w2 own2 grow2 _; obtain ⟨a', c', hv⟩ := owns_form own2; subst hv; have KO2 := Kept.mk own2; have KG2 := Kept.mk ((KB.out.alloc hl2 (.cells #[.int .i64 u] 3)).grown grow2 (by simp; omega) (fun j e => (KO.out.lt j e).1)); clear own2 grow2)
      go_roundw
      case rel => exact ⟨k + 1, by omega, by go_num, a', c', rfl, by rw [numsV_succ, HU.out]; exact KO2.out, KG2.out⟩
      case measure => simp [intOf]; omega
    · have NM := Kept.mk (nums_of KO.out)
      obtain ⟨g0, rfl, hg0, hr0⟩ := NM.out.some (by omega)
      have KR0 := Kept.mk (hr0 D (by omega))
      clear hr0
      go_wp2_with fail
      refine (new_any _ k c F _ (by omega) NM.out (fun i hi => HFB.out i (by omega))).mono ?_; rintro z' w3 ⟨B, gr, gw, rfl, b3, U3, p1, p2, p3⟩
      have KU3 := Kept.mk U3
      have KB3 := Kept.mk (KW.out.trans (b3.mono (by omega)))
      have KR3 := Kept.mk ((b3.cell (p := ⟨g0, D, none⟩) hg0).trans KR0.out)
      have hg3 : g0 < w3.heap.size := Nat.lt_of_lt_of_le hg0 b3.size
      have hl3 := b3.size
      clear b3 U3
      go_wp2_with fail
      refine (get_is _ HW.out (by omega) (by omega) HD.out rfl rfl rfl).mono ?_; rintro z' w4 ⟨rfl, m4⟩
      go_wp2_with fail
      refine (get_is _ HW.out (by omega) (by omega) HG.out rfl rfl rfl).mono ?_; rintro z' w5 ⟨rfl, m5⟩
      go_wp2_with fail
      refine (address_is _ HA.out).mono ?_; rintro z' w6 ⟨rfl, m6⟩
      go_wp2_with fail
      refine (put_is (W := 0) (L := 16) (M := 8) _ (by omega) (by omega) (by omega) h8.out H1.out rfl rfl rfl rfl).mono ?_; rintro z' w7 ⟨rfl, m7⟩
      go_wp2_with fail
      refine (put_is (L := 2) (M := 14) _ HR1.out (by omega) (by omega) h14.out H2.out rfl rfl rfl rfl).mono ?_; rintro z' w8 ⟨rfl, m8⟩
      have m8' := (((m4.trans m5).trans m6).trans m7).trans m8
      have KU8 := Kept.mk (KU3.out.mild m8')
      have KB8 := Kept.mk (KB3.out.trans (m8'.below.mono (by omega)))
      have hl8 := m8'.below.size
      have KR8 := Kept.mk ((m8'.below.cell (p := ⟨g0, D, none⟩) hg3).trans KR3.out)
      have hg8 : g0 < w8.heap.size := by omega
      clear m4 m5 m6 m7 m8 m8'
      go_wp2_with fail
      refine (post_q (base := w8.heap.size) (B0 := wr.heap.size) KU8.out KU8.out.lb KU8.out.r.lt KU8.out.q.lt (Nat.le_refl _) (by omega) (by omega) W D G false 0 y HW.out HS.out (by omega) HY.out hy (by omega) (by omega) (m := 0) (xs := []) (by omega) (Or.inl (World.ownsRow_nil _ _ _ _))).mono ?_; rintro z' w9 ⟨qv, qcap, qg, hqv, rfl, b9, _⟩
      clear hqv
      have KB9 := Kept.mk (KB8.out.trans (b9.mono (by omega)))
      have c9 := (b9.cell (p := ⟨g0, D, none⟩) (by dsimp only; omega)).trans (KR8.out.trans (by rw [HY.out]))
      go_wp2_with fail
      go_ret
      exact ⟨rfl, KB9.out⟩

set_option maxRecDepth 100000 in
set_option maxHeartbeats 2000000 in
theorem coreE1 (n cap : Nat) (z F : Nat → Int) (W D G A R1 : Nat) (w : World) (HW : Kept (W < 4294967296)) (hn : n ≤ 6) (HD : Kept (getN W 16 8 = D)) (HG : Kept (getN W 2 14 = G)) (hD : D < 256) (hG : G < 16384) (HA : Kept (AddrR (D : Int) (G : Int) (A : Int) 0)) (H1 : Kept (putN 0 16 8 D = R1)) (H2 : Kept (putN R1 2 14 G = A)) (HR1 : Kept (R1 < 4294967296)) (HF : Kept (∀ j, j < n → pk (z j) 9 = F j)) (HFB : Kept (∀ j, j < n → 0 ≤ F j ∧ F j ≤ 8)) (ao : Option Addr) (h0 : n ≤ 0) (HS : Kept (SplitR W (-1) (-1))) (hAW : ((A : Int) == (W : Int)) = false) :
    Calls Try.prog 4 #[.slice ao n cap, .int .u32 (W : Int)] w fun e w' => e = .returned (.bool true) ∧ Below w.heap.size w w' := by
  obtain ⟨i0, hi, hz0, hz1, hz2⟩ := info_parts info3
  have KI := Kept.mk hi
  have KZ0 := Kept.mk hz0
  have KZ1 := Kept.mk hz1
  have KZ2 := Kept.mk hz2
  clear hi hz0 hz1 hz2
  have h8 := Kept.mk (show D < 2 ^ 8 by omega)
  have h14 := Kept.mk (show G < 2 ^ 14 by omega)
  go_enter Try.func4, Try.ntmps4
  go_wp2_with fail
  refine (shown_any _).mono ?_; rintro z' w1 ⟨rfl, m1⟩
  have KB1 := Kept.mk m1.below
  clear m1
  go_wp2_with fail
  go_loopw [6, 7] (fun v i wr => ∃ k : Nat, k ≤ n ∧ i = .int .i64 k ∧ ∃ a c, v = .slice a k c ∧ wr.ownsRow w1.heap.size 3 1 (.slice a k c) k (numsV k F) ∧ Below w1.heap.size w1 wr) (fun _ i _ => n - (intOf i).toNat)
  case atStart => exact ⟨0, by omega, rfl, none, 0, rfl, World.ownsRow_nil _ _ _ _, Below.refl _ _⟩
  case round =>
    obtain ⟨k, hk, rfl, a, c, rfl, own0, bel0⟩ := hrel
    have KO := Kept.mk own0
    have KB := Kept.mk bel0
    have hl1 := KB1.out.size
    have hl2 := bel0.size
    have KW := Kept.mk (KB1.out.trans (bel0.mono hl1))
    clear own0 bel0
    have NM := Kept.mk (nums_of KO.out)
    go_wp2_with fail
    refine (new_any _ k c F _ (by omega) NM.out (fun i hi => HFB.out i (by omega))).mono ?_; rintro z' w3 ⟨B, gr, gw, rfl, b3, U3, p1, p2, p3⟩
    have KU3 := Kept.mk U3
    have KB3 := Kept.mk (KW.out.trans (b3.mono (by omega)))
    have hl3 := b3.size
    clear b3 U3
    go_wp2_with fail
    refine (get_is _ HW.out (by omega) (by omega) HD.out rfl rfl rfl).mono ?_; rintro z' w4 ⟨rfl, m4⟩
    go_wp2_with fail
    refine (get_is _ HW.out (by omega) (by omega) HG.out rfl rfl rfl).mono ?_; rintro z' w5 ⟨rfl, m5⟩
    go_wp2_with fail
    refine (address_is _ HA.out).mono ?_; rintro z' w6 ⟨rfl, m6⟩
    go_wp2_with fail
    refine (put_is (W := 0) (L := 16) (M := 8) _ (by omega) (by omega) (by omega) h8.out H1.out rfl rfl rfl rfl).mono ?_; rintro z' w7 ⟨rfl, m7⟩
    go_wp2_with fail
    refine (put_is (L := 2) (M := 14) _ HR1.out (by omega) (by omega) h14.out H2.out rfl rfl rfl rfl).mono ?_; rintro z' w8 ⟨rfl, m8⟩
    have m8' := (((m4.trans m5).trans m6).trans m7).trans m8
    have KU8 := Kept.mk (KU3.out.mild m8')
    have KB8 := Kept.mk (KB3.out.trans (m8'.below.mono (by omega)))
    have hl8 := m8'.below.size
    clear m4 m5 m6 m7 m8 m8'
    go_wp2_with fail
    refine (post_nodev KU8.out W (-1) (-1) false 0 HW.out HS.out (Or.inl (by omega))).mono ?_; rintro z' w9 ⟨rfl, m9⟩
    have KB9 := Kept.mk (KB8.out.trans (m9.below.mono (by omega)))
    go_wp2_with fail
    go_ret
    exact ⟨rfl, KB9.out⟩

set_option maxRecDepth 100000 in
set_option maxHeartbeats 2000000 in
theorem coreE2 (n cap : Nat) (z F : Nat → Int) (W D G A R1 : Nat) (w : World) (HW : Kept (W < 4294967296)) (hn : n ≤ 6) (HD : Kept (getN W 16 8 = D)) (HG : Kept (getN W 2 14 = G)) (hD : D < 256) (hG : G < 16384) (HA : Kept (AddrR (D : Int) (G : Int) (A : Int) 0)) (H1 : Kept (putN 0 16 8 D = R1)) (H2 : Kept (putN R1 2 14 G = A)) (HR1 : Kept (R1 < 4294967296)) (HF : Kept (∀ j, j < n → pk (z j) 9 = F j)) (HFB : Kept (∀ j, j < n → 0 ≤ F j ∧ F j ≤ 8)) (ao : Option Addr) (h0 : n ≤ 0) (HS : Kept (SplitR W (D : Int) (G : Int))) (hAW : ((A : Int) == (W : Int)) = true) (hDn : n ≤ D) :
    Calls Try.prog 4 #[.slice ao n cap, .int .u32 (W : Int)] w fun e w' => e = .returned (.bool true) ∧ Below w.heap.size w w' := by
  obtain ⟨i0, hi, hz0, hz1, hz2⟩ := info_parts info3
  have KI := Kept.mk hi
  have KZ0 := Kept.mk hz0
  have KZ1 := Kept.mk hz1
  have KZ2 := Kept.mk hz2
  clear hi hz0 hz1 hz2
  have h8 := Kept.mk (show D < 2 ^ 8 by omega)
  have h14 := Kept.mk (show G < 2 ^ 14 by omega)
  go_enter Try.func4, Try.ntmps4
  go_wp2_with fail
  refine (shown_any _).mono ?_; rintro z' w1 ⟨rfl, m1⟩
  have KB1 := Kept.mk m1.below
  clear m1
  go_wp2_with fail
  go_loopw [6, 7] (fun v i wr => ∃ k : Nat, k ≤ n ∧ i = .int .i64 k ∧ ∃ a c, v = .slice a k c ∧ wr.ownsRow w1.heap.size 3 1 (.slice a k c) k (numsV k F) ∧ Below w1.heap.size w1 wr) (fun _ i _ => n - (intOf i).toNat)
  case atStart => exact ⟨0, by omega, rfl, none, 0, rfl, World.ownsRow_nil _ _ _ _, Below.refl _ _⟩
  case round =>
    obtain ⟨k, hk, rfl, a, c, rfl, own0, bel0⟩ := hrel
    have KO := Kept.mk own0
    have KB := Kept.mk bel0
    have hl1 := KB1.out.size
    have hl2 := bel0.size
    have KW := Kept.mk (KB1.out.trans (bel0.mono hl1))
    clear own0 bel0
    have NM := Kept.mk (nums_of KO.out)
    go_wp2_with fail
    refine (new_any _ k c F _ (by omega) NM.out (fun i hi => HFB.out i (by omega))).mono ?_; rintro z' w3 ⟨B, gr, gw, rfl, b3, U3, p1, p2, p3⟩
    have KU3 := Kept.mk U3
    have KB3 := Kept.mk (KW.out.trans (b3.mono (by omega)))
    have hl3 := b3.size
    clear b3 U3
    go_wp2_with fail
    refine (get_is _ HW.out (by omega) (by omega) HD.out rfl rfl rfl).mono ?_; rintro z' w4 ⟨rfl, m4⟩
    go_wp2_with fail
    refine (get_is _ HW.out (by omega) (by omega) HG.out rfl rfl rfl).mono ?_; rintro z' w5 ⟨rfl, m5⟩
    go_wp2_with fail
    refine (address_is _ HA.out).mono ?_; rintro z' w6 ⟨rfl, m6⟩
    go_wp2_with fail
    refine (put_is (W := 0) (L := 16) (M := 8) _ (by omega) (by omega) (by omega) h8.out H1.out rfl rfl rfl rfl).mono ?_; rintro z' w7 ⟨rfl, m7⟩
    go_wp2_with fail
    refine (put_is (L := 2) (M := 14) _ HR1.out (by omega) (by omega) h14.out H2.out rfl rfl rfl rfl).mono ?_; rintro z' w8 ⟨rfl, m8⟩
    have m8' := (((m4.trans m5).trans m6).trans m7).trans m8
    have KU8 := Kept.mk (KU3.out.mild m8')
    have KB8 := Kept.mk (KB3.out.trans (m8'.below.mono (by omega)))
    have hl8 := m8'.below.size
    clear m4 m5 m6 m7 m8 m8'
    go_wp2_with fail
    refine (post_nodev KU8.out W (D : Int) (G : Int) false 0 HW.out HS.out (Or.inr (by omega))).mono ?_; rintro z' w9 ⟨rfl, m9⟩
    have KB9 := Kept.mk (KB8.out.trans (m9.below.mono (by omega)))
    go_wp2_with fail
    go_ret
    exact ⟨rfl, KB9.out⟩


set_option maxRecDepth 100000 in
theorem coreLong (ao : Option Addr) (n cap : Nat) (W : Int) (w : World) (hl : 6 < n) (hl2 : n ≤ 9223372036854775807) :
    Calls Try.prog 4 #[.slice ao n cap, .int .u32 W] w fun e w' => e = .returned (.bool true) ∧ Below w.heap.size w w' := by
  go_enter Try.func4, Try.ntmps4
  go_wp2_with fail
  refine (shown_any _).mono ?_; rintro z' w1 ⟨rfl, m1⟩
  go_wp2_with fail
  go_ret
  exact ⟨rfl, m1.below⟩

theorem walk (a0 : Option Addr) (len0 cap0 : Nat) (z0 : List Int) (a1 : Int) (w : World) (w0 : IsRow .i64 w a0 len0 cap0 z0) (w1 : (Lit.int .u32 a1).wf = true) :
    Calls Try.prog 4 #[.slice a0 len0 cap0, .int .u32 a1] w fun e w' => e = .returned (.bool true) ∧ Below w.heap.size w w' := by
  obtain ⟨A0, A1⟩ := bounds_u32 w1
  obtain ⟨W, rfl⟩ := Int.eq_ofNat_of_zero_le A0
  have hm := isRow_max w0
  by_cases hn : 6 < len0
  · exact coreLong a0 len0 cap0 W w hn hm
  have hn : len0 ≤ 6 := by omega
  have C := isRow_came w0
  have dl : getN W 16 8 < 256 := getN_lt W 16 8
  have gl : getN W 2 14 < 16384 := getN_lt W 2 14
  have HA : AddrR ((getN W 16 8 : Nat) : Int) ((getN W 2 14 : Nat) : Int) ((65536 * getN W 16 8 + 4 * getN W 2 14 : Nat) : Int) 0 := Or.inr ⟨by omega, by omega, by omega, by omega, by omega, rfl⟩
  have H2 : putN (putN 0 16 8 (getN W 16 8)) 2 14 (getN W 2 14) = 65536 * getN W 16 8 + 4 * getN W 2 14 := addr_eq dl gl
  have HR1 : putN 0 16 8 (getN W 16 8) < 4294967296 := putN_lt (by omega) (by omega) (by omega)
  have HFB : ∀ j, j < len0 → 0 ≤ pk (z0.getD j 0) 9 ∧ pk (z0.getD j 0) 9 ≤ 8 := fun j _ => ⟨pk_lo _ _ (by omega), by have := pk_hi (z0.getD j 0) 9 (by omega); omega⟩
  by_cases hv : W % 4 ≠ 0 ∨ 16777216 ≤ W
  · have HS : SplitR W (-1) (-1) := Or.inl ⟨hv, rfl, rfl⟩
    have hAW : (((65536 * getN W 16 8 + 4 * getN W 2 14 : Nat) : Int) == (W : Int)) = false := by
      rw [beq_eq_false_iff_ne]; omega
    by_cases h0 : len0 = 0
    · exact coreE1 len0 cap0 (fun j => z0.getD j 0) (fun j => pk (z0.getD j 0) 9) W _ _ _ _ w ⟨by omega⟩ hn ⟨rfl⟩ ⟨rfl⟩ dl gl ⟨HA⟩ ⟨rfl⟩ ⟨H2⟩ ⟨HR1⟩ ⟨fun _ _ => rfl⟩ ⟨HFB⟩ a0 (by omega) ⟨HS⟩ hAW
    · obtain ⟨b, off, rfl, hb0, hc⟩ := C.some h0
      exact coreA1 len0 cap0 (fun j => z0.getD j 0) (fun j => pk (z0.getD j 0) 9) W _ _ _ _ w ⟨by omega⟩ hn ⟨rfl⟩ ⟨rfl⟩ dl gl ⟨HA⟩ ⟨rfl⟩ ⟨H2⟩ ⟨HR1⟩ ⟨fun _ _ => rfl⟩ ⟨HFB⟩ b off hb0 (by omega) ⟨hc⟩ ⟨C.lo⟩ ⟨HS⟩ hAW
  · have e1 : getN W 16 8 = W / 65536 := by unfold getN; omega
    have e2 : getN W 2 14 = W % 65536 / 4 := by unfold getN; omega
    have HS : SplitR W ((getN W 16 8 : Nat) : Int) ((getN W 2 14 : Nat) : Int) := Or.inr ⟨by omega, by omega, by rw [e1], by rw [e2]⟩
    have hAW : (((65536 * getN W 16 8 + 4 * getN W 2 14 : Nat) : Int) == (W : Int)) = true := by
      rw [beq_iff_eq]; omega
    by_cases hD : len0 ≤ getN W 16 8
    · by_cases h0 : len0 = 0
      · exact coreE2 len0 cap0 (fun j => z0.getD j 0) (fun j => pk (z0.getD j 0) 9) W _ _ _ _ w ⟨by omega⟩ hn ⟨rfl⟩ ⟨rfl⟩ dl gl ⟨HA⟩ ⟨rfl⟩ ⟨H2⟩ ⟨HR1⟩ ⟨fun _ _ => rfl⟩ ⟨HFB⟩ a0 (by omega) ⟨HS⟩ hAW hD
      · obtain ⟨b, off, rfl, hb0, hc⟩ := C.some h0
        exact coreA2 len0 cap0 (fun j => z0.getD j 0) (fun j => pk (z0.getD j 0) 9) W _ _ _ _ w ⟨by omega⟩ hn ⟨rfl⟩ ⟨rfl⟩ dl gl ⟨HA⟩ ⟨rfl⟩ ⟨H2⟩ ⟨HR1⟩ ⟨fun _ _ => rfl⟩ ⟨HFB⟩ b off hb0 (by omega) ⟨hc⟩ ⟨C.lo⟩ ⟨HS⟩ hAW hD
    · obtain ⟨b, off, rfl, hb0, hc⟩ := C.some (by omega)
      by_cases hG : pk (z0.getD (getN W 16 8) 0) 9 ≤ ((getN W 2 14 : Nat) : Int)
      · exact coreA3 len0 cap0 (fun j => z0.getD j 0) (fun j => pk (z0.getD j 0) 9) W _ _ _ _ w ⟨by omega⟩ hn ⟨rfl⟩ ⟨rfl⟩ dl gl ⟨HA⟩ ⟨rfl⟩ ⟨H2⟩ ⟨HR1⟩ ⟨fun _ _ => rfl⟩ ⟨HFB⟩ b off hb0 (by omega) ⟨hc⟩ ⟨C.lo⟩ ⟨HS⟩ hAW (by omega) _ ⟨rfl⟩ hG (decide_eq_false (by omega))
      · exact coreA4 len0 cap0 (fun j => z0.getD j 0) (fun j => pk (z0.getD j 0) 9) W _ _ _ _ w ⟨by omega⟩ hn ⟨rfl⟩ ⟨rfl⟩ dl gl ⟨HA⟩ ⟨rfl⟩ ⟨H2⟩ ⟨HR1⟩ ⟨fun _ _ => rfl⟩ ⟨HFB⟩ b off hb0 (by omega) ⟨hc⟩ ⟨C.lo⟩ ⟨HS⟩ hAW (by omega) _ ⟨rfl⟩ (by omega)

set_option maxRecDepth 100000 in
theorem lifted (os : Os) (started : os.Started) (H : Type) (enc : TypeId × Value → H) :
    ReturnsInHanded {} Try.checked os 4 .any (Rows.busBitsSpec.pre6 enc Try.prog Try.f4 Rows.busBitsRow.domain false) (Rows.busBitsSpec.post enc Try.prog Try.f4 false true false false) := by
  refine returnsInHanded_of_change (C := Try.checked) own started (by kernel_rfl) Try.func4
    (ChangeSpec.witness6 (enc := enc) (C := Try.checked) false ⟨#[], #[.slice none 0 0, .int .u32 0], []⟩ 8 (by kernel_rfl) (by kernel_rfl) (by kernel_rfl) (by kernel_rfl)) ?_
  intro W base args ds gs before hval0 hW hcnd _
  have hval : ∀ (j : Nat) t v, Try.f4.params[j]? = some t → args[j]? = some v → Value.okWide Try.prog W .any base t v := hval0
  have hW' := hW
  obtain ⟨p, q, hA0, hV, rfl, hfz, hnd⟩ := hW
  have hA : DataW.TrodAll enc Try.prog W 0 (fun _ => true) true Try.f4.params.toList args.toList ds p := hA0
  rw [Try.params4] at hA hval
  obtain ⟨v0, vs0, d0, ds0, p0, q0, hargs, rfl, rfl, h0, r0⟩ := trodAll_cons hA
  obtain ⟨v1, vs1, d1, ds1, p1, q1, rfl, rfl, rfl, h1, r1⟩ := trodAll_cons r0
  obtain ⟨rfl, rfl, rfl⟩ := trodAll_nil r1
  obtain rfl : args = #[v0, v1] := by cases args; simp_all
  obtain ⟨rfl, rfl⟩ := trodVars_none hV
  obtain ⟨a0, len0, cap0, rfl⟩ := okWide_slice Try.underlying32 (hval 0 32 v0 rfl rfl)
  have k0 := h0
  have lt0 : ∀ x ∈ p0, x.block < W.heap.size := by obtain ⟨m, hm⟩ := k0; exact DataW.trod_lt m _ _ _ hm
  obtain ⟨z0, w0⟩ : ∃ zs, IsRow .i64 W a0 len0 cap0 zs := by
    obtain ⟨fuel, hf⟩ := h0
    rcases open_ints Try.underlying32 Try.underlying3 (by kernel_rfl) hf with ⟨hcs, _⟩ | ⟨x, l, c, zs, hcs, _, hl, hm, hz, _, hcell, hwz⟩
    · simp [Value.cells] at hcs
      obtain ⟨rfl, rfl, rfl⟩ := hcs
      exact ⟨[], .inl ⟨rfl, rfl, rfl, rfl⟩⟩
    · simp [Value.cells] at hcs
      obtain ⟨rfl, rfl, rfl⟩ := hcs
      refine ⟨zs, .inr ⟨_, rfl, hl, hm, by simpa using hz, hcell, hwz, fun i hi => ?_⟩⟩
      exact World.cell?_lt' (hcell i hi)
  obtain ⟨a1, rfl, rfl, rfl, w1⟩ := open_int Try.underlying22 (hval 1 22 v1 rfl rfl) h1
  clear hA0 hval0
  refine (walk a0 len0 cap0 z0 a1 W w0 w1).mono fun e W' ⟨he, bel⟩ => ?_
  subst he
  exact ⟨_, rfl, _, _, _, [], _, [], hW', trodAll_mk1 (shut_bool Try.underlying4 _), (trodAll_cons_mk (Below.trod laidOut (by kernel_rfl) (of_decide_eq_true (by kernel_rfl)) k0 bel lt0) (trodAll_cons_mk (shut_int Try.underlying22 w1) trodAll_mk0)), rfl, bel.frame _, fun h => by cases h⟩

theorem over : Rows.busBitsRow.holds Try.pinned (OpenSpec.ofChange Rows.busBitsSpec) :=
  OpenClaim.holds_of_wide 4 Try.f4 rfl rfl rfl rfl rfl rfl rfl ⟨rfl, rfl, rfl, rfl, rfl⟩ rfl rfl rfl rfl rfl (by kernel_rfl) Try.func4 (by kernel_rfl)
    (of_decide_eq_true (by kernel_rfl)) (by unfold Func.isWrapper; first | (rw [if_pos (by decide +kernel)]; kernel_rfl) | (rw [if_neg (by decide +kernel)]; exact ⟨rfl, rfl⟩))
    (fun os started H enc _ => lifted os started H enc)

theorem proved : Rows.BusBitsSaid :=
  over
#print axioms proved
end Go.Proofs.Ytdjjgloloahlgaa.busBits
