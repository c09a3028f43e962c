/- BusFills: for every input the law returns true, and each argument reads afterwards as it read before. No condition. -/
import Derived.Test.YtdjjgloloahlgaaRows
import Derived.WalkKit
import Derived.ProofKit
import Derived.OpenShut
import Derived.ShutString
import Derived.ChangeOld
import Derived.Below
import Derived.Lib.SmallJoins
import Derived.Test.YtdjjgloloahlgaaBusFill
import Derived.Deep.Grids
import Derived.BigQuiet
namespace Go.Proofs.Ytdjjgloloahlgaa.busFills
open Go.ChangeShapes Go.WideShapes Go.ChangeAt Go.RowKit
open Go.ChangeMaps (open_string shut_string)
set_option linter.unusedVariables false

theorem own : ownKnob Try.prog.godebug = none := by kernel_rfl
theorem laidOut : laidOutB Try.prog = true := by kernel_rfl

theorem World.cell?_lt' {w : World} {a : Addr} {v : Value} (h : w.cell? a = some v) : a.block < w.heap.size := by
  by_cases c : a.block < w.heap.size
  · exact c
  · unfold World.cell? at h
    rw [Array.getElem?_eq_none (by omega)] at h
    simp at h

/-- What the walk is told of a slice of integers that came in: it is nil; or it leads to a row of cells. -/
def IsRow (k : IntKind) (w : World) (a : Option Addr) (len cap : Nat) (zs : List Int) : Prop :=
  (a = none ∧ len = 0 ∧ cap = 0 ∧ zs = []) ∨
  ∃ x, a = some x ∧ len ≤ cap ∧ cap ≤ maxLen ∧ zs.length = cap ∧ (∀ i, i < zs.length → w.cell? (x.add i) = some (.int k (zs.getD i 0))) ∧ (∀ n ∈ zs, (Lit.int k n).wf = true) ∧ ∀ i, i < zs.length → (x.add i).block < w.heap.size

/-- What the walk is told of a slice of bools that came in. -/
def IsRowB (w : World) (a : Option Addr) (len cap : Nat) (f : Nat → Bool) : Prop :=
  (a = none ∧ len = 0 ∧ cap = 0) ∨
  ∃ x, a = some x ∧ len ≤ cap ∧ cap ≤ maxLen ∧ (∀ i, i < cap → w.cell? (x.add i) = some (.bool (f i))) ∧ ∀ i, i < cap → (x.add i).block < w.heap.size

theorem isRow_came {w : World} {a : Option Addr} {len cap : Nat} {z : List Int} (h : IsRow .i64 w a len cap z) : Came64 w a len (fun j => z.getD j 0) := by
  rcases h with ⟨rfl, rfl, rfl, rfl⟩ | ⟨x, rfl, h1, h2, h3, h4, h5, h6⟩
  · exact ⟨fun j hj => absurd hj (by omega), fun e => absurd rfl e⟩
  · refine ⟨fun j hj => ?_, fun hn => ?_⟩
    · have hz : j < z.length := by omega
      have := bounds_i64 (h5 (z.getD j 0) (by simp [List.getD, List.getElem?_eq_getElem hz]))
      omega
    · obtain ⟨b, off, spot⟩ := x
      have hc := h4 0 (by omega)
      have hspot : spot = none := by simpa [Addr.add] using World.cell?_spot hc
      subst hspot
      refine ⟨b, off, rfl, by simpa [Addr.add] using h6 0 (by omega), fun j hj => ?_⟩
      have := h4 j (by omega)
      unfold Addr.add at this
      by_cases c : j = 0
      · subst c; simpa using this
      · simpa [c] using this

theorem isRow_max {w : World} {a : Option Addr} {len cap : Nat} {z : List Int} (h : IsRow .i64 w a len cap z) : len ≤ 9223372036854775807 := by
  rcases h with ⟨rfl, rfl, rfl, rfl⟩ | ⟨x, rfl, h1, h2, h3, _⟩
  · omega
  · unfold maxLen at h2; omega

theorem isRowB_some {w : World} {a : Option Addr} {len cap : Nat} {f : Nat → Bool} (h : IsRowB w a len cap f) (hn : len ≠ 0) : ∃ b off, a = some ⟨b, off, none⟩ ∧ b < w.heap.size ∧ ∀ j, j < len → w.cell? ⟨b, off + j, none⟩ = some (.bool (f j)) := by
  rcases h with ⟨rfl, rfl, rfl⟩ | ⟨x, rfl, h1, h2, h4, h6⟩
  · exact absurd rfl hn
  · obtain ⟨b, off, spot⟩ := x
    have hc := h4 0 (by omega)
    have hspot : spot = none := by simpa [Addr.add] using World.cell?_spot hc
    subst hspot
    refine ⟨b, off, rfl, by simpa [Addr.add] using h6 0 (by omega), fun j hj => ?_⟩
    have := h4 j (by omega)
    rw [add_lit] at this
    exact this

theorem isRowB_max {w : World} {a : Option Addr} {len cap : Nat} {f : Nat → Bool} (h : IsRowB w a len cap f) : len ≤ 9223372036854775807 := by
  rcases h with ⟨rfl, rfl, rfl⟩ | ⟨x, rfl, h1, h2, _⟩
  · omega
  · unfold maxLen at h2; omega

set_option maxRecDepth 100000 in
set_option maxHeartbeats 8000000 in
theorem coreA (n cap np capp : Nat) (z F : Nat → Int) (at1 : Int) (w : World) (hn : n ≤ 6) (h0 : 0 < n) (hp : np ≤ 100) (HA0 : Kept (-9223372036854775808 ≤ at1 ∧ at1 ≤ 9223372036854775807)) (HF : Kept (∀ j, j < n → 1 + pk (z j) 8 = F j)) (HFB : Kept (∀ j, j < n → 1 ≤ F j ∧ F j ≤ 8)) (b off : Nat) (hb0 : b < w.heap.size) (hcell : Kept (∀ j, j < n → w.cell? ⟨b, off + j, none⟩ = some (.int .i64 (z j)))) (hlo : Kept (∀ j, j < n → -9223372036854775808 ≤ z j ∧ z j ≤ 9223372036854775807)) (D R A A2 : Nat) (HD : Kept (pk at1 n = (D : Int))) (hDn : D < n) (y : Int) (HY : Kept (F D = y)) (hy1 : 1 ≤ y) (hy8 : y ≤ 8) (HR : Kept ((R : Int) = y - 1)) (HRe : ((R : Int) != y - 1) = false) (HA : Kept (AddrR (D : Int) (y - 1) (A : Int) 0)) (HAl : Kept (A < 4294967296)) (HS : Kept (SplitR A (D : Int) (R : Int))) (HA2 : Kept (AddrR (D : Int) y (A2 : Int) 0)) (HAl2 : Kept (A2 < 4294967296)) (HS2 : Kept (SplitR A2 (D : Int) ((R + 1 : Nat) : Int))) (b2 off2 : Nat) (hb2 : b2 < w.heap.size) (hp0 : 0 < np) (p : Nat → Bool) (hcellp : Kept (∀ j, j < np → w.cell? ⟨b2, off2 + j, none⟩ = some (.bool (p j)))) :
    Calls Try.prog 5 #[.slice (some ⟨b, off, none⟩) n cap, .int .i64 at1, .slice (some ⟨b2, off2, none⟩) np capp] w fun e w' => e = .returned (.bool true) ∧ Below w.heap.size w w' := by
  obtain ⟨i0, hi, hz0, hz1, hz2⟩ := info_parts info3
  have KI := Kept.mk hi
  have KZ0 := Kept.mk hz0
  have KZ1 := Kept.mk hz1
  have KZ2 := Kept.mk hz2
  clear hi hz0 hz1 hz2
  have e0 : ((n : Int) == 0) = false := by rw [beq_eq_false_iff_ne]; omega
  go_enter Try.func5, Try.ntmps5
  go_wp2_with fail
  refine (shown_any _).mono ?_; rintro z' w1 ⟨rfl, m1⟩
  have KB1 := Kept.mk m1.below
  clear m1
  go_wp2_with fail
  go_loopw [8, 9] (fun v i wr => ∃ k : Nat, k ≤ n ∧ i = .int .i64 k ∧ ∃ a c, v = .slice a k c ∧ wr.ownsRow w1.heap.size 3 1 (.slice a k c) k (numsV k F) ∧ Below w1.heap.size w1 wr) (fun _ i _ => n - (intOf i).toNat)
  case atStart => exact ⟨0, by omega, rfl, none, 0, rfl, World.ownsRow_nil _ _ _ _, Below.refl _ _⟩
  case round =>
    obtain ⟨k, hk, rfl, a, c, rfl, own0, bel0⟩ := hrel
    have KO := Kept.mk own0
    have KB := Kept.mk bel0
    have hl1 := KB1.out.size
    have hl2 := bel0.size
    have KW := Kept.mk (KB1.out.trans (bel0.mono hl1))
    clear own0 bel0
    by_cases hlt : k < n
    · have q1 := (KW.out.cell (p := ⟨b, off + k, none⟩) hb0).trans (hcell.out k hlt)
      have HF1 := Kept.mk (HF.out k hlt)
      have HL1 := Kept.mk (hlo.out k hlt)
      have lo1 := (HFB.out k hlt).1
      have lo2 := (HFB.out k hlt).2
      obtain ⟨x, hx⟩ : ∃ x, z k = x := ⟨_, rfl⟩
      rw [hx] at q1 HF1 HL1
      obtain ⟨u, hu⟩ : ∃ u, pk x 8 = u := ⟨_, rfl⟩
      have HU := Kept.mk hu
      have HF2 : Kept (1 + u = F k) := ⟨by rw [← hu]; exact HF1.out⟩
      have u1 : 0 ≤ u := by have := HF2.out; omega
      have u2 : u ≤ 7 := by have := HF2.out; omega
      clear hx hu lo1 lo2 HF1
      go_wp2_with fail
      refine (pick_is _ HL1.out (by omega) (by omega) HU.out).mono ?_; rintro z' w' ⟨rfl, rfl⟩
      go_wp2_with (at_builtin; refine wpList_append_own _ rfl (.tmp 53) (.tmp 60) 32 rfl w1.heap.size 3 i0 (.int .i64 0) 1 8 Try.underlying32 KI.out KZ0.out KZ1.out KZ2.out rfl (by decide) _ _ _ rfl (KO.out.alloc _) ⟨w'.heap.size, 0, none⟩ 1 1 [.int .i64 (1 + u)] rfl rfl (one_new _ _ _) (by simp [Value.oneCell']) (by unfold maxLen; omega) (by omega) (by simp; omega) ?_; intro v' w2 own2 grow2 _; obtain ⟨a', c', hv⟩ := owns_form own2; subst hv; have KO2 := Kept.mk own2; have KG2 := Kept.mk ((KB.out.alloc hl2 (.cells #[.int .i64 (1 + u)] 3)).grown grow2 (by simp; omega) (fun j e => (KO.out.lt j e).1)); clear own2 grow2)
      go_roundw
      case rel => exact ⟨k + 1, by omega, by go_num, a', c', rfl, by rw [numsV_succ, ← HF2.out]; exact KO2.out, KG2.out⟩
      case measure => simp [intOf]; omega
    · have NM := Kept.mk (nums_of KO.out)
      have hkn : k = n := by omega
      have HD' : Kept (pk at1 (k : Int) = (D : Int)) := ⟨by rw [hkn]; exact HD.out⟩
      clear hkn
      obtain ⟨wo, rfl⟩ : ∃ wo : World, wo = wr := ⟨_, rfl⟩
      have hDk : D < k := by omega
      obtain ⟨g0, rfl, hg0, hr0⟩ := NM.out.some (by omega)
      have KR0 := Kept.mk ((hr0 D (by omega)).trans (by rw [HY.out]))
      clear hr0
      go_wp2_with fail
      refine (new_any _ k c F _ (by omega) NM.out (fun i hi => ⟨by have := (HFB.out i (by omega)).1; omega, (HFB.out i (by omega)).2⟩)).mono ?_; rintro z' w3 ⟨B, gr, gw, rfl, b3, U3, p1, p2, p3⟩
      have hl3 := b3.size
      have LY := Kept.mk (Lay.mk (B := B) (gr := gr) (gw := gw) (base := w3.heap.size) (B0 := wo.heap.size) U3.lb U3.r.lt U3.q.lt p1 p3)
      have FX0 := Kept.mk (fill_start (B0 := wo.heap.size) (D := D) (R := (R : Int)) U3 (Nat.le_refl _))
      have KB3 := Kept.mk (KW.out.trans (b3.mono (by omega)))
      have KR3 := Kept.mk ((b3.cell (p := ⟨g0, D, none⟩) hg0).trans KR0.out)
      clear b3 U3
      go_wp2_with fail
      refine (pick_is _ HA0.out (by omega) (by omega) HD'.out).mono ?_; rintro z' w' ⟨rfl, rfl⟩
      have c0 := KR3.out
      go_wp2_with fail
      clear c0
      refine (address_is _ HA.out).mono ?_; rintro z' w4 ⟨rfl, m4⟩
      have FX := Kept.mk (FX0.out.below LY.out m4.below)
      have hl4 := m4.below.size
      have KB4 := Kept.mk (KB3.out.trans (m4.below.mono (by omega)))
      clear m4 FX0
      go_wp2_with fail
      go_loopw [15, 16, 17, 18] (fun a1 a2 a3 a4 wq => ∃ k2 m f t : Nat, k2 ≤ np ∧ a4 = .int .i64 k2 ∧ a1 = .int .i64 m ∧ a2 = .int .i64 t ∧ a3 = .int .i64 f ∧ m ≤ 4 ∧ t ≤ k2 ∧ Kept (f + m = t) ∧ Fill w' wq B gr gw k w'.heap.size wo.heap.size F D (R : Int) m f t) (fun _ _ _ a4 _ => np - (intOf a4).toNat)
      case atStart => exact ⟨0, 0, 0, 0, by omega, rfl, rfl, rfl, rfl, by omega, by omega, ⟨by omega⟩, FX.out⟩
      case round =>
        obtain ⟨k2, m, f, t, hk2, rfl, rfl, rfl, rfl, hm4, htk, hft, FI0⟩ := hrel
        have FI := Kept.mk FI0
        have hbw : Below wo.heap.size w' wr := FI0.choose_spec.choose_spec.2.2.2.2.1
        have hfb : f ≤ 100 := by have := hft.out; omega
        have hsz2 : w'.heap.size ≤ wr.heap.size := hbw.size
        have KB5 := Kept.mk (KB3.out.trans (hbw.mono (by omega)))
        have KR5 := Kept.mk ((hbw.cell (p := ⟨g0, D, none⟩) hg0).trans KR3.out)
        clear FI0 hbw
        by_cases hlt2 : k2 < np
        · have q2 := (KB5.out.cell (p := ⟨b2, off2 + k2, none⟩) hb2).trans (hcellp.out k2 hlt2)
          cases hpb : p k2 with
          | true =>
            rw [hpb] at q2
            clear hpb
            by_cases hm : m < 4
            · have hd4 : decide ((m : Int) < 4) = true := by simp; omega
              go_wp2_with fail
              refine (fill_post FI.out LY.out A _ y HAl.out HS.out hDk HY.out (by have := HR.out; omega) (by omega) hm hft.out).mono ?_; rintro z' w5 ⟨rfl, FX⟩
              have HW9 := Kept.mk FX
              clear FX
              go_wp2_with fail
              go_loopw [23] (fun i wq => ∃ i2 : Nat, i2 ≤ k ∧ i = .int .i64 i2 ∧ ∃ q, wq = (w5).drewN q) (fun i _ => k - (intOf i).toNat)
              case atStart => exact ⟨0, by omega, rfl, 0, rfl⟩
              case round =>
                obtain ⟨i2, hi2, rfl, q, rfl⟩ := hrel
                have HQ9 := Kept.mk (HW9.out.drewN q)
                by_cases hit : i2 < k
                · by_cases hid : i2 = D
                  · subst hid
                    go_wp2_with fail
                    refine (fill_waits HQ9.out (by omega)).mono ?_; rintro z' w' ⟨rfl, rfl⟩
                    go_wp2_with fail
                    go_roundw
                    case rel => exact ⟨i2 + 1, by omega, by go_num, q, rfl⟩
                    case measure => simp [intOf]; omega
                  · have he1 : ((i2 : Int) == (D : Int)) = false := by rw [beq_eq_false_iff_ne]; omega
                    have he2 : ((i2 : Int) != (D : Int)) = true := by rw [bne_iff_ne]; omega
                    go_wp2_with fail
                    refine (fill_other HQ9.out i2 (by omega) hid).mono ?_; rintro z' w' ⟨rfl, rfl⟩
                    go_wp2_with fail
                    go_roundw
                    case rel => exact ⟨i2 + 1, by omega, by go_num, q, rfl⟩
                    case measure => simp [intOf]; omega
                · go_wp2_with fail
                  go_roundw
                  case rel => exact ⟨k2 + 1, m + 1, f, t + 1, by omega, by go_num, by go_num, by go_num, rfl, by omega, by omega, ⟨by have := hft.out; omega⟩, HQ9.out⟩
                  case measure => simp [intOf]; omega
            · have hd4 : decide ((m : Int) < 4) = false := by simp; omega
              go_wp2_with fail
              refine (fill_full FI.out LY.out A _ y HAl.out HS.out hDk HY.out (by have := HR.out; omega) (by omega)).mono ?_; rintro z' w5 ⟨rfl, FX⟩
              have HW9 := Kept.mk FX
              clear FX
              go_wp2_with fail
              go_loopw [23] (fun i wq => ∃ i2 : Nat, i2 ≤ k ∧ i = .int .i64 i2 ∧ ∃ q, wq = (w5).drewN q) (fun i _ => k - (intOf i).toNat)
              case atStart => exact ⟨0, by omega, rfl, 0, rfl⟩
              case round =>
                obtain ⟨i2, hi2, rfl, q, rfl⟩ := hrel
                have HQ9 := Kept.mk (HW9.out.drewN q)
                by_cases hit : i2 < k
                · by_cases hid : i2 = D
                  · subst hid
                    go_wp2_with fail
                    refine (fill_waits HQ9.out (by omega)).mono ?_; rintro z' w' ⟨rfl, rfl⟩
                    go_wp2_with fail
                    go_roundw
                    case rel => exact ⟨i2 + 1, by omega, by go_num, q, rfl⟩
                    case measure => simp [intOf]; omega
                  · have he1 : ((i2 : Int) == (D : Int)) = false := by rw [beq_eq_false_iff_ne]; omega
                    have he2 : ((i2 : Int) != (D : Int)) = true := by rw [bne_iff_ne]; omega
                    go_wp2_with fail
                    refine (fill_other HQ9.out i2 (by omega) hid).mono ?_; rintro z' w' ⟨rfl, rfl⟩
                    go_wp2_with fail
                    go_roundw
                    case rel => exact ⟨i2 + 1, by omega, by go_num, q, rfl⟩
                    case measure => simp [intOf]; omega
                · go_wp2_with fail
                  go_roundw
                  case rel => exact ⟨k2 + 1, m, f, t, by omega, by go_num, rfl, rfl, rfl, by omega, by omega, hft, HQ9.out⟩
                  case measure => simp [intOf]; omega
          | false =>
            rw [hpb] at q2
            clear hpb
            cases m with
            | zero =>
              go_wp2_with fail
              refine (fill_none FI.out LY.out hDk (by omega)).mono ?_; rintro z' w5 ⟨rfl, FX1⟩
              have FX := FX1.below LY.out ((Below.refl _ w5).alloc (Nat.le_refl _) (.cells #[.int .i64 0, .bool false, .int .i64 0, .int .u32 0] 43))
              clear FX1
              go_wp2_with fail
              go_quiet (fail)
              have HW9 := Kept.mk FX
              clear FX
              go_wp2_with fail
              go_loopw [23] (fun i wq => ∃ i2 : Nat, i2 ≤ k ∧ i = .int .i64 i2 ∧ ∃ q, wq = (w5.alloc (.cells #[.int .i64 0, .bool false, .int .i64 0, .int .u32 0] 43)).drewN q) (fun i _ => k - (intOf i).toNat)
              case atStart => exact ⟨0, by omega, rfl, _, rfl⟩
              case round =>
                obtain ⟨i2, hi2, rfl, q, rfl⟩ := hrel
                have HQ9 := Kept.mk (HW9.out.drewN q)
                by_cases hit : i2 < k
                · by_cases hid : i2 = D
                  · subst hid
                    go_wp2_with fail
                    refine (fill_waits HQ9.out (by omega)).mono ?_; rintro z' w' ⟨rfl, rfl⟩
                    go_wp2_with fail
                    go_roundw
                    case rel => exact ⟨i2 + 1, by omega, by go_num, q, rfl⟩
                    case measure => simp [intOf]; omega
                  · have he1 : ((i2 : Int) == (D : Int)) = false := by rw [beq_eq_false_iff_ne]; omega
                    have he2 : ((i2 : Int) != (D : Int)) = true := by rw [bne_iff_ne]; omega
                    go_wp2_with fail
                    refine (fill_other HQ9.out i2 (by omega) hid).mono ?_; rintro z' w' ⟨rfl, rfl⟩
                    go_wp2_with fail
                    go_roundw
                    case rel => exact ⟨i2 + 1, by omega, by go_num, q, rfl⟩
                    case measure => simp [intOf]; omega
                · go_wp2_with fail
                  go_roundw
                  case rel => exact ⟨k2 + 1, 0, f, t, by omega, by go_num, rfl, rfl, rfl, by omega, by omega, hft, HQ9.out⟩
                  case measure => simp [intOf]; omega
            | succ m =>
              go_wp2_with fail
              refine (fill_take FI.out LY.out hDk (by omega)).mono ?_; rintro z' w5 ⟨v5, rfl, FX1⟩
              have hbw : Below wo.heap.size w' w5 := FX1.choose_spec.choose_spec.2.2.2.2.1
              have hg5 : g0 < w5.heap.size := by have := hbw.size; omega
              have c5 := (hbw.cell (p := ⟨g0, D, none⟩) hg0).trans KR3.out
              have FX := FX1.below LY.out ((Below.refl _ w5).alloc (Nat.le_refl _) (.cells #[.int .i64 (f : Int), .bool true, .int .i64 (R : Int), .int .u32 v5] 43))
              clear FX1 hbw
              go_wp2_with fail
              go_quiet (fail)
              have HW9 := Kept.mk FX
              clear FX
              go_wp2_with fail
              go_loopw [23] (fun i wq => ∃ i2 : Nat, i2 ≤ k ∧ i = .int .i64 i2 ∧ ∃ q, wq = (w5.alloc (.cells #[.int .i64 (f : Int), .bool true, .int .i64 (R : Int), .int .u32 v5] 43)).drewN q) (fun i _ => k - (intOf i).toNat)
              case atStart => exact ⟨0, by omega, rfl, _, rfl⟩
              case round =>
                obtain ⟨i2, hi2, rfl, q, rfl⟩ := hrel
                have HQ9 := Kept.mk (HW9.out.drewN q)
                by_cases hit : i2 < k
                · by_cases hid : i2 = D
                  · subst hid
                    go_wp2_with fail
                    refine (fill_waits HQ9.out (by omega)).mono ?_; rintro z' w' ⟨rfl, rfl⟩
                    go_wp2_with fail
                    go_roundw
                    case rel => exact ⟨i2 + 1, by omega, by go_num, q, rfl⟩
                    case measure => simp [intOf]; omega
                  · have he1 : ((i2 : Int) == (D : Int)) = false := by rw [beq_eq_false_iff_ne]; omega
                    have he2 : ((i2 : Int) != (D : Int)) = true := by rw [bne_iff_ne]; omega
                    go_wp2_with fail
                    refine (fill_other HQ9.out i2 (by omega) hid).mono ?_; rintro z' w' ⟨rfl, rfl⟩
                    go_wp2_with fail
                    go_roundw
                    case rel => exact ⟨i2 + 1, by omega, by go_num, q, rfl⟩
                    case measure => simp [intOf]; omega
                · go_wp2_with fail
                  go_roundw
                  case rel => exact ⟨k2 + 1, m, f + 1, t, by omega, by go_num, by go_num, rfl, by go_num, by omega, by omega, ⟨by have := hft.out; omega⟩, HQ9.out⟩
                  case measure => simp [intOf]; omega
        · have c0 := KR5.out
          go_wp2_with fail
          clear c0
          refine (address_is _ HA2.out).mono ?_; rintro z' w6 ⟨rfl, m6⟩
          have KB6 := Kept.mk (KB5.out.trans (m6.below.mono (by omega)))
          have hl6 := m6.below.size
          have FZ := Kept.mk (FI.out.below LY.out m6.below)
          clear m6
          go_wp2_with fail
          refine (fill_over FZ.out LY.out A2 0 y HAl2.out HS2.out hDk HY.out (by have := HR.out; omega)).mono ?_; rintro z' w7 ⟨rfl, F7⟩
          have hb7 := F7.choose_spec.choose_spec.2.2.2.2.1
          have KB7 := Kept.mk (KB3.out.trans (hb7.mono (by omega)))
          clear hb7 F7
          go_wp2_with fail
          go_ret
          exact ⟨rfl, KB7.out⟩

set_option maxRecDepth 100000 in
set_option maxHeartbeats 8000000 in
theorem coreE (n cap np capp : Nat) (z F : Nat → Int) (at1 : Int) (w : World) (hn : n ≤ 6) (h0 : 0 < n) (hp : np ≤ 100) (HA0 : Kept (-9223372036854775808 ≤ at1 ∧ at1 ≤ 9223372036854775807)) (HF : Kept (∀ j, j < n → 1 + pk (z j) 8 = F j)) (HFB : Kept (∀ j, j < n → 1 ≤ F j ∧ F j ≤ 8)) (b off : Nat) (hb0 : b < w.heap.size) (hcell : Kept (∀ j, j < n → w.cell? ⟨b, off + j, none⟩ = some (.int .i64 (z j)))) (hlo : Kept (∀ j, j < n → -9223372036854775808 ≤ z j ∧ z j ≤ 9223372036854775807)) (D R A A2 : Nat) (HD : Kept (pk at1 n = (D : Int))) (hDn : D < n) (y : Int) (HY : Kept (F D = y)) (hy1 : 1 ≤ y) (hy8 : y ≤ 8) (HR : Kept ((R : Int) = y - 1)) (HRe : ((R : Int) != y - 1) = false) (HA : Kept (AddrR (D : Int) (y - 1) (A : Int) 0)) (HAl : Kept (A < 4294967296)) (HS : Kept (SplitR A (D : Int) (R : Int))) (HA2 : Kept (AddrR (D : Int) y (A2 : Int) 0)) (HAl2 : Kept (A2 < 4294967296)) (HS2 : Kept (SplitR A2 (D : Int) ((R + 1 : Nat) : Int))) (ao2 : Option Addr) (hp0 : np ≤ 0) :
    Calls Try.prog 5 #[.slice (some ⟨b, off, none⟩) n cap, .int .i64 at1, .slice ao2 np capp] w fun e w' => e = .returned (.bool true) ∧ Below w.heap.size w w' := by
  obtain ⟨i0, hi, hz0, hz1, hz2⟩ := info_parts info3
  have KI := Kept.mk hi
  have KZ0 := Kept.mk hz0
  have KZ1 := Kept.mk hz1
  have KZ2 := Kept.mk hz2
  clear hi hz0 hz1 hz2
  have e0 : ((n : Int) == 0) = false := by rw [beq_eq_false_iff_ne]; omega
  go_enter Try.func5, Try.ntmps5
  go_wp2_with fail
  refine (shown_any _).mono ?_; rintro z' w1 ⟨rfl, m1⟩
  have KB1 := Kept.mk m1.below
  clear m1
  go_wp2_with fail
  go_loopw [8, 9] (fun v i wr => ∃ k : Nat, k ≤ n ∧ i = .int .i64 k ∧ ∃ a c, v = .slice a k c ∧ wr.ownsRow w1.heap.size 3 1 (.slice a k c) k (numsV k F) ∧ Below w1.heap.size w1 wr) (fun _ i _ => n - (intOf i).toNat)
  case atStart => exact ⟨0, by omega, rfl, none, 0, rfl, World.ownsRow_nil _ _ _ _, Below.refl _ _⟩
  case round =>
    obtain ⟨k, hk, rfl, a, c, rfl, own0, bel0⟩ := hrel
    have KO := Kept.mk own0
    have KB := Kept.mk bel0
    have hl1 := KB1.out.size
    have hl2 := bel0.size
    have KW := Kept.mk (KB1.out.trans (bel0.mono hl1))
    clear own0 bel0
    by_cases hlt : k < n
    · have q1 := (KW.out.cell (p := ⟨b, off + k, none⟩) hb0).trans (hcell.out k hlt)
      have HF1 := Kept.mk (HF.out k hlt)
      have HL1 := Kept.mk (hlo.out k hlt)
      have lo1 := (HFB.out k hlt).1
      have lo2 := (HFB.out k hlt).2
      obtain ⟨x, hx⟩ : ∃ x, z k = x := ⟨_, rfl⟩
      rw [hx] at q1 HF1 HL1
      obtain ⟨u, hu⟩ : ∃ u, pk x 8 = u := ⟨_, rfl⟩
      have HU := Kept.mk hu
      have HF2 : Kept (1 + u = F k) := ⟨by rw [← hu]; exact HF1.out⟩
      have u1 : 0 ≤ u := by have := HF2.out; omega
      have u2 : u ≤ 7 := by have := HF2.out; omega
      clear hx hu lo1 lo2 HF1
      go_wp2_with fail
      refine (pick_is _ HL1.out (by omega) (by omega) HU.out).mono ?_; rintro z' w' ⟨rfl, rfl⟩
      go_wp2_with (at_builtin; refine wpList_append_own _ rfl (.tmp 53) (.tmp 60) 32 rfl w1.heap.size 3 i0 (.int .i64 0) 1 8 Try.underlying32 KI.out KZ0.out KZ1.out KZ2.out rfl (by decide) _ _ _ rfl (KO.out.alloc _) ⟨w'.heap.size, 0, none⟩ 1 1 [.int .i64 (1 + u)] rfl rfl (one_new _ _ _) (by simp [Value.oneCell']) (by unfold maxLen; omega) (by omega) (by simp; omega) ?_; intro v' w2 own2 grow2 _; obtain ⟨a', c', hv⟩ := owns_form own2; subst hv; have KO2 := Kept.mk own2; have KG2 := Kept.mk ((KB.out.alloc hl2 (.cells #[.int .i64 (1 + u)] 3)).grown grow2 (by simp; omega) (fun j e => (KO.out.lt j e).1)); clear own2 grow2)
      go_roundw
      case rel => exact ⟨k + 1, by omega, by go_num, a', c', rfl, by rw [numsV_succ, ← HF2.out]; exact KO2.out, KG2.out⟩
      case measure => simp [intOf]; omega
    · have NM := Kept.mk (nums_of KO.out)
      have hkn : k = n := by omega
      have HD' : Kept (pk at1 (k : Int) = (D : Int)) := ⟨by rw [hkn]; exact HD.out⟩
      clear hkn
      obtain ⟨wo, rfl⟩ : ∃ wo : World, wo = wr := ⟨_, rfl⟩
      have hDk : D < k := by omega
      obtain ⟨g0, rfl, hg0, hr0⟩ := NM.out.some (by omega)
      have KR0 := Kept.mk ((hr0 D (by omega)).trans (by rw [HY.out]))
      clear hr0
      go_wp2_with fail
      refine (new_any _ k c F _ (by omega) NM.out (fun i hi => ⟨by have := (HFB.out i (by omega)).1; omega, (HFB.out i (by omega)).2⟩)).mono ?_; rintro z' w3 ⟨B, gr, gw, rfl, b3, U3, p1, p2, p3⟩
      have hl3 := b3.size
      have LY := Kept.mk (Lay.mk (B := B) (gr := gr) (gw := gw) (base := w3.heap.size) (B0 := wo.heap.size) U3.lb U3.r.lt U3.q.lt p1 p3)
      have FX0 := Kept.mk (fill_start (B0 := wo.heap.size) (D := D) (R := (R : Int)) U3 (Nat.le_refl _))
      have KB3 := Kept.mk (KW.out.trans (b3.mono (by omega)))
      have KR3 := Kept.mk ((b3.cell (p := ⟨g0, D, none⟩) hg0).trans KR0.out)
      clear b3 U3
      go_wp2_with fail
      refine (pick_is _ HA0.out (by omega) (by omega) HD'.out).mono ?_; rintro z' w' ⟨rfl, rfl⟩
      have c0 := KR3.out
      go_wp2_with fail
      clear c0
      refine (address_is _ HA.out).mono ?_; rintro z' w4 ⟨rfl, m4⟩
      have FX := Kept.mk (FX0.out.below LY.out m4.below)
      have hl4 := m4.below.size
      have KB4 := Kept.mk (KB3.out.trans (m4.below.mono (by omega)))
      clear m4 FX0
      go_wp2_with fail
      go_loopw [15, 16, 17, 18] (fun a1 a2 a3 a4 wq => ∃ k2 m f t : Nat, k2 ≤ np ∧ a4 = .int .i64 k2 ∧ a1 = .int .i64 m ∧ a2 = .int .i64 t ∧ a3 = .int .i64 f ∧ m ≤ 4 ∧ t ≤ k2 ∧ Kept (f + m = t) ∧ Fill w' wq B gr gw k w'.heap.size wo.heap.size F D (R : Int) m f t) (fun _ _ _ a4 _ => np - (intOf a4).toNat)
      case atStart => exact ⟨0, 0, 0, 0, by omega, rfl, rfl, rfl, rfl, by omega, by omega, ⟨by omega⟩, FX.out⟩
      case round =>
        obtain ⟨k2, m, f, t, hk2, rfl, rfl, rfl, rfl, hm4, htk, hft, FI0⟩ := hrel
        have FI := Kept.mk FI0
        have hbw : Below wo.heap.size w' wr := FI0.choose_spec.choose_spec.2.2.2.2.1
        have hfb : f ≤ 100 := by have := hft.out; omega
        have hsz2 : w'.heap.size ≤ wr.heap.size := hbw.size
        have KB5 := Kept.mk (KB3.out.trans (hbw.mono (by omega)))
        have KR5 := Kept.mk ((hbw.cell (p := ⟨g0, D, none⟩) hg0).trans KR3.out)
        clear FI0 hbw
        have c0 := KR5.out
        go_wp2_with fail
        clear c0
        refine (address_is _ HA2.out).mono ?_; rintro z' w6 ⟨rfl, m6⟩
        have KB6 := Kept.mk (KB5.out.trans (m6.below.mono (by omega)))
        have hl6 := m6.below.size
        have FZ := Kept.mk (FI.out.below LY.out m6.below)
        clear m6
        go_wp2_with fail
        refine (fill_over FZ.out LY.out A2 0 y HAl2.out HS2.out hDk HY.out (by have := HR.out; omega)).mono ?_; rintro z' w7 ⟨rfl, F7⟩
        have hb7 := F7.choose_spec.choose_spec.2.2.2.2.1
        have KB7 := Kept.mk (KB3.out.trans (hb7.mono (by omega)))
        clear hb7 F7
        go_wp2_with fail
        go_ret
        exact ⟨rfl, KB7.out⟩


set_option maxRecDepth 100000 in
theorem coreLong (ao ao2 : Option Addr) (n cap np capp : Nat) (at1 : Int) (w : World) (hl : n = 0 ∨ 6 < n ∨ 100 < np) (hl2 : n ≤ 9223372036854775807) (hl3 : np ≤ 9223372036854775807) :
    Calls Try.prog 5 #[.slice ao n cap, .int .i64 at1, .slice ao2 np capp] w fun e w' => e = .returned (.bool true) ∧ Below w.heap.size w w' := by
  by_cases h0 : n = 0
  · subst h0
    clear hl
    go_enter Try.func5, Try.ntmps5
    go_wp2_with fail
    refine (shown_any _).mono ?_; rintro z' w1 ⟨rfl, m1⟩
    go_wp2_with fail
    go_ret
    exact ⟨rfl, m1.below⟩
  · have e0 : ((n : Int) == 0) = false := by rw [beq_eq_false_iff_ne]; omega
    by_cases h6 : 6 < n
    · clear hl h0
      go_enter Try.func5, Try.ntmps5
      go_wp2_with fail
      refine (shown_any _).mono ?_; rintro z' w1 ⟨rfl, m1⟩
      go_wp2_with fail
      go_ret
      exact ⟨rfl, m1.below⟩
    · have h7 : n ≤ 6 := by omega
      have h8 : 100 < np := by omega
      clear hl h0 h6
      go_enter Try.func5, Try.ntmps5
      go_wp2_with fail
      refine (shown_any _).mono ?_; rintro z' w1 ⟨rfl, m1⟩
      go_wp2_with fail
      go_ret
      exact ⟨rfl, m1.below⟩

theorem walk (a0 : Option Addr) (len0 cap0 : Nat) (z0 : List Int) (a1 : Int) (a2 : Option Addr) (len2 cap2 : Nat) (z2 : Nat → Bool) (w : World) (w0 : IsRow .i64 w a0 len0 cap0 z0) (w1 : (Lit.int .i64 a1).wf = true) (w2 : IsRowB w a2 len2 cap2 z2) :
    Calls Try.prog 5 #[.slice a0 len0 cap0, .int .i64 a1, .slice a2 len2 cap2] w fun e w' => e = .returned (.bool true) ∧ Below w.heap.size w w' := by
  obtain ⟨A0, A1⟩ := bounds_i64 w1
  have hm := isRow_max w0
  have hm2 := isRowB_max w2
  by_cases hn : len0 = 0 ∨ 6 < len0 ∨ 100 < len2
  · exact coreLong a0 a2 len0 cap0 len2 cap2 a1 w hn hm hm2
  have C := isRow_came w0
  obtain ⟨b, off, rfl, hb0, hc⟩ := C.some (by omega)
  have d0 := pk_lo a1 (len0 : Int) (by omega)
  have d1 := pk_hi a1 (len0 : Int) (by omega)
  obtain ⟨D, hD⟩ := Int.eq_ofNat_of_zero_le d0
  have HFB : ∀ j, j < len0 → 1 ≤ 1 + pk (z0.getD j 0) 8 ∧ 1 + pk (z0.getD j 0) 8 ≤ 8 := fun j _ => ⟨by have := pk_lo (z0.getD j 0) 8 (by omega); omega, by have := pk_hi (z0.getD j 0) 8 (by omega); omega⟩
  have hDn : D < len0 := by omega
  obtain ⟨y, hy⟩ : ∃ y, 1 + pk (z0.getD D 0) 8 = y := ⟨_, rfl⟩
  have hy1 := (HFB D hDn).1
  have hy8 := (HFB D hDn).2
  rw [hy] at hy1 hy8
  obtain ⟨R, hR⟩ := Int.eq_ofNat_of_zero_le (show 0 ≤ y - 1 by omega)
  have HA : AddrR (D : Int) (y - 1) ((65536 * D + 4 * R : Nat) : Int) 0 := Or.inr ⟨by omega, by omega, by omega, by omega, by omega, rfl⟩
  have HA2 : AddrR (D : Int) y ((65536 * D + 4 * (R + 1) : Nat) : Int) 0 := Or.inr ⟨by omega, by omega, by omega, by omega, by omega, rfl⟩
  have HS : SplitR (65536 * D + 4 * R) (D : Int) (R : Int) := Or.inr ⟨by omega, by omega, by omega, by omega⟩
  have HS2 : SplitR (65536 * D + 4 * (R + 1)) (D : Int) ((R + 1 : Nat) : Int) := Or.inr ⟨by omega, by omega, by omega, by omega⟩
  have HRe : ((R : Int) != y - 1) = false := by rw [bne_eq_false_iff_eq]; omega
  by_cases hz : len2 = 0
  · exact coreE len0 cap0 len2 cap2 (fun j => z0.getD j 0) (fun j => 1 + pk (z0.getD j 0) 8) a1 w (by omega) (by omega) (by omega) ⟨⟨A0, A1⟩⟩ ⟨fun _ _ => rfl⟩ ⟨HFB⟩ b off hb0 ⟨hc⟩ ⟨C.lo⟩ D R _ _ ⟨hD⟩ hDn y ⟨hy⟩ hy1 hy8 ⟨by omega⟩ HRe ⟨HA⟩ ⟨by omega⟩ ⟨HS⟩ ⟨HA2⟩ ⟨by omega⟩ ⟨HS2⟩ a2 (by omega)
  · obtain ⟨b2, off2, rfl, hb2, hc2⟩ := isRowB_some w2 hz
    exact coreA len0 cap0 len2 cap2 (fun j => z0.getD j 0) (fun j => 1 + pk (z0.getD j 0) 8) a1 w (by omega) (by omega) (by omega) ⟨⟨A0, A1⟩⟩ ⟨fun _ _ => rfl⟩ ⟨HFB⟩ b off hb0 ⟨hc⟩ ⟨C.lo⟩ D R _ _ ⟨hD⟩ hDn y ⟨hy⟩ hy1 hy8 ⟨by omega⟩ HRe ⟨HA⟩ ⟨by omega⟩ ⟨HS⟩ ⟨HA2⟩ ⟨by omega⟩ ⟨HS2⟩ b2 off2 hb2 (by omega) z2 ⟨hc2⟩

set_option maxRecDepth 100000 in
theorem lifted (os : Os) (started : os.Started) (H : Type) (enc : TypeId × Value → H) :
    ReturnsInHanded {} Try.checked os 5 .any (Rows.busFillsSpec.pre6 enc Try.prog Try.f5 Rows.busFillsRow.domain false) (Rows.busFillsSpec.post enc Try.prog Try.f5 false true false false) := by
  refine returnsInHanded_of_change (C := Try.checked) own started (by kernel_rfl) Try.func5
    (ChangeSpec.witness6 (enc := enc) (C := Try.checked) false ⟨#[], #[.slice none 0 0, .int .i64 0, .slice none 0 0], []⟩ 8 (by kernel_rfl) (by kernel_rfl) (by kernel_rfl) (by kernel_rfl)) ?_
  intro W base args ds gs before hval0 hW hcnd _
  have hval : ∀ (j : Nat) t v, Try.f5.params[j]? = some t → args[j]? = some v → Value.okWide Try.prog W .any base t v := hval0
  have hW' := hW
  obtain ⟨p, q, hA0, hV, rfl, hfz, hnd⟩ := hW
  have hA : DataW.TrodAll enc Try.prog W 0 (fun _ => true) true Try.f5.params.toList args.toList ds p := hA0
  rw [Try.params5] at hA hval
  obtain ⟨v0, vs0, d0, ds0, p0, q0, hargs, rfl, rfl, h0, r0⟩ := trodAll_cons hA
  obtain ⟨v1, vs1, d1, ds1, p1, q1, rfl, rfl, rfl, h1, r1⟩ := trodAll_cons r0
  obtain ⟨v2, vs2, d2, ds2, p2, q2, rfl, rfl, rfl, h2, r2⟩ := trodAll_cons r1
  obtain ⟨rfl, rfl, rfl⟩ := trodAll_nil r2
  obtain rfl : args = #[v0, v1, v2] := by cases args; simp_all
  obtain ⟨rfl, rfl⟩ := trodVars_none hV
  obtain ⟨a0, len0, cap0, rfl⟩ := okWide_slice Try.underlying32 (hval 0 32 v0 rfl rfl)
  have k0 := h0
  have lt0 : ∀ x ∈ p0, x.block < W.heap.size := by obtain ⟨m, hm⟩ := k0; exact DataW.trod_lt m _ _ _ hm
  obtain ⟨z0, w0⟩ : ∃ zs, IsRow .i64 W a0 len0 cap0 zs := by
    obtain ⟨fuel, hf⟩ := h0
    rcases open_ints Try.underlying32 Try.underlying3 (by kernel_rfl) hf with ⟨hcs, _⟩ | ⟨x, l, c, zs, hcs, _, hl, hm, hz, _, hcell, hwz⟩
    · simp [Value.cells] at hcs
      obtain ⟨rfl, rfl, rfl⟩ := hcs
      exact ⟨[], .inl ⟨rfl, rfl, rfl, rfl⟩⟩
    · simp [Value.cells] at hcs
      obtain ⟨rfl, rfl, rfl⟩ := hcs
      refine ⟨zs, .inr ⟨_, rfl, hl, hm, by simpa using hz, hcell, hwz, fun i hi => ?_⟩⟩
      exact World.cell?_lt' (hcell i hi)
  obtain ⟨a1, rfl, rfl, rfl, w1⟩ := open_int Try.underlying3 (hval 1 3 v1 rfl rfl) h1
  obtain ⟨a2, len2, cap2, rfl⟩ := okWide_slice Try.underlying41 (hval 2 41 v2 rfl rfl)
  have k2 := h2
  have lt2 : ∀ x ∈ p2, x.block < W.heap.size := by obtain ⟨m, hm⟩ := k2; exact DataW.trod_lt m _ _ _ hm
  obtain ⟨z2, w2⟩ : ∃ f, IsRowB W a2 len2 cap2 f := by
    obtain ⟨fuel, hf⟩ := h2
    rcases Go.Deep.open_bools Try.underlying41 Try.underlying4 (by kernel_rfl) hf with ⟨hcs, _⟩ | ⟨x, l, c, f, hcs, _, hl, hm, _, hcell⟩
    · simp [Value.cells] at hcs
      obtain ⟨rfl, rfl, rfl⟩ := hcs
      exact ⟨fun _ => false, .inl ⟨rfl, rfl, rfl⟩⟩
    · simp [Value.cells] at hcs
      obtain ⟨rfl, rfl, rfl⟩ := hcs
      exact ⟨f, .inr ⟨_, rfl, hl, hm, hcell, fun i hi => World.cell?_lt' (hcell i hi)⟩⟩
  clear hA0 hval0
  refine (walk a0 len0 cap0 z0 a1 a2 len2 cap2 z2 W w0 w1 w2).mono fun e W' ⟨he, bel⟩ => ?_
  subst he
  exact ⟨_, rfl, _, _, _, [], _, [], hW', trodAll_mk1 (shut_bool Try.underlying4 _), (trodAll_cons_mk (Below.trod laidOut (by kernel_rfl) (of_decide_eq_true (by kernel_rfl)) k0 bel lt0) (trodAll_cons_mk (shut_int Try.underlying3 w1) (trodAll_cons_mk (Below.trod laidOut (by kernel_rfl) (of_decide_eq_true (by kernel_rfl)) k2 bel lt2) trodAll_mk0))), rfl, bel.frame _, fun h => by cases h⟩

theorem over : Rows.busFillsRow.holds Try.pinned (OpenSpec.ofChange Rows.busFillsSpec) :=
  OpenClaim.holds_of_wide 5 Try.f5 rfl rfl rfl rfl rfl rfl rfl ⟨rfl, rfl, rfl, rfl, rfl⟩ rfl rfl rfl rfl rfl (by kernel_rfl) Try.func5 (by kernel_rfl)
    (of_decide_eq_true (by kernel_rfl)) (by unfold Func.isWrapper; first | (rw [if_pos (by decide +kernel)]; kernel_rfl) | (rw [if_neg (by decide +kernel)]; exact ⟨rfl, rfl⟩))
    (fun os started H enc _ => lifted os started H enc)

theorem proved : Rows.BusFillsSaid :=
  over
#print axioms proved
end Go.Proofs.Ytdjjgloloahlgaa.busFills
