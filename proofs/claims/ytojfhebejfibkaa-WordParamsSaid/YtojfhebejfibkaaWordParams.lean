/- WordParams: for every input the law returns true, and each argument reads afterwards as it read before. No condition. -/
import Derived.Test.YtojfhebejfibkaaRows
import Derived.WalkKit
import Derived.ProofKit
import Derived.OpenShut
import Derived.ShutString
import Derived.ChangeOld
import Derived.Below
import Derived.Lib.SmallJoins
import Derived.Test.YtojfhebejfibkaaTell
import Derived.BigQuiet
namespace Go.Proofs.Ytojfhebejfibkaa.wordParams
open Go.ChangeShapes Go.WideShapes Go.ChangeAt Go.RowKit
open Go.ChangeMaps (open_string shut_string)
set_option linter.unusedVariables false

theorem own : ownKnob Try.prog.godebug = none := by kernel_rfl
theorem laidOut : laidOutB Try.prog = true := by kernel_rfl
theorem cells39 : Try.prog.cellsOf 39 = 4 := by kernel_rfl

theorem World.cell?_lt' {w : World} {a : Addr} {v : Value} (h : w.cell? a = some v) : a.block < w.heap.size := by
  by_cases c : a.block < w.heap.size
  · exact c
  · unfold World.cell? at h
    rw [Array.getElem?_eq_none (by omega)] at h
    simp at h

/-- What the walk is told of a slice of integers that came in: it is nil; or it leads to a row of cells. -/
def IsRow (k : IntKind) (w : World) (a : Option Addr) (len cap : Nat) (zs : List Int) : Prop :=
  (a = none ∧ len = 0 ∧ cap = 0 ∧ zs = []) ∨
  ∃ x, a = some x ∧ len ≤ cap ∧ cap ≤ maxLen ∧ zs.length = cap ∧ (∀ i, i < zs.length → w.cell? (x.add i) = some (.int k (zs.getD i 0))) ∧ (∀ n ∈ zs, (Lit.int k n).wf = true) ∧ ∀ i, i < zs.length → (x.add i).block < w.heap.size

theorem isRow_src {w : World} {a : Option Addr} {len cap : Nat} {z : List Int} (h : IsRow .u32 w a len cap z) : Src w a len cap ((z.take len).map (Value.int .u32)) := by
  rcases h with ⟨rfl, rfl, rfl, rfl⟩ | ⟨x, rfl, h1, h2, h3, h4, h5, h6⟩
  · exact ⟨fun _ => ⟨rfl, rfl⟩, rfl, fun ad e => (by cases e), fun ad e => (by cases e), fun u hu => (by simp at hu)⟩
  · refine ⟨fun e => (by cases e), by simp; omega, ?_, ?_, fun u hu => ?_⟩
    · intro ad e n
      injection e with e; subst e
      have := h6 0 (by omega)
      simpa [Addr.add] using this
    · intro ad e j u hj
      injection e with e; subst e
      rw [List.getElem?_map, List.getElem?_take] at hj
      by_cases c : j < len
      · rw [if_pos c] at hj
        have hz : j < z.length := by omega
        rw [List.getElem?_eq_getElem hz] at hj
        simp at hj
        rw [h4 j hz, ← hj]
        simp [List.getD, hz]
      · rw [if_neg c] at hj; simp at hj
    · obtain ⟨n, _, rfl⟩ := List.mem_map.1 hu
      rfl

/-- The cells of a list that is not empty: their block, and what each holds. -/
theorem isRow_cells {w : World} {a : Option Addr} {len cap : Nat} {z : List Int} (h : IsRow .u32 w a len cap z) (hl : len ≠ 0) :
    ∃ b off, a = some ⟨b, off, none⟩ ∧ b < w.heap.size ∧ len ≤ cap ∧ ∀ j, j < len → w.cell? ⟨b, off + j, none⟩ = some (.int .u32 (z.getD j 0)) := by
  rcases h with ⟨rfl, rfl, rfl, rfl⟩ | ⟨x, rfl, h1, h2, h3, h4, h5, h6⟩
  · exact absurd rfl hl
  · obtain ⟨b, off, spot⟩ := x
    have hc := h4 0 (by omega)
    have hspot : spot = none := by simpa [Addr.add] using World.cell?_spot hc
    subst hspot
    refine ⟨b, off, rfl, by simpa [Addr.add] using h6 0 (by omega), h1, fun j hj => ?_⟩
    have := h4 j (by omega)
    unfold Addr.add at this
    by_cases c : j = 0
    · subst c; simpa using this
    · simpa [c] using this

/-- What the loop that adds 1 to each word of a list of its own leaves: that block holds words, all else is as it was. -/
structure Inc (g n B : Nat) (w0 wb wr : World) : Prop where
  cell : ∀ j, j < n → ∃ x, wr.cell? ⟨g, j, none⟩ = some (.int .u32 x)
  other : ∀ p, p.block ≠ g → wr.cell? p = w0.cell? p
  free : ∀ o, wr.frozen? ⟨g, o, none⟩ = false
  below : Below B wb wr

theorem Inc.drewN {g n B : Nat} {w0 wb wr : World} (h : Inc g n B w0 wb wr) (k : Nat) : Inc g n B w0 wb (wr.drewN k) :=
  ⟨h.cell, h.other, h.free, h.below.trans ⟨rfl, rfl, rfl, Nat.le_refl _, fun _ _ => rfl⟩⟩

theorem Inc.drew {g n B : Nat} {w0 wb wr : World} (h : Inc g n B w0 wb wr) : Inc g n B w0 wb wr.drew :=
  ⟨h.cell, h.other, h.free, h.below.drew⟩

theorem Inc.set {g n B : Nat} {w0 wb wr : World} (h : Inc g n B w0 wb wr) (hB : B ≤ g) (k : Nat) (x : Int) (hk : k < n) : Inc g n B w0 wb (wr.setCell ⟨g, k, none⟩ (.int .u32 x)) := by
  refine ⟨fun j hj => ?_, fun p hp => ?_, fun o => (World.frozen?_setCell _ _ _ _).trans (h.free o), h.below.setCell hB _⟩
  · by_cases c : j = k
    · subst c
      obtain ⟨y, hy⟩ := h.cell j hj
      exact ⟨x, World.cell?_setCell_same _ _ _ hy⟩
    · obtain ⟨y, hy⟩ := h.cell j hj
      exact ⟨y, (World.cell?_setCell_other _ _ _ _ (ne_off (fun e => c e.symm))).trans hy⟩
  · exact (World.cell?_setCell_other _ _ _ _ (fun e => hp (by rw [← e]))).trans (h.other p hp)

theorem owns_cap {w : World} {B g n cap : Nat} {xs : List Value} (h : w.ownsRow B 22 1 (.slice (some ⟨g, 0, none⟩) n cap) n xs) : n ≤ cap := by
  rcases h.2 with ⟨h', _⟩ | ⟨g', cap', cur, h', _, _, hle, _⟩
  · simp at h'
  · injection h' with _ _ h3; omega

theorem list_news {R : Int} {len : Nat} {z : List Int} (h : len ≤ z.length) : (R :: z.take len).length = len + 1 := by simp; omega

theorem getD_news {R : Int} {len k : Nat} {z : List Int} (h : len ≤ z.length) (hk : k < len) : (R :: z.take len).getD (k + 1) 0 = z.getD k 0 := by
  simp [List.getD, hk]
theorem getD_news2 {R S : Int} {len k : Nat} {z : List Int} (h : len ≤ z.length) (hk : k < len) : (R :: S :: z.take len).getD (k + 2) 0 = z.getD k 0 := by
  simp [List.getD, hk]

set_option maxRecDepth 100000 in
set_option maxHeartbeats 2000000 in
theorem coreYA (len cap : Nat) (z : List Int) (w : World) (A B C D R : Nat) (ha : A ≤ 255) (hb : B ≤ 3) (hc : C ≤ 255) (hd : D ≤ 1023) (hR : Kept (A + 256 * B + 1024 * C + 262144 * D = R)) (hRl : R < 268435456) (b off : Nat) (hb0 : b < w.heap.size) (hl0 : 0 < len) (hlc : len ≤ cap) (hcell : Kept (∀ j, j < len → w.cell? ⟨b, off + j, none⟩ = some (.int .u32 (z.getD j 0)))) (KS : Kept (Src w (some ⟨b, off, none⟩) len cap ((z.take len).map (Value.int .u32)))) (hlen : len ≤ 500) (zl : Kept (len ≤ z.length)) :
    Calls Try.prog 9 #[.agg #[.int .i64 A, .int .i64 B, .int .i64 C, .int .i64 D], .slice (some ⟨b, off, none⟩) len cap] w fun e w' => e = .returned (.bool true) ∧ Below w.heap.size w w' := by
  obtain ⟨i0, hi, hz0, hz1, hz2⟩ := info_parts info22
  have KI := Kept.mk hi
  have KZ0 := Kept.mk hz0
  have KZ1 := Kept.mk hz1
  have KZ2 := Kept.mk hz2
  clear hi hz0 hz1 hz2
  go_enter Try.func9, Try.ntmps9
  go_wp2_with fail
  refine (shownW_any _).mono ?_; rintro z' w1 ⟨rfl, m1⟩
  have H1 := (Four.new w (.int .i64 A) (.int .i64 B) (.int .i64 C) (.int .i64 D) 39).mild (by simp) m1
  have KB1 := Kept.mk (((Mild.refl w).alloc #[.int .i64 A, .int .i64 B, .int .i64 C, .int .i64 D] 39).trans m1).below
  have hl1 : w.heap.size < w1.heap.size := by have := m1.below.size; simp at this; omega
  clear m1
  have KO := Kept.mk (World.ownsRow_lit (base := w1.heap.size) (e := 22) (size := 1) w1 #[] 0 (Nat.le_refl _) (by omega) rfl)
  have KA := Kept.mk ((Below.refl w1.heap.size w1).alloc (Nat.le_refl _) (.cells #[] 22))
  have KL := Kept.mk (show w1.heap.size ≤ (w1.alloc (.cells #[] 22)).heap.size by simp)
  have KSA := Kept.mk ((KS.out.below KB1.out).below KA.out)
  have KM := Kept.mk (show 0 + len ≤ maxLen by unfold maxLen; omega)
  go_wp2_with (at_builtin; refine wpList_append_own _ rfl (.tmp 27) (.tmp 28) 40 rfl w1.heap.size 22 i0 (.int .u32 0) 1 4 Try.underlying40 KI.out KZ0.out KZ1.out KZ2.out rfl (by omega) _ _ _ rfl KO.out ⟨b, off, none⟩ len cap ((z.take len).map (Value.int .u32)) rfl (by rw [KSA.out.len]; omega) (KSA.out.cells ⟨b, off, none⟩ rfl) KSA.out.one KM.out (by omega) KL.out ?_; intro v' w2 own2 grow2 _; obtain ⟨g, cp, hv⟩ := Joins.ownsRow_form own2 (by omega); subst hv; have KO2 := Kept.mk own2; have KB2 := Kept.mk (KA.out.grown grow2 KA.out.size (fun k e => (KO.out.lt k e).1)); clear own2 grow2; have H2 := H1.below hl1 KB2.out; have e0 := H2.c0; have e1 := H2.c1; have e2 := H2.c2; have e3 := H2.c3; have ef := H2.free)
  have own2 := KO2.out
  simp only [Nat.zero_add, List.nil_append] at own2
  have KO2 := Kept.mk own2
  have KP := Kept.mk (src_owned own2 (fun u hu => KS.out.one u hu))
  have hg : w1.heap.size ≤ g := (own2.lt g rfl).1
  have hg2 : g < w2.heap.size := (own2.lt g rfl).2
  have hq := KB2.out.size
  clear own2
  clear e0 e1 e2 e3 ef
  refine (pack_is A B C D R _ rfl rfl rfl rfl ha hb hc hd hR.out).mono ?_; rintro z' w3 ⟨rfl, m3⟩
  have H3 := H2.mild (by omega) m3
  have KB3 := Kept.mk (KB2.out.trans (m3.below.mono hq))
  have KP3 := Kept.mk (KP.out.below m3.below)
  have hl3 := m3.below.size
  have KC3 := Kept.mk ((lies_of KO2.out).below m3.below)
  have KF3 := Kept.mk (fun o => (m3.free ⟨g, o, none⟩).trans (KO2.out.frozenAt o))
  clear m3 H2
  have e0 := H3.c0
  have e1 := H3.c1
  have e2 := H3.c2
  have e3 := H3.c3
  have ef := H3.free
  go_wp2_with fail
  clear e0 e1 e2 e3 ef
  clear H3
  refine (command_ok A B C D R _ _ _ _ _ KP3.out (by omega) ha hb hc hd hR.out).mono ?_; rintro z' w4 ⟨gc, rfl, hr4⟩
  have KC4 := Kept.mk (lies_of (vs := (R : Int) :: z.take len) hr4.owns)
  have hgc := (hr4.owns.lt gc rfl).1
  have hgc2 := (hr4.owns.lt gc rfl).2
  have b4 := hr4.below
  clear hr4
  have hl4 := b4.size
  have KB4 := Kept.mk (KB3.out.trans (b4.mono (by omega)))
  have KP4 := Kept.mk (KP3.out.below b4)
  have KC34 := Kept.mk (KC3.out.below b4)
  have KF4 := Kept.mk (fun o => (b4.frozen (p := ⟨g, o, none⟩) (by show g < _; omega)).trans (KF3.out o))
  clear b4
  go_wp2_with fail
  refine (answer_any R 7 7 _ _ _ _ _ KP4.out (by omega) (by omega)).mono ?_; rintro z' w5 ⟨ga, ca, rfl, hr5⟩
  have KO5 := Kept.mk hr5.owns
  have hga := (hr5.owns.lt ga rfl).1
  have b5 := hr5.below
  have KB5 := Kept.mk (KB1.out.trans ((KB4.out.trans (b5.mono (by omega))).mono (by omega)))
  have hca := owns_cap hr5.owns
  have t1 : w5.cell? ⟨ga, 0 + 1, none⟩ = some (.int .u32 7) := by rw [KO5.out.cellAt (0 + 1) (by omega)]; rfl
  have KT1 := Kept.mk t1
  clear t1
  have KC5 := Kept.mk (KC34.out.below b5)
  have KF5 := Kept.mk (fun o => (b5.frozen (p := ⟨g, o, none⟩) (by show g < _; omega)).trans (KF4.out o))
  have KN5 := Kept.mk (lies_of (vs := (R : Int) :: 7 :: z.take len) hr5.owns)
  have KX5 := Kept.mk (fun j (hj : j < len) => (KB5.out.cell (p := ⟨b, off + j, none⟩) hb0).trans (hcell.out j hj))
  have KD5 := Kept.mk (KC4.out.below b5)
  clear b5 hr5
  go_wp2_with fail
  go_loopw [12] (fun i wr => ∃ k : Nat, k ≤ len ∧ i = .int .i64 k ∧ Inc g len w.heap.size w5 w wr) (fun i _ => len - (intOf i).toNat)
  case atStart => exact ⟨0, by omega, rfl, ⟨fun j hj => ⟨_, KC5.out.cell j hj⟩, fun _ _ => rfl, KF5.out, KB5.out⟩⟩
  case round =>
    obtain ⟨k, hk, rfl, inc0⟩ := hrel
    have inc := Kept.mk inc0
    clear inc0
    by_cases hlt : k < len
    · obtain ⟨x, hx⟩ := inc.out.cell k hlt
      have hf := inc.out.free k
      go_wp2_with fail
      go_roundw
      case rel => exact ⟨k + 1, by omega, by go_num, inc.out.set (by omega) k _ hlt⟩
      case measure => simp [intOf]; omega
    · have c0 : wr.cell? ⟨gc, 0, none⟩ = some (.int .u32 R) := (inc.out.other ⟨gc, 0, none⟩ (by show gc ≠ g; omega)).trans (KD5.out.cell 0 (by omega))
      have t1 : wr.cell? ⟨ga, 0 + 1, none⟩ = some (.int .u32 7) := (inc.out.other ⟨ga, 0 + 1, none⟩ (by show ga ≠ g; omega)).trans KT1.out
      have KT := Kept.mk t1
      clear t1
      have KW := Kept.mk inc.out.below
      have KG := Kept.mk (fun k (hk : k < len) => (inc.out.other ⟨gc, k + 1, none⟩ (by show gc ≠ g; omega)).trans ((KD5.out.cell (k + 1) (by omega)).trans (by rw [getD_news zl.out hk])))
      have KH := Kept.mk (fun k (hk : k < len) => (inc.out.other ⟨ga, k + 2, none⟩ (by show ga ≠ g; omega)).trans ((KN5.out.cell (k + 2) (by omega)).trans (by rw [getD_news2 zl.out hk])))
      have KL2 := Kept.mk (fun j (hj : j < len) => (inc.out.other ⟨b, off + j, none⟩ (by show b ≠ g; omega)).trans (KX5.out j hj))
      clear inc
      go_wp2_with fail
      clear c0
      go_loopw [13] (fun i wq => ∃ k : Nat, k ≤ len ∧ i = .int .i64 k ∧ ∃ n, wq = wr.drewN n) (fun i _ => len - (intOf i).toNat)
      case atStart => exact ⟨0, by omega, rfl, 0, rfl⟩
      case round =>
        obtain ⟨k, hk, rfl, n, rfl⟩ := hrel
        by_cases hlt : k < len
        · have q1 := KL2.out k hlt
          have q2 := KH.out k hlt
          have q3 := KG.out k hlt
          obtain ⟨zk, hzk⟩ : ∃ x, z.getD k 0 = x := ⟨_, rfl⟩
          rw [hzk] at q1 q2 q3
          clear hzk
          go_wp2_with fail
          go_quiet (fail)
          go_wp2_with fail
          go_roundw
          case rel => exact ⟨k + 1, by omega, by go_num, _, rfl⟩
          case measure => simp [intOf]; omega
        · go_wp2_with fail
          refine (status_long ga 0 (len + 2) ca 7 7 (wr.drewN n) (by omega) KT.out (by unfold wrap32; omega)).mono ?_; rintro z' w6 ⟨rfl, rfl⟩
          go_wp2_with fail
          refine (status_short _ _ _ _ (by omega)).mono ?_; rintro z' w7 ⟨rfl, rfl⟩
          go_wp2_with fail
          go_ret
          exact ⟨rfl, KW.out.trans ⟨rfl, rfl, rfl, Nat.le_refl _, fun _ _ => rfl⟩⟩

set_option maxRecDepth 100000 in
set_option maxHeartbeats 2000000 in
theorem coreYE (len cap : Nat) (z : List Int) (w : World) (A B C D R : Nat) (ha : A ≤ 255) (hb : B ≤ 3) (hc : C ≤ 255) (hd : D ≤ 1023) (hR : Kept (A + 256 * B + 1024 * C + 262144 * D = R)) (hRl : R < 268435456) (ao : Option Addr) (hl0 : len ≤ 0) (KS : Kept (Src w ao len cap ((z.take len).map (Value.int .u32)))) (hlen : len ≤ 500) (zl : Kept (len ≤ z.length)) :
    Calls Try.prog 9 #[.agg #[.int .i64 A, .int .i64 B, .int .i64 C, .int .i64 D], .slice ao len cap] w fun e w' => e = .returned (.bool true) ∧ Below w.heap.size w w' := by
  obtain ⟨i0, hi, hz0, hz1, hz2⟩ := info_parts info22
  have KI := Kept.mk hi
  have KZ0 := Kept.mk hz0
  have KZ1 := Kept.mk hz1
  have KZ2 := Kept.mk hz2
  clear hi hz0 hz1 hz2
  go_enter Try.func9, Try.ntmps9
  go_wp2_with fail
  refine (shownW_any _).mono ?_; rintro z' w1 ⟨rfl, m1⟩
  have H1 := (Four.new w (.int .i64 A) (.int .i64 B) (.int .i64 C) (.int .i64 D) 39).mild (by simp) m1
  have KB1 := Kept.mk (((Mild.refl w).alloc #[.int .i64 A, .int .i64 B, .int .i64 C, .int .i64 D] 39).trans m1).below
  have hl1 : w.heap.size < w1.heap.size := by have := m1.below.size; simp at this; omega
  clear m1
  have KO := Kept.mk (World.ownsRow_lit (base := w1.heap.size) (e := 22) (size := 1) w1 #[] 0 (Nat.le_refl _) (by omega) rfl)
  have KA := Kept.mk ((Below.refl w1.heap.size w1).alloc (Nat.le_refl _) (.cells #[] 22))
  have KL := Kept.mk (show w1.heap.size ≤ (w1.alloc (.cells #[] 22)).heap.size by simp)
  have KSA := Kept.mk ((KS.out.below KB1.out).below KA.out)
  have hnil : (z.take len).map (Value.int .u32) = [] := by rw [show len = 0 by omega]; rfl
  rw [hnil] at KS KSA
  clear hnil
  go_wp2_with (at_builtin; (refine wpList_append_fits_any _ rfl (.tmp 27) (.tmp 28) 40 rfl w1.heap.size 22 i0 1 Try.underlying40 KI.out KZ1.out w1.heap.size 0 0 [] rfl KO.out ao len cap [] rfl (by rw [KSA.out.len]; omega) KSA.out.none KSA.out.cells KSA.out.one (by omega) ?_); intro w2 own2 grow2; have KO2 := Kept.mk own2; have KB2 := Kept.mk (KA.out.grown grow2 KA.out.size (fun k e => by injection e with e; omega)); clear own2 grow2; have H2 := H1.below hl1 KB2.out; have e0 := H2.c0; have e1 := H2.c1; have e2 := H2.c2; have e3 := H2.c3; have ef := H2.free)
  have own2 := KO2.out
  simp only [Nat.zero_add, List.nil_append] at own2
  have KO2 := Kept.mk own2
  have KP := Kept.mk (src_owned own2 (fun u hu => (by simp at hu)))
  have hq := KB2.out.size
  clear own2
  clear e0 e1 e2 e3 ef
  refine (pack_is A B C D R _ rfl rfl rfl rfl ha hb hc hd hR.out).mono ?_; rintro z' w3 ⟨rfl, m3⟩
  have H3 := H2.mild (by omega) m3
  have KB3 := Kept.mk (KB2.out.trans (m3.below.mono hq))
  have KP3 := Kept.mk (KP.out.below m3.below)
  have hl3 := m3.below.size
  clear m3 H2
  have e0 := H3.c0
  have e1 := H3.c1
  have e2 := H3.c2
  have e3 := H3.c3
  have ef := H3.free
  go_wp2_with fail
  clear e0 e1 e2 e3 ef
  clear H3
  refine (command_ok A B C D R _ _ _ _ _ KP3.out (by omega) ha hb hc hd hR.out).mono ?_; rintro z' w4 ⟨gc, rfl, hr4⟩
  have KC4 := Kept.mk (lies_of (vs := [(R : Int)]) hr4.owns)
  have hgc := (hr4.owns.lt gc rfl).1
  have hgc2 := (hr4.owns.lt gc rfl).2
  have b4 := hr4.below
  clear hr4
  have hl4 := b4.size
  have KB4 := Kept.mk (KB3.out.trans (b4.mono (by omega)))
  have KP4 := Kept.mk (KP3.out.below b4)
  clear b4
  go_wp2_with fail
  refine (answer_any R 7 7 _ _ _ _ _ KP4.out (by omega) (by omega)).mono ?_; rintro z' w5 ⟨ga, ca, rfl, hr5⟩
  have KO5 := Kept.mk hr5.owns
  have hga := (hr5.owns.lt ga rfl).1
  have b5 := hr5.below
  have KB5 := Kept.mk (KB1.out.trans ((KB4.out.trans (b5.mono (by omega))).mono (by omega)))
  have hca := owns_cap hr5.owns
  have t1 : w5.cell? ⟨ga, 0 + 1, none⟩ = some (.int .u32 7) := by rw [KO5.out.cellAt (0 + 1) (by omega)]; rfl
  have KT1 := Kept.mk t1
  clear t1
  have KD5 := Kept.mk (KC4.out.below b5)
  clear b5 hr5
  go_wp2_with fail
  go_loopw [12] (fun i wr => ∃ k : Nat, k ≤ len ∧ i = .int .i64 k ∧ wr = w5) (fun i _ => len - (intOf i).toNat)
  case atStart => exact ⟨0, by omega, rfl, rfl⟩
  case round =>
    obtain ⟨k0, hk0, rfl, rfl⟩ := hrel
    have c0 : wr.cell? ⟨gc, 0, none⟩ = some (.int .u32 R) := KD5.out.cell 0 (by omega)
    have t1 : wr.cell? ⟨ga, 0 + 1, none⟩ = some (.int .u32 7) := KT1.out
    have KT := Kept.mk t1
    clear t1
    have KW := Kept.mk KB5.out
    go_wp2_with fail
    clear c0
    go_loopw [13] (fun i wq => ∃ k : Nat, k ≤ len ∧ i = .int .i64 k ∧ ∃ n, wq = wr.drewN n) (fun i _ => len - (intOf i).toNat)
    case atStart => exact ⟨0, by omega, rfl, 0, rfl⟩
    case round =>
      obtain ⟨k, hk, rfl, n, rfl⟩ := hrel
      go_wp2_with fail
      refine (status_long ga 0 (len + 2) ca 7 7 (wr.drewN n) (by omega) KT.out (by unfold wrap32; omega)).mono ?_; rintro z' w6 ⟨rfl, rfl⟩
      go_wp2_with fail
      refine (status_short _ _ _ _ (by omega)).mono ?_; rintro z' w7 ⟨rfl, rfl⟩
      go_wp2_with fail
      go_ret
      exact ⟨rfl, KW.out.trans ⟨rfl, rfl, rfl, Nat.le_refl _, fun _ _ => rfl⟩⟩

set_option maxRecDepth 100000 in
set_option maxHeartbeats 2000000 in
theorem coreNA (len cap : Nat) (z : List Int) (w : World) (A B C D : Int) (hbad : Kept (¬ headOk A B C D)) (b off : Nat) (hb0 : b < w.heap.size) (hl0 : 0 < len) (hlc : len ≤ cap) (hcell : Kept (∀ j, j < len → w.cell? ⟨b, off + j, none⟩ = some (.int .u32 (z.getD j 0)))) (KS : Kept (Src w (some ⟨b, off, none⟩) len cap ((z.take len).map (Value.int .u32)))) (hlen : len ≤ 500) (zl : Kept (len ≤ z.length)) :
    Calls Try.prog 9 #[.agg #[.int .i64 A, .int .i64 B, .int .i64 C, .int .i64 D], .slice (some ⟨b, off, none⟩) len cap] w fun e w' => e = .returned (.bool true) ∧ Below w.heap.size w w' := by
  obtain ⟨i0, hi, hz0, hz1, hz2⟩ := info_parts info22
  have KI := Kept.mk hi
  have KZ0 := Kept.mk hz0
  have KZ1 := Kept.mk hz1
  have KZ2 := Kept.mk hz2
  clear hi hz0 hz1 hz2
  go_enter Try.func9, Try.ntmps9
  go_wp2_with fail
  refine (shownW_any _).mono ?_; rintro z' w1 ⟨rfl, m1⟩
  have H1 := (Four.new w (.int .i64 A) (.int .i64 B) (.int .i64 C) (.int .i64 D) 39).mild (by simp) m1
  have KB1 := Kept.mk (((Mild.refl w).alloc #[.int .i64 A, .int .i64 B, .int .i64 C, .int .i64 D] 39).trans m1).below
  have hl1 : w.heap.size < w1.heap.size := by have := m1.below.size; simp at this; omega
  clear m1
  have KO := Kept.mk (World.ownsRow_lit (base := w1.heap.size) (e := 22) (size := 1) w1 #[] 0 (Nat.le_refl _) (by omega) rfl)
  have KA := Kept.mk ((Below.refl w1.heap.size w1).alloc (Nat.le_refl _) (.cells #[] 22))
  have KL := Kept.mk (show w1.heap.size ≤ (w1.alloc (.cells #[] 22)).heap.size by simp)
  have KSA := Kept.mk ((KS.out.below KB1.out).below KA.out)
  have KM := Kept.mk (show 0 + len ≤ maxLen by unfold maxLen; omega)
  go_wp2_with (at_builtin; refine wpList_append_own _ rfl (.tmp 27) (.tmp 28) 40 rfl w1.heap.size 22 i0 (.int .u32 0) 1 4 Try.underlying40 KI.out KZ0.out KZ1.out KZ2.out rfl (by omega) _ _ _ rfl KO.out ⟨b, off, none⟩ len cap ((z.take len).map (Value.int .u32)) rfl (by rw [KSA.out.len]; omega) (KSA.out.cells ⟨b, off, none⟩ rfl) KSA.out.one KM.out (by omega) KL.out ?_; intro v' w2 own2 grow2 _; obtain ⟨g, cp, hv⟩ := Joins.ownsRow_form own2 (by omega); subst hv; have KO2 := Kept.mk own2; have KB2 := Kept.mk (KA.out.grown grow2 KA.out.size (fun k e => (KO.out.lt k e).1)); clear own2 grow2; have H2 := H1.below hl1 KB2.out; have e0 := H2.c0; have e1 := H2.c1; have e2 := H2.c2; have e3 := H2.c3; have ef := H2.free)
  have own2 := KO2.out
  simp only [Nat.zero_add, List.nil_append] at own2
  have KO2 := Kept.mk own2
  have KP := Kept.mk (src_owned own2 (fun u hu => KS.out.one u hu))
  have hg : w1.heap.size ≤ g := (own2.lt g rfl).1
  have hg2 : g < w2.heap.size := (own2.lt g rfl).2
  have hq := KB2.out.size
  clear own2
  clear e0 e1 e2 e3 ef
  refine (pack_bad A B C D _ hbad.out).mono ?_; rintro z' w3 ⟨rfl, m3⟩
  have H3 := H2.mild (by omega) m3
  have KB3 := Kept.mk (KB2.out.trans (m3.below.mono hq))
  have KP3 := Kept.mk (KP.out.below m3.below)
  have hl3 := m3.below.size
  have KC3 := Kept.mk ((lies_of KO2.out).below m3.below)
  have KF3 := Kept.mk (fun o => (m3.free ⟨g, o, none⟩).trans (KO2.out.frozenAt o))
  clear m3 H2
  have e0 := H3.c0
  have e1 := H3.c1
  have e2 := H3.c2
  have e3 := H3.c3
  have ef := H3.free
  go_wp2_with fail
  clear e0 e1 e2 e3 ef
  clear H3
  refine (command_bad A B C D _ _ hbad.out).mono ?_; rintro z' w4 ⟨rfl, m4⟩
  have b4 := m4.below
  clear m4
  have hl4 := b4.size
  have KB4 := Kept.mk (KB3.out.trans (b4.mono (by omega)))
  have KP4 := Kept.mk (KP3.out.below b4)
  have KC34 := Kept.mk (KC3.out.below b4)
  have KF4 := Kept.mk (fun o => (b4.frozen (p := ⟨g, o, none⟩) (by show g < _; omega)).trans (KF3.out o))
  clear b4
  go_wp2_with fail
  refine (answer_any 0 7 7 _ _ _ _ _ KP4.out (by omega) (by omega)).mono ?_; rintro z' w5 ⟨ga, ca, rfl, hr5⟩
  have KO5 := Kept.mk hr5.owns
  have hga := (hr5.owns.lt ga rfl).1
  have b5 := hr5.below
  have KB5 := Kept.mk (KB1.out.trans ((KB4.out.trans (b5.mono (by omega))).mono (by omega)))
  have hca := owns_cap hr5.owns
  have t1 : w5.cell? ⟨ga, 0 + 1, none⟩ = some (.int .u32 7) := by rw [KO5.out.cellAt (0 + 1) (by omega)]; rfl
  have KT1 := Kept.mk t1
  clear t1
  have KC5 := Kept.mk (KC34.out.below b5)
  have KF5 := Kept.mk (fun o => (b5.frozen (p := ⟨g, o, none⟩) (by show g < _; omega)).trans (KF4.out o))
  have KN5 := Kept.mk (lies_of (vs := (0 : Int) :: 7 :: z.take len) hr5.owns)
  have KX5 := Kept.mk (fun j (hj : j < len) => (KB5.out.cell (p := ⟨b, off + j, none⟩) hb0).trans (hcell.out j hj))
  clear b5 hr5
  go_wp2_with fail
  go_loopw [12] (fun i wr => ∃ k : Nat, k ≤ len ∧ i = .int .i64 k ∧ Inc g len w.heap.size w5 w wr) (fun i _ => len - (intOf i).toNat)
  case atStart => exact ⟨0, by omega, rfl, ⟨fun j hj => ⟨_, KC5.out.cell j hj⟩, fun _ _ => rfl, KF5.out, KB5.out⟩⟩
  case round =>
    obtain ⟨k, hk, rfl, inc0⟩ := hrel
    have inc := Kept.mk inc0
    clear inc0
    by_cases hlt : k < len
    · obtain ⟨x, hx⟩ := inc.out.cell k hlt
      have hf := inc.out.free k
      go_wp2_with fail
      go_roundw
      case rel => exact ⟨k + 1, by omega, by go_num, inc.out.set (by omega) k _ hlt⟩
      case measure => simp [intOf]; omega
    · have t1 : wr.cell? ⟨ga, 0 + 1, none⟩ = some (.int .u32 7) := (inc.out.other ⟨ga, 0 + 1, none⟩ (by show ga ≠ g; omega)).trans KT1.out
      have KT := Kept.mk t1
      clear t1
      have KW := Kept.mk inc.out.below
      have KH := Kept.mk (fun k (hk : k < len) => (inc.out.other ⟨ga, k + 2, none⟩ (by show ga ≠ g; omega)).trans ((KN5.out.cell (k + 2) (by omega)).trans (by rw [getD_news2 zl.out hk])))
      have KL2 := Kept.mk (fun j (hj : j < len) => (inc.out.other ⟨b, off + j, none⟩ (by show b ≠ g; omega)).trans (KX5.out j hj))
      clear inc
      go_wp2_with fail
      go_loopw [13] (fun i wq => ∃ k : Nat, k ≤ len ∧ i = .int .i64 k ∧ ∃ n, wq = wr.drewN n) (fun i _ => len - (intOf i).toNat)
      case atStart => exact ⟨0, by omega, rfl, 0, rfl⟩
      case round =>
        obtain ⟨k, hk, rfl, n, rfl⟩ := hrel
        by_cases hlt : k < len
        · have q1 := KL2.out k hlt
          have q2 := KH.out k hlt
          obtain ⟨zk, hzk⟩ : ∃ x, z.getD k 0 = x := ⟨_, rfl⟩
          rw [hzk] at q1 q2
          clear hzk
          go_wp2_with fail
          go_quiet (fail)
          go_wp2_with fail
          go_roundw
          case rel => exact ⟨k + 1, by omega, by go_num, _, rfl⟩
          case measure => simp [intOf]; omega
        · go_wp2_with fail
          refine (status_long ga 0 (len + 2) ca 7 7 (wr.drewN n) (by omega) KT.out (by unfold wrap32; omega)).mono ?_; rintro z' w6 ⟨rfl, rfl⟩
          go_wp2_with fail
          refine (status_short _ _ _ _ (by omega)).mono ?_; rintro z' w7 ⟨rfl, rfl⟩
          go_wp2_with fail
          go_ret
          exact ⟨rfl, KW.out.trans ⟨rfl, rfl, rfl, Nat.le_refl _, fun _ _ => rfl⟩⟩

set_option maxRecDepth 100000 in
set_option maxHeartbeats 2000000 in
theorem coreNE (len cap : Nat) (z : List Int) (w : World) (A B C D : Int) (hbad : Kept (¬ headOk A B C D)) (ao : Option Addr) (hl0 : len ≤ 0) (KS : Kept (Src w ao len cap ((z.take len).map (Value.int .u32)))) (hlen : len ≤ 500) (zl : Kept (len ≤ z.length)) :
    Calls Try.prog 9 #[.agg #[.int .i64 A, .int .i64 B, .int .i64 C, .int .i64 D], .slice ao len cap] w fun e w' => e = .returned (.bool true) ∧ Below w.heap.size w w' := by
  obtain ⟨i0, hi, hz0, hz1, hz2⟩ := info_parts info22
  have KI := Kept.mk hi
  have KZ0 := Kept.mk hz0
  have KZ1 := Kept.mk hz1
  have KZ2 := Kept.mk hz2
  clear hi hz0 hz1 hz2
  go_enter Try.func9, Try.ntmps9
  go_wp2_with fail
  refine (shownW_any _).mono ?_; rintro z' w1 ⟨rfl, m1⟩
  have H1 := (Four.new w (.int .i64 A) (.int .i64 B) (.int .i64 C) (.int .i64 D) 39).mild (by simp) m1
  have KB1 := Kept.mk (((Mild.refl w).alloc #[.int .i64 A, .int .i64 B, .int .i64 C, .int .i64 D] 39).trans m1).below
  have hl1 : w.heap.size < w1.heap.size := by have := m1.below.size; simp at this; omega
  clear m1
  have KO := Kept.mk (World.ownsRow_lit (base := w1.heap.size) (e := 22) (size := 1) w1 #[] 0 (Nat.le_refl _) (by omega) rfl)
  have KA := Kept.mk ((Below.refl w1.heap.size w1).alloc (Nat.le_refl _) (.cells #[] 22))
  have KL := Kept.mk (show w1.heap.size ≤ (w1.alloc (.cells #[] 22)).heap.size by simp)
  have KSA := Kept.mk ((KS.out.below KB1.out).below KA.out)
  have hnil : (z.take len).map (Value.int .u32) = [] := by rw [show len = 0 by omega]; rfl
  rw [hnil] at KS KSA
  clear hnil
  go_wp2_with (at_builtin; (refine wpList_append_fits_any _ rfl (.tmp 27) (.tmp 28) 40 rfl w1.heap.size 22 i0 1 Try.underlying40 KI.out KZ1.out w1.heap.size 0 0 [] rfl KO.out ao len cap [] rfl (by rw [KSA.out.len]; omega) KSA.out.none KSA.out.cells KSA.out.one (by omega) ?_); intro w2 own2 grow2; have KO2 := Kept.mk own2; have KB2 := Kept.mk (KA.out.grown grow2 KA.out.size (fun k e => by injection e with e; omega)); clear own2 grow2; have H2 := H1.below hl1 KB2.out; have e0 := H2.c0; have e1 := H2.c1; have e2 := H2.c2; have e3 := H2.c3; have ef := H2.free)
  have own2 := KO2.out
  simp only [Nat.zero_add, List.nil_append] at own2
  have KO2 := Kept.mk own2
  have KP := Kept.mk (src_owned own2 (fun u hu => (by simp at hu)))
  have hq := KB2.out.size
  clear own2
  clear e0 e1 e2 e3 ef
  refine (pack_bad A B C D _ hbad.out).mono ?_; rintro z' w3 ⟨rfl, m3⟩
  have H3 := H2.mild (by omega) m3
  have KB3 := Kept.mk (KB2.out.trans (m3.below.mono hq))
  have KP3 := Kept.mk (KP.out.below m3.below)
  have hl3 := m3.below.size
  clear m3 H2
  have e0 := H3.c0
  have e1 := H3.c1
  have e2 := H3.c2
  have e3 := H3.c3
  have ef := H3.free
  go_wp2_with fail
  clear e0 e1 e2 e3 ef
  clear H3
  refine (command_bad A B C D _ _ hbad.out).mono ?_; rintro z' w4 ⟨rfl, m4⟩
  have b4 := m4.below
  clear m4
  have hl4 := b4.size
  have KB4 := Kept.mk (KB3.out.trans (b4.mono (by omega)))
  have KP4 := Kept.mk (KP3.out.below b4)
  clear b4
  go_wp2_with fail
  refine (answer_any 0 7 7 _ _ _ _ _ KP4.out (by omega) (by omega)).mono ?_; rintro z' w5 ⟨ga, ca, rfl, hr5⟩
  have KO5 := Kept.mk hr5.owns
  have hga := (hr5.owns.lt ga rfl).1
  have b5 := hr5.below
  have KB5 := Kept.mk (KB1.out.trans ((KB4.out.trans (b5.mono (by omega))).mono (by omega)))
  have hca := owns_cap hr5.owns
  have t1 : w5.cell? ⟨ga, 0 + 1, none⟩ = some (.int .u32 7) := by rw [KO5.out.cellAt (0 + 1) (by omega)]; rfl
  have KT1 := Kept.mk t1
  clear t1
  clear b5 hr5
  go_wp2_with fail
  go_loopw [12] (fun i wr => ∃ k : Nat, k ≤ len ∧ i = .int .i64 k ∧ wr = w5) (fun i _ => len - (intOf i).toNat)
  case atStart => exact ⟨0, by omega, rfl, rfl⟩
  case round =>
    obtain ⟨k0, hk0, rfl, rfl⟩ := hrel
    have t1 : wr.cell? ⟨ga, 0 + 1, none⟩ = some (.int .u32 7) := KT1.out
    have KT := Kept.mk t1
    clear t1
    have KW := Kept.mk KB5.out
    go_wp2_with fail
    go_loopw [13] (fun i wq => ∃ k : Nat, k ≤ len ∧ i = .int .i64 k ∧ ∃ n, wq = wr.drewN n) (fun i _ => len - (intOf i).toNat)
    case atStart => exact ⟨0, by omega, rfl, 0, rfl⟩
    case round =>
      obtain ⟨k, hk, rfl, n, rfl⟩ := hrel
      go_wp2_with fail
      refine (status_long ga 0 (len + 2) ca 7 7 (wr.drewN n) (by omega) KT.out (by unfold wrap32; omega)).mono ?_; rintro z' w6 ⟨rfl, rfl⟩
      go_wp2_with fail
      refine (status_short _ _ _ _ (by omega)).mono ?_; rintro z' w7 ⟨rfl, rfl⟩
      go_wp2_with fail
      go_ret
      exact ⟨rfl, KW.out.trans ⟨rfl, rfl, rfl, Nat.le_refl _, fun _ _ => rfl⟩⟩


set_option maxRecDepth 100000 in
theorem coreLong (A B C D : Int) (ao : Option Addr) (len cap : Nat) (w : World) (hl : 500 < len) (hl2 : len ≤ 9223372036854775807) :
    Calls Try.prog 9 #[.agg #[.int .i64 A, .int .i64 B, .int .i64 C, .int .i64 D], .slice ao len cap] w fun e w' => e = .returned (.bool true) ∧ Below w.heap.size w w' := by
  go_enter Try.func9, Try.ntmps9
  go_wp2_with fail
  refine (shownW_any _).mono ?_; rintro z' w1 ⟨rfl, m1⟩
  have acc := ((Mild.refl w).alloc #[.int .i64 A, .int .i64 B, .int .i64 C, .int .i64 D] 39).trans m1
  go_wp2_with fail
  go_ret
  exact ⟨rfl, acc.below⟩

theorem isRow_len {w : World} {a : Option Addr} {len cap : Nat} {z : List Int} (h : IsRow .u32 w a len cap z) : len ≤ z.length ∧ len ≤ 9223372036854775807 := by
  rcases h with ⟨rfl, rfl, rfl, rfl⟩ | ⟨x, rfl, h1, h2, h3, _⟩
  · exact ⟨Nat.le_refl _, by omega⟩
  · unfold maxLen at h2; omega

theorem walk (h0a h0b h0c h0d : Int) (a1 : Option Addr) (len1 cap1 : Nat) (z1 : List Int) (w : World) (wh0a : (Lit.int .i64 h0a).wf = true) (wh0b : (Lit.int .i64 h0b).wf = true) (wh0c : (Lit.int .i64 h0c).wf = true) (wh0d : (Lit.int .i64 h0d).wf = true) (w1 : IsRow .u32 w a1 len1 cap1 z1) :
    Calls Try.prog 9 #[.agg #[.int .i64 h0a, .int .i64 h0b, .int .i64 h0c, .int .i64 h0d], .slice a1 len1 cap1] w fun e w' => e = .returned (.bool true) ∧ Below w.heap.size w w' := by
  have hl := isRow_len w1
  by_cases hlen : 500 < len1
  · exact coreLong h0a h0b h0c h0d a1 len1 cap1 w hlen hl.2
  have hlen : len1 ≤ 500 := by omega
  have KS := Kept.mk (isRow_src w1)
  by_cases hk : headOk h0a h0b h0c h0d
  · obtain ⟨A, B, C, D, rfl, rfl, rfl, rfl, ha, hb, hc, hd⟩ := headOk_nat hk
    obtain ⟨R, hR⟩ : ∃ R, A + 256 * B + 1024 * C + 262144 * D = R := ⟨_, rfl⟩
    by_cases hz : len1 = 0
    · exact coreYE len1 cap1 z1 w A B C D R ha hb hc hd ⟨hR⟩ (by omega) a1 (by omega) KS hlen ⟨hl.1⟩
    · obtain ⟨b, off, rfl, hb0, hlc, hcell⟩ := isRow_cells w1 hz
      exact coreYA len1 cap1 z1 w A B C D R ha hb hc hd ⟨hR⟩ (by omega) b off hb0 (by omega) hlc ⟨hcell⟩ KS hlen ⟨hl.1⟩
  · by_cases hz : len1 = 0
    · exact coreNE len1 cap1 z1 w _ _ _ _ ⟨hk⟩ a1 (by omega) KS hlen ⟨hl.1⟩
    · obtain ⟨b, off, rfl, hb0, hlc, hcell⟩ := isRow_cells w1 hz
      exact coreNA len1 cap1 z1 w _ _ _ _ ⟨hk⟩ b off hb0 (by omega) hlc ⟨hcell⟩ KS hlen ⟨hl.1⟩

set_option maxRecDepth 100000 in
theorem lifted (os : Os) (started : os.Started) (H : Type) (enc : TypeId × Value → H) :
    ReturnsInHanded {} Try.checked os 9 .any (Rows.wordParamsSpec.pre6 enc Try.prog Try.f9 Rows.wordParamsRow.domain false) (Rows.wordParamsSpec.post enc Try.prog Try.f9 false true false false) := by
  refine returnsInHanded_of_change (C := Try.checked) own started (by kernel_rfl) Try.func9
    (ChangeSpec.witness6 (enc := enc) (C := Try.checked) false ⟨#[], #[.agg #[.int .i64 0, .int .i64 0, .int .i64 0, .int .i64 0], .slice none 0 0], []⟩ 8 (by kernel_rfl) (by kernel_rfl) (by kernel_rfl) (by kernel_rfl)) ?_
  intro W base args ds gs before hval0 hW hcnd _
  have hval : ∀ (j : Nat) t v, Try.f9.params[j]? = some t → args[j]? = some v → Value.okWide Try.prog W .any base t v := hval0
  have hW' := hW
  obtain ⟨p, q, hA0, hV, rfl, hfz, hnd⟩ := hW
  have hA : DataW.TrodAll enc Try.prog W 0 (fun _ => true) true Try.f9.params.toList args.toList ds p := hA0
  rw [Try.params9] at hA hval
  obtain ⟨v0, vs0, d0, ds0, p0, q0, hargs, rfl, rfl, h0, r0⟩ := trodAll_cons hA
  obtain ⟨v1, vs1, d1, ds1, p1, q1, rfl, rfl, rfl, h1, r1⟩ := trodAll_cons r0
  obtain ⟨rfl, rfl, rfl⟩ := trodAll_nil r1
  obtain rfl : args = #[v0, v1] := by cases args; simp_all
  obtain ⟨rfl, rfl⟩ := trodVars_none hV
  have k0 := h0
  have lt0 : ∀ x ∈ p0, x.block < W.heap.size := by obtain ⟨m, hm⟩ := k0; exact DataW.trod_lt m _ _ _ hm
  obtain ⟨c00, c01, c02, c03, y00, y01, y02, y03, fu0, rfl, hd0, hp0, hy00, hy01, hy02, hy03⟩ := Joins.open_agg4 Try.underlying39 (by kernel_rfl) cells39 (hval 0 39 v0 rfl rfl) h0
  obtain ⟨h0a, e00, _, wh0a⟩ := DataW.trod_int Try.underlying3 hy00
  simp at e00
  subst e00
  obtain ⟨h0b, e01, _, wh0b⟩ := DataW.trod_int Try.underlying3 hy01
  simp at e01
  subst e01
  obtain ⟨h0c, e02, _, wh0c⟩ := DataW.trod_int Try.underlying3 hy02
  simp at e02
  subst e02
  obtain ⟨h0d, e03, _, wh0d⟩ := DataW.trod_int Try.underlying3 hy03
  simp at e03
  subst e03
  obtain ⟨a1, len1, cap1, rfl⟩ := okWide_slice Try.underlying40 (hval 1 40 v1 rfl rfl)
  have k1 := h1
  have lt1 : ∀ x ∈ p1, x.block < W.heap.size := by obtain ⟨m, hm⟩ := k1; exact DataW.trod_lt m _ _ _ hm
  obtain ⟨z1, w1⟩ : ∃ zs, IsRow .u32 W a1 len1 cap1 zs := by
    obtain ⟨fuel, hf⟩ := h1
    rcases open_ints Try.underlying40 Try.underlying22 (by kernel_rfl) hf with ⟨hcs, _⟩ | ⟨x, l, c, zs, hcs, _, hl, hm, hz, _, hcell, hwz⟩
    · simp [Value.cells] at hcs
      obtain ⟨rfl, rfl, rfl⟩ := hcs
      exact ⟨[], .inl ⟨rfl, rfl, rfl, rfl⟩⟩
    · simp [Value.cells] at hcs
      obtain ⟨rfl, rfl, rfl⟩ := hcs
      refine ⟨zs, .inr ⟨_, rfl, hl, hm, by simpa using hz, hcell, hwz, fun i hi => ?_⟩⟩
      exact World.cell?_lt' (hcell i hi)
  clear hA0 hval0
  refine (walk h0a h0b h0c h0d a1 len1 cap1 z1 W wh0a wh0b wh0c wh0d w1).mono fun e W' ⟨he, bel⟩ => ?_
  subst he
  exact ⟨_, rfl, _, _, _, [], _, [], hW', trodAll_mk1 (shut_bool Try.underlying4 _), (trodAll_cons_mk (Below.trod laidOut (by kernel_rfl) (of_decide_eq_true (by kernel_rfl)) k0 bel lt0) (trodAll_cons_mk (Below.trod laidOut (by kernel_rfl) (of_decide_eq_true (by kernel_rfl)) k1 bel lt1) trodAll_mk0)), rfl, bel.frame _, fun h => by cases h⟩

theorem over : Rows.wordParamsRow.holds Try.pinned (OpenSpec.ofChange Rows.wordParamsSpec) :=
  OpenClaim.holds_of_wide 9 Try.f9 rfl rfl rfl rfl rfl rfl rfl ⟨rfl, rfl, rfl, rfl, rfl⟩ rfl rfl rfl rfl rfl (by kernel_rfl) Try.func9 (by kernel_rfl)
    (of_decide_eq_true (by kernel_rfl)) (by unfold Func.isWrapper; first | (rw [if_pos (by decide +kernel)]; kernel_rfl) | (rw [if_neg (by decide +kernel)]; exact ⟨rfl, rfl⟩))
    (fun os started H enc _ => lifted os started H enc)

theorem proved : Rows.WordParamsSaid :=
  over
#print axioms proved
end Go.Proofs.Ytojfhebejfibkaa.wordParams
