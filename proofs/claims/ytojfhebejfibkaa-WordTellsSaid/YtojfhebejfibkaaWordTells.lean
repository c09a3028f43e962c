/- WordTells: for every input the law returns true, and each argument reads afterwards as it read before. No condition. -/
import Derived.Test.YtojfhebejfibkaaRows
import Derived.WalkKit
import Derived.ProofKit
import Derived.OpenShut
import Derived.ShutString
import Derived.ChangeOld
import Derived.Below
import Derived.Lib.SmallJoins
import Derived.Test.YtojfhebejfibkaaTellTwo
import Derived.BigQuiet
namespace Go.Proofs.Ytojfhebejfibkaa.wordTells
open Go.ChangeShapes Go.WideShapes Go.ChangeAt Go.RowKit
open Go.ChangeMaps (open_string shut_string)
set_option linter.unusedVariables false

theorem own : ownKnob Try.prog.godebug = none := by kernel_rfl
theorem laidOut : laidOutB Try.prog = true := by kernel_rfl
theorem cells39 : Try.prog.cellsOf 39 = 4 := by kernel_rfl

theorem World.cell?_lt' {w : World} {a : Addr} {v : Value} (h : w.cell? a = some v) : a.block < w.heap.size := by
  by_cases c : a.block < w.heap.size
  · exact c
  · unfold World.cell? at h
    rw [Array.getElem?_eq_none (by omega)] at h
    simp at h

/-- What the walk is told of a slice of integers that came in: it is nil; or it leads to a row of cells. -/
def IsRow (k : IntKind) (w : World) (a : Option Addr) (len cap : Nat) (zs : List Int) : Prop :=
  (a = none ∧ len = 0 ∧ cap = 0 ∧ zs = []) ∨
  ∃ x, a = some x ∧ len ≤ cap ∧ cap ≤ maxLen ∧ zs.length = cap ∧ (∀ i, i < zs.length → w.cell? (x.add i) = some (.int k (zs.getD i 0))) ∧ (∀ n ∈ zs, (Lit.int k n).wf = true) ∧ ∀ i, i < zs.length → (x.add i).block < w.heap.size

theorem isRow_src {w : World} {a : Option Addr} {len cap : Nat} {z : List Int} (h : IsRow .u32 w a len cap z) : Src w a len cap ((z.take len).map (Value.int .u32)) := by
  rcases h with ⟨rfl, rfl, rfl, rfl⟩ | ⟨x, rfl, h1, h2, h3, h4, h5, h6⟩
  · exact ⟨fun _ => ⟨rfl, rfl⟩, rfl, fun ad e => (by cases e), fun ad e => (by cases e), fun u hu => (by simp at hu)⟩
  · refine ⟨fun e => (by cases e), by simp; omega, ?_, ?_, fun u hu => ?_⟩
    · intro ad e n
      injection e with e; subst e
      have := h6 0 (by omega)
      simpa [Addr.add] using this
    · intro ad e j u hj
      injection e with e; subst e
      rw [List.getElem?_map, List.getElem?_take] at hj
      by_cases c : j < len
      · rw [if_pos c] at hj
        have hz : j < z.length := by omega
        rw [List.getElem?_eq_getElem hz] at hj
        simp at hj
        rw [h4 j hz, ← hj]
        simp [List.getD, hz]
      · rw [if_neg c] at hj; simp at hj
    · obtain ⟨n, _, rfl⟩ := List.mem_map.1 hu
      rfl

/-- The cells of a list that is not empty: their block, and what each holds. -/
theorem isRow_cells {w : World} {a : Option Addr} {len cap : Nat} {z : List Int} (h : IsRow .u32 w a len cap z) (hl : len ≠ 0) :
    ∃ b off, a = some ⟨b, off, none⟩ ∧ b < w.heap.size ∧ len ≤ cap ∧ ∀ j, j < len → w.cell? ⟨b, off + j, none⟩ = some (.int .u32 (z.getD j 0)) := by
  rcases h with ⟨rfl, rfl, rfl, rfl⟩ | ⟨x, rfl, h1, h2, h3, h4, h5, h6⟩
  · exact absurd rfl hl
  · obtain ⟨b, off, spot⟩ := x
    have hc := h4 0 (by omega)
    have hspot : spot = none := by simpa [Addr.add] using World.cell?_spot hc
    subst hspot
    refine ⟨b, off, rfl, by simpa [Addr.add] using h6 0 (by omega), h1, fun j hj => ?_⟩
    have := h4 j (by omega)
    unfold Addr.add at this
    by_cases c : j = 0
    · subst c; simpa using this
    · simpa [c] using this

set_option maxRecDepth 100000 in
set_option maxHeartbeats 4000000 in
theorem core (a b c d v e : Int) (W : Nat) (p q r s ue S V T te : Int) (ao : Option Addr) (len cap n : Nat) (zs vs : List Int) (w : World)
    (HW : Kept (W < 4294967296)) (HP : Kept (PackR a b c d v e)) (HU : Kept (UnpR W p q r s ue)) (HT : Kept (StatR w ao len T te)) (HV : Kept (S % 4294967296 = V)) (KS : Kept (Src w ao len cap (zs.map (Value.int .u32)))) (HC : Kept (CmdV len v e zs n vs)) (hlen : len ≤ 500) :
    Calls Try.prog 13 #[.agg #[.int .i64 a, .int .i64 b, .int .i64 c, .int .i64 d], .int .u32 (W : Int), .int .i32 S, .slice ao len cap] w fun e w' => e = .returned (.bool true) ∧ Below w.heap.size w w' := by
  go_enter Try.func13, Try.ntmps13
  go_wp2_with fail
  refine (shownW_any _).mono ?_; rintro z' w1 ⟨rfl, m1⟩
  have H1 := (Four.new w (.int .i64 a) (.int .i64 b) (.int .i64 c) (.int .i64 d) 39).mild (by simp) m1
  have KB1 := Kept.mk (((Mild.refl w).alloc #[.int .i64 a, .int .i64 b, .int .i64 c, .int .i64 d] 39).trans m1).below
  have hl1 : w.heap.size < w1.heap.size := by have := m1.below.size; simp at this; omega
  clear m1
  have e0 := H1.c0
  have e1 := H1.c1
  have e2 := H1.c2
  have e3 := H1.c3
  have ef := H1.free
  go_wp2_with fail
  clear e0 e1 e2 e3 ef
  refine (pack_rel _ HP.out).mono ?_; rintro z' w2 ⟨rfl, m2⟩
  have hl2 : w1.heap.size < w2.heap.size := by have := m2.below.size; simp at this; omega
  have H2 := (H1.old hl1 _ _).mild (by simp; omega) m2
  have G2 := (Four.new w1 (.int .i64 a) (.int .i64 b) (.int .i64 c) (.int .i64 d) 51).mild (by simp) m2
  have KB2 := Kept.mk ((KB1.out.alloc (by omega) (.cells #[.int .i64 a, .int .i64 b, .int .i64 c, .int .i64 d] 51)).trans (m2.below.mono (by simp; omega)))
  clear m2 H1
  have e0 := G2.c0
  have e1 := G2.c1
  have e2 := G2.c2
  have e3 := G2.c3
  have ef := G2.free
  go_wp2_with fail
  clear e0 e1 e2 e3 ef
  refine (ref_pack_rel _ HP.out).mono ?_; rintro z' w3 ⟨rfl, m3⟩
  have hl3 := m3.below.size
  have H3 := H2.mild (by omega) m3
  have G3 := G2.mild (by omega) m3
  have KB3 := Kept.mk (KB2.out.trans (m3.below.mono (by omega)))
  clear m3 H2 G2
  go_wp2_with fail
  refine (unpack_rel _ HW.out HU.out).mono ?_; rintro z' w4 ⟨rfl, m4⟩
  have hl4 := m4.below.size
  have H4 := H3.mild (by omega) m4
  have G4 := G3.mild (by omega) m4
  have KB4 := Kept.mk (KB3.out.trans (m4.below.mono (by omega)))
  clear m4 H3 G3
  go_wp2_with fail
  refine (ref_unpack_rel _ HW.out HU.out).mono ?_; rintro z' w5 ⟨rfl, m5⟩
  have hl5 : w4.heap.size < w5.heap.size := by have := m5.below.size; simp at this; omega
  have H5 := (H4.old (by omega) _ _).mild (by simp; omega) m5
  have G5 := (G4.old (by omega) _ _).mild (by simp; omega) m5
  have C5 := (Four.new w4 (.int .i64 p) (.int .i64 q) (.int .i64 r) (.int .i64 s) 39).mild (by simp) m5
  have KB5 := Kept.mk ((KB4.out.alloc (by omega) (.cells #[.int .i64 p, .int .i64 q, .int .i64 r, .int .i64 s] 39)).trans (m5.below.mono (by simp; omega)))
  have hw5 : w.heap.size < w5.heap.size := by omega
  have hw51 : w1.heap.size < w5.heap.size := by omega
  clear m5 H4 G4
  have e0 := H5.c0
  have e1 := H5.c1
  have e2 := H5.c2
  have e3 := H5.c3
  have ef := H5.free
  go_wp2_with fail
  clear e0 e1 e2 e3 ef
  have KA5 := Kept.mk (KB5.out.alloc (by omega) (.cells #[.int .i64 p, .int .i64 q, .int .i64 r, .int .i64 s] 51))
  refine (command_rel _ HP.out (KS.out.below KA5.out) (by omega) HC.out).mono ?_; rintro z' w6 ⟨a1, c1, rfl, b6, L6⟩
  have hl6 : w5.heap.size < w6.heap.size := by have := b6.size; simp at this; omega
  have G6 := (G5.old (by omega) _ _).below (by simp; omega) b6
  have C6 := (C5.old (by omega) _ _).below (by simp; omega) b6
  have D6 := (Four.new w5 (.int .i64 p) (.int .i64 q) (.int .i64 r) (.int .i64 s) 51).below (by simp) b6
  have KB6 := Kept.mk (KA5.out.trans (b6.mono (by simp; omega)))
  clear b6 H5 G5 C5 KA5
  have e0 := G6.c0
  have e1 := G6.c1
  have e2 := G6.c2
  have e3 := G6.c3
  have ef := G6.free
  go_wp2_with fail
  clear e0 e1 e2 e3 ef
  refine (ref_command_rel _ HP.out (KS.out.below KB6.out) (by omega) HC.out).mono ?_; rintro z' w7 ⟨a2, c2, rfl, b7, L7⟩
  have hl7 := b7.size
  have KL6 := Kept.mk (L6.below b7)
  have KL7 := Kept.mk L7
  have C7 := C6.below (by omega) b7
  have D7 := D6.below (by omega) b7
  have KB7 := Kept.mk (KB6.out.trans (b7.mono (by omega)))
  clear b7 G6 C6 D6 L6 L7
  go_wp2_with fail
  refine (status_rel _ (HT.out.below KB7.out)).mono ?_; rintro z' w' ⟨rfl, rfl⟩
  go_wp2_with fail
  refine (ref_status_rel _ (HT.out.below KB7.out)).mono ?_; rintro z' w' ⟨rfl, rfl⟩
  have e0 := C7.c0
  have e1 := C7.c1
  have e2 := C7.c2
  have e3 := C7.c3
  have ef := C7.free
  have f0 := D7.c0
  have f1 := D7.c1
  have f2 := D7.c2
  have f3 := D7.c3
  have ff := D7.free
  go_wp2_with fail
  clear e0 e1 e2 e3 ef
  clear f0 f1 f2 f3 ff
  refine (same_lst _ KL6.out KL7.out).mono ?_; rintro z' w' ⟨rfl, k8, rfl⟩
  go_wp2_with fail
  have KB8 := Kept.mk (KB7.out.trans (⟨rfl, rfl, rfl, Nat.le_refl _, fun _ _ => rfl⟩ : Below w.heap.size w' (w'.drewN k8)))
  refine (answer_rel _ (KS.out.below KB8.out) (by omega) HV.out).mono ?_; rintro z' w9 ⟨a3, c3, rfl, b9, L9⟩
  have KB9 := Kept.mk (KB8.out.trans (b9.mono KB8.out.size))
  have KL9 := Kept.mk L9
  clear b9 L9
  go_wp2_with fail
  refine (ref_answer_rel _ (KS.out.below KB9.out) (by omega) HV.out).mono ?_; rintro z' w10 ⟨a4, c4, rfl, b10, L10⟩
  have KB10 := Kept.mk (KB9.out.trans (b10.mono KB9.out.size))
  have KL10 := Kept.mk L10
  have KM9 := Kept.mk (KL9.out.below b10)
  clear b10 L10 KL9
  go_wp2_with fail
  refine (same_lst _ KM9.out KL10.out).mono ?_; rintro z' w' ⟨rfl, k11, rfl⟩
  go_wp2_with fail
  go_ret
  exact ⟨rfl, KB10.out.trans ⟨rfl, rfl, rfl, Nat.le_refl _, fun _ _ => rfl⟩⟩


set_option maxRecDepth 100000 in
theorem coreLong (A B C D : Int) (W : Int) (S : Int) (ao : Option Addr) (len cap : Nat) (w : World) (hl : 500 < len) (hl2 : len ≤ 9223372036854775807) :
    Calls Try.prog 13 #[.agg #[.int .i64 A, .int .i64 B, .int .i64 C, .int .i64 D], .int .u32 W, .int .i32 S, .slice ao len cap] w fun e w' => e = .returned (.bool true) ∧ Below w.heap.size w w' := by
  go_enter Try.func13, Try.ntmps13
  go_wp2_with fail
  refine (shownW_any _).mono ?_; rintro z' w1 ⟨rfl, m1⟩
  have acc := ((Mild.refl w).alloc #[.int .i64 A, .int .i64 B, .int .i64 C, .int .i64 D] 39).trans m1
  go_wp2_with fail
  go_ret
  exact ⟨rfl, acc.below⟩

theorem isRow_len {w : World} {a : Option Addr} {len cap : Nat} {z : List Int} (h : IsRow .u32 w a len cap z) : len ≤ z.length ∧ len ≤ 9223372036854775807 := by
  rcases h with ⟨rfl, rfl, rfl, rfl⟩ | ⟨x, rfl, h1, h2, h3, _⟩
  · exact ⟨Nat.le_refl _, by omega⟩
  · unfold maxLen at h2; omega

theorem stat_exists {w : World} {a : Option Addr} {len cap : Nat} {z : List Int} (h : IsRow .u32 w a len cap z) : ∃ T te, StatR w a len T te := by
  by_cases c : len < 2
  · exact ⟨_, _, Or.inl ⟨c, rfl, rfl⟩⟩
  · obtain ⟨b, off, rfl, hb0, _, hcell⟩ := isRow_cells h (by omega)
    exact ⟨_, _, Or.inr ⟨by omega, rfl, b, off, _, rfl, hb0, hcell 1 (by omega), rfl⟩⟩

theorem walk (h0a h0b h0c h0d : Int) (a1 : Int) (a2 : Int) (a3 : Option Addr) (len3 cap3 : Nat) (z3 : List Int) (w : World) (wh0a : (Lit.int .i64 h0a).wf = true) (wh0b : (Lit.int .i64 h0b).wf = true) (wh0c : (Lit.int .i64 h0c).wf = true) (wh0d : (Lit.int .i64 h0d).wf = true) (w1 : (Lit.int .u32 a1).wf = true) (w2 : (Lit.int .i32 a2).wf = true) (w3 : IsRow .u32 w a3 len3 cap3 z3) :
    Calls Try.prog 13 #[.agg #[.int .i64 h0a, .int .i64 h0b, .int .i64 h0c, .int .i64 h0d], .int .u32 a1, .int .i32 a2, .slice a3 len3 cap3] w fun e w' => e = .returned (.bool true) ∧ Below w.heap.size w w' := by
  obtain ⟨A0, A1⟩ := bounds_u32 w1
  obtain ⟨W, rfl⟩ := Int.eq_ofNat_of_zero_le A0
  have hl := isRow_len w3
  by_cases hlen : 500 < len3
  · exact coreLong h0a h0b h0c h0d W a2 a3 len3 cap3 w hlen hl.2
  obtain ⟨v, e, HP⟩ := packR_exists h0a h0b h0c h0d
  obtain ⟨p, q, r, s, ue, HU⟩ := unpR_exists W
  obtain ⟨T, te, HT⟩ := stat_exists w3
  obtain ⟨n, vs, HC⟩ := cmd_exists len3 (z3.take len3) HP
  exact core h0a h0b h0c h0d v e W p q r s ue a2 _ T te a3 len3 cap3 n (z3.take len3) vs w ⟨by omega⟩ ⟨HP⟩ ⟨HU⟩ ⟨HT⟩ ⟨rfl⟩ ⟨isRow_src w3⟩ ⟨HC⟩ (by omega)

set_option maxRecDepth 100000 in
theorem lifted (os : Os) (started : os.Started) (H : Type) (enc : TypeId × Value → H) :
    ReturnsInHanded {} Try.checked os 13 .any (Rows.wordTellsSpec.pre6 enc Try.prog Try.f13 Rows.wordTellsRow.domain false) (Rows.wordTellsSpec.post enc Try.prog Try.f13 false true false false) := by
  refine returnsInHanded_of_change (C := Try.checked) own started (by kernel_rfl) Try.func13
    (ChangeSpec.witness6 (enc := enc) (C := Try.checked) false ⟨#[], #[.agg #[.int .i64 0, .int .i64 0, .int .i64 0, .int .i64 0], .int .u32 0, .int .i32 0, .slice none 0 0], []⟩ 8 (by kernel_rfl) (by kernel_rfl) (by kernel_rfl) (by kernel_rfl)) ?_
  intro W base args ds gs before hval0 hW hcnd _
  have hval : ∀ (j : Nat) t v, Try.f13.params[j]? = some t → args[j]? = some v → Value.okWide Try.prog W .any base t v := hval0
  have hW' := hW
  obtain ⟨p, q, hA0, hV, rfl, hfz, hnd⟩ := hW
  have hA : DataW.TrodAll enc Try.prog W 0 (fun _ => true) true Try.f13.params.toList args.toList ds p := hA0
  rw [Try.params13] at hA hval
  obtain ⟨v0, vs0, d0, ds0, p0, q0, hargs, rfl, rfl, h0, r0⟩ := trodAll_cons hA
  obtain ⟨v1, vs1, d1, ds1, p1, q1, rfl, rfl, rfl, h1, r1⟩ := trodAll_cons r0
  obtain ⟨v2, vs2, d2, ds2, p2, q2, rfl, rfl, rfl, h2, r2⟩ := trodAll_cons r1
  obtain ⟨v3, vs3, d3, ds3, p3, q3, rfl, rfl, rfl, h3, r3⟩ := trodAll_cons r2
  obtain ⟨rfl, rfl, rfl⟩ := trodAll_nil r3
  obtain rfl : args = #[v0, v1, v2, v3] := by cases args; simp_all
  obtain ⟨rfl, rfl⟩ := trodVars_none hV
  have k0 := h0
  have lt0 : ∀ x ∈ p0, x.block < W.heap.size := by obtain ⟨m, hm⟩ := k0; exact DataW.trod_lt m _ _ _ hm
  obtain ⟨c00, c01, c02, c03, y00, y01, y02, y03, fu0, rfl, hd0, hp0, hy00, hy01, hy02, hy03⟩ := Joins.open_agg4 Try.underlying39 (by kernel_rfl) cells39 (hval 0 39 v0 rfl rfl) h0
  obtain ⟨h0a, e00, _, wh0a⟩ := DataW.trod_int Try.underlying3 hy00
  simp at e00
  subst e00
  obtain ⟨h0b, e01, _, wh0b⟩ := DataW.trod_int Try.underlying3 hy01
  simp at e01
  subst e01
  obtain ⟨h0c, e02, _, wh0c⟩ := DataW.trod_int Try.underlying3 hy02
  simp at e02
  subst e02
  obtain ⟨h0d, e03, _, wh0d⟩ := DataW.trod_int Try.underlying3 hy03
  simp at e03
  subst e03
  obtain ⟨a1, rfl, rfl, rfl, w1⟩ := open_int Try.underlying22 (hval 1 22 v1 rfl rfl) h1
  obtain ⟨a2, rfl, rfl, rfl, w2⟩ := open_int Try.underlying21 (hval 2 21 v2 rfl rfl) h2
  obtain ⟨a3, len3, cap3, rfl⟩ := okWide_slice Try.underlying40 (hval 3 40 v3 rfl rfl)
  have k3 := h3
  have lt3 : ∀ x ∈ p3, x.block < W.heap.size := by obtain ⟨m, hm⟩ := k3; exact DataW.trod_lt m _ _ _ hm
  obtain ⟨z3, w3⟩ : ∃ zs, IsRow .u32 W a3 len3 cap3 zs := by
    obtain ⟨fuel, hf⟩ := h3
    rcases open_ints Try.underlying40 Try.underlying22 (by kernel_rfl) hf with ⟨hcs, _⟩ | ⟨x, l, c, zs, hcs, _, hl, hm, hz, _, hcell, hwz⟩
    · simp [Value.cells] at hcs
      obtain ⟨rfl, rfl, rfl⟩ := hcs
      exact ⟨[], .inl ⟨rfl, rfl, rfl, rfl⟩⟩
    · simp [Value.cells] at hcs
      obtain ⟨rfl, rfl, rfl⟩ := hcs
      refine ⟨zs, .inr ⟨_, rfl, hl, hm, by simpa using hz, hcell, hwz, fun i hi => ?_⟩⟩
      exact World.cell?_lt' (hcell i hi)
  clear hA0 hval0
  refine (walk h0a h0b h0c h0d a1 a2 a3 len3 cap3 z3 W wh0a wh0b wh0c wh0d w1 w2 w3).mono fun e W' ⟨he, bel⟩ => ?_
  subst he
  exact ⟨_, rfl, _, _, _, [], _, [], hW', trodAll_mk1 (shut_bool Try.underlying4 _), (trodAll_cons_mk (Below.trod laidOut (by kernel_rfl) (of_decide_eq_true (by kernel_rfl)) k0 bel lt0) (trodAll_cons_mk (shut_int Try.underlying22 w1) (trodAll_cons_mk (shut_int Try.underlying21 w2) (trodAll_cons_mk (Below.trod laidOut (by kernel_rfl) (of_decide_eq_true (by kernel_rfl)) k3 bel lt3) trodAll_mk0)))), rfl, bel.frame _, fun h => by cases h⟩

theorem over : Rows.wordTellsRow.holds Try.pinned (OpenSpec.ofChange Rows.wordTellsSpec) :=
  OpenClaim.holds_of_wide 13 Try.f13 rfl rfl rfl rfl rfl rfl rfl ⟨rfl, rfl, rfl, rfl, rfl⟩ rfl rfl rfl rfl rfl (by kernel_rfl) Try.func13 (by kernel_rfl)
    (of_decide_eq_true (by kernel_rfl)) (by unfold Func.isWrapper; first | (rw [if_pos (by decide +kernel)]; kernel_rfl) | (rw [if_neg (by decide +kernel)]; exact ⟨rfl, rfl⟩))
    (fun os started H enc _ => lifted os started H enc)

theorem proved : Rows.WordTellsSaid :=
  over
#print axioms proved
end Go.Proofs.Ytojfhebejfibkaa.wordTells
