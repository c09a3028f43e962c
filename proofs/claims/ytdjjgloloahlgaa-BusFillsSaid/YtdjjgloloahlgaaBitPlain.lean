/- The plain law of fields of words, no program in sight: what the shifts and the bitwise operators make of a word, bit by bit. No condition. -/
import Derived.Laws.BitsAllLaws
import Derived.Laws.Entries
import Derived.Lib.Hide
namespace Go.Proofs.Ytdjjgloloahlgaa

/-- The number in the field of m bits from l on. -/
def getN (w l m : Nat) : Nat := w / 2 ^ l % 2 ^ m
/-- The word with v in that field. -/
def putN (w l m v : Nat) : Nat := (w &&& (4294967295 - (2 ^ m - 1) * 2 ^ l)) ||| (v * 2 ^ l)
/-- The word turned by k to the higher side. -/
def rotN (w k : Nat) : Nat := (w * 2 ^ k % 4294967296) ||| (w / 2 ^ (32 - k))

theorem testBit_mul_pow (v l i : Nat) : (v * 2 ^ l).testBit i = (decide (l ≤ i) && v.testBit (i - l)) := by
  rw [← Nat.shiftLeft_eq, Nat.testBit_shiftLeft]

theorem bit_above {v m i : Nat} (hv : v < 2 ^ m) (h : m ≤ i) : v.testBit i = false :=
  Nat.testBit_lt_two_pow (Nat.lt_of_lt_of_le hv (Nat.pow_le_pow_right (by omega) h))
theorem bit_high {w i : Nat} (hw : w < 4294967296) (h : 32 ≤ i) : w.testBit i = false := bit_above (m := 32) hw h

theorem getN_bit (w l m i : Nat) : (getN w l m).testBit i = (decide (i < m) && w.testBit (l + i)) := by
  unfold getN
  rw [Nat.testBit_mod_two_pow, Nat.testBit_div_two_pow, Nat.add_comm]

theorem getN_lt (w l m : Nat) : getN w l m < 2 ^ m := Nat.mod_lt _ (Nat.two_pow_pos m)

theorem mask_lt {l m : Nat} (h : l + m ≤ 32) : (2 ^ m - 1) * 2 ^ l < 2 ^ 32 := by
  have h1 : (2 ^ m - 1) * 2 ^ l < 2 ^ m * 2 ^ l := Nat.mul_lt_mul_of_pos_right (by have := Nat.two_pow_pos m; omega) (Nat.two_pow_pos l)
  rw [← Nat.pow_add] at h1
  exact Nat.lt_of_lt_of_le h1 (Nat.pow_le_pow_right (by omega) (by omega))

theorem putN_bit {w l m v : Nat} (h : l + m ≤ 32) (hw : w < 4294967296) (hv : v < 2 ^ m) (i : Nat) :
    (putN w l m v).testBit i = if l ≤ i ∧ i < l + m then v.testBit (i - l) else w.testBit i := by
  unfold putN
  rw [Nat.testBit_or, Nat.testBit_and, testBit_mul_pow]
  have e : 4294967295 - (2 ^ m - 1) * 2 ^ l = 2 ^ 32 - ((2 ^ m - 1) * 2 ^ l + 1) := by
    have := mask_lt h; omega
  rw [e, Nat.testBit_two_pow_sub_succ (mask_lt h), testBit_mul_pow, Nat.testBit_two_pow_sub_one]
  by_cases a : l ≤ i
  · by_cases b : i - l < m
    · rw [if_pos (by omega)]; simp [a, b]
    · rw [if_neg (by omega), bit_above hv (by omega)]
      by_cases c : i < 32
      · simp [b, c]
      · rw [bit_high hw (by omega)]; simp
  · rw [if_neg (by omega)]
    by_cases c : i < 32
    · simp [a, c]
    · rw [bit_high hw (by omega)]; simp [a]

theorem putN_lt {w l m v : Nat} (h : l + m ≤ 32) (hw : w < 4294967296) (hv : v < 2 ^ m) : putN w l m v < 4294967296 := by
  have : putN w l m v < 2 ^ 32 := Nat.lt_pow_two_of_testBit _ (fun i hi => by
    rw [putN_bit h hw hv]
    rw [if_neg (by omega)]
    exact bit_high hw hi)
  exact this

theorem rotN_bit {w k : Nat} (hw : w < 4294967296) (hk : k ≤ 32) (i : Nat) :
    (rotN w k).testBit i = if i < k then w.testBit (i + (32 - k)) else decide (i < 32) && w.testBit (i - k) := by
  unfold rotN
  have e : (4294967296 : Nat) = 2 ^ 32 := by decide
  rw [Nat.testBit_or, e, Nat.testBit_mod_two_pow, testBit_mul_pow, Nat.testBit_div_two_pow]
  by_cases a : i < k
  · rw [if_pos a, show decide (k ≤ i) = false from decide_eq_false (by omega)]; simp
  · rw [if_neg a, show decide (k ≤ i) = true from decide_eq_true (by omega), bit_high hw (show 32 ≤ i + (32 - k) by omega)]; simp

theorem rotN_lt {w k : Nat} (hw : w < 4294967296) (hk : k ≤ 32) : rotN w k < 4294967296 := by
  have : rotN w k < 2 ^ 32 := Nat.lt_pow_two_of_testBit _ (fun i hi => by
    rw [rotN_bit hw hk, if_neg (by omega), decide_eq_false (by omega)]; rfl)
  exact this

/-- The mask of m bits from a on. -/
def maskN (m a : Nat) : Nat := (2 ^ m - 1) * 2 ^ a

/-- How many of the first n are true. -/
def popB : Nat → (Nat → Bool) → Nat
  | 0, _ => 0
  | n + 1, f => (f 0).toNat + popB n (fun i => f (i + 1))
def popN (w : Nat) : Nat := popB 32 w.testBit

theorem popB_congr {n : Nat} {f g : Nat → Bool} (h : ∀ i, i < n → f i = g i) : popB n f = popB n g := by
  induction n generalizing f g with
  | zero => rfl
  | succ n ih => rw [popB, popB, h 0 (by omega), ih (fun i hi => h (i + 1) (by omega))]

theorem popB_none {n : Nat} {f : Nat → Bool} (h : ∀ i, i < n → f i = false) : popB n f = 0 := by
  induction n generalizing f with
  | zero => rfl
  | succ n ih => rw [popB, h 0 (by omega), ih (fun i hi => h (i + 1) (by omega))]; rfl

theorem popB_add (a b : Nat) (f : Nat → Bool) : popB (a + b) f = popB a f + popB b (fun i => f (a + i)) := by
  induction a generalizing f with
  | zero => simp [popB]
  | succ a ih =>
    rw [show a + 1 + b = (a + b) + 1 by omega, popB, popB, ih, Nat.add_assoc]
    congr 2
    exact popB_congr fun i _ => congrArg f (by omega)

theorem popB_le (n : Nat) (f : Nat → Bool) : popB n f ≤ n := by
  induction n generalizing f with
  | zero => exact Nat.le_refl _
  | succ n ih =>
    rw [popB]
    have := ih (fun i => f (i + 1))
    have : (f 0).toNat ≤ 1 := Bool.toNat_le _
    omega

theorem popB_not (n : Nat) (f : Nat → Bool) : popB n f + popB n (fun i => !f i) = n := by
  induction n generalizing f with
  | zero => rfl
  | succ n ih =>
    rw [popB, popB]
    have := ih (fun i => f (i + 1))
    cases f 0 <;> simp <;> omega

theorem popB_dec (n w : Nat) (h : w < 2 ^ n) (h0 : w ≠ 0) : popB n (w &&& (w - 1)).testBit + 1 = popB n w.testBit := by
  induction n generalizing w with
  | zero => rw [Nat.pow_zero] at h; omega
  | succ n ih =>
    rw [popB, popB]
    have b0 : (w &&& (w - 1)).testBit 0 = false := by
      rw [Nat.testBit_and, Nat.testBit_zero, Nat.testBit_zero]
      by_cases o : w % 2 = 1
      · have : (w - 1) % 2 = 0 := by omega
        simp [this]
      · simp [o]
    rw [b0]
    have hs : ∀ x : Nat, (fun i => x.testBit (i + 1)) = (x / 2).testBit := fun x => by funext i; exact Nat.testBit_succ x i
    have h2 : (w &&& (w - 1)) / 2 = w / 2 &&& (w - 1) / 2 := by
      apply Nat.eq_of_testBit_eq; intro i
      rw [← Nat.testBit_succ, Nat.testBit_and, Nat.testBit_and, Nat.testBit_succ, Nat.testBit_succ]
    rw [hs, hs, h2, Nat.testBit_zero]
    by_cases o : w % 2 = 1
    · rw [show (w - 1) / 2 = w / 2 by omega, Nat.and_self]; simp [o]; omega
    · have := ih (w / 2) (by rw [Nat.pow_succ] at h; omega) (by omega)
      rw [show (w - 1) / 2 = w / 2 - 1 by omega]; simp [o]; omega

theorem popN_dec {w : Nat} (h : w < 4294967296) (h0 : w ≠ 0) : popN (w &&& (w - 1)) + 1 = popN w := popB_dec 32 w h h0
theorem popN_zero : popN 0 = 0 := by decide
theorem popN_le (w : Nat) : popN w ≤ 32 := popB_le 32 _

theorem pow_pred {m : Nat} (h : 1 ≤ m) : 2 ^ m = 2 * 2 ^ (m - 1) := by
  obtain ⟨k, rfl⟩ : ∃ k, m = k + 1 := ⟨m - 1, by omega⟩
  rw [Nat.pow_succ, Nat.add_sub_cancel, Nat.mul_comm]

/-- The number of a field of m bits whose highest one is its sign. -/
def sgnN (v m : Nat) : Int := if 2 ^ (m - 1) ≤ v then (v : Int) - 2 ^ m else v

/-! ### Turning -/
theorem rotN_bit' {w k : Nat} (hw : w < 4294967296) (hk : k ≤ 32) {i : Nat} (hi : i < 32) : (rotN w k).testBit i = w.testBit ((i + 32 - k) % 32) := by
  rw [rotN_bit hw hk]
  by_cases a : i < k
  · rw [if_pos a, show (i + 32 - k) % 32 = i + (32 - k) by omega]
  · rw [if_neg a, decide_eq_true hi, show (i + 32 - k) % 32 = i - k by omega]; rfl

theorem word_ext {a b : Nat} (ha : a < 4294967296) (hb : b < 4294967296) (h : ∀ i, i < 32 → a.testBit i = b.testBit i) : a = b := by
  apply Nat.eq_of_testBit_eq; intro i
  by_cases c : i < 32
  · exact h i c
  · rw [bit_high ha (by omega), bit_high hb (by omega)]

theorem rotN_rotN {w k j : Nat} (hw : w < 4294967296) (hk : k ≤ 32) (hj : j ≤ 32) : rotN (rotN w k) j = rotN w ((k + j) % 32) := by
  refine word_ext (rotN_lt (rotN_lt hw hk) hj) (rotN_lt hw (by omega)) fun i hi => ?_
  rw [rotN_bit' (rotN_lt hw hk) hj hi, rotN_bit' hw hk (by omega), rotN_bit' hw (by omega) hi]
  congr 1; omega

theorem rotN_zero {w : Nat} (hw : w < 4294967296) : rotN w 0 = w := by
  refine word_ext (rotN_lt hw (by omega)) hw fun i hi => ?_
  rw [rotN_bit' hw (by omega) hi]; congr 1; omega

theorem rotN_back {w k : Nat} (hw : w < 4294967296) (hk : k ≤ 31) : rotN (rotN w k) ((32 - k) % 32) = w := by
  rw [rotN_rotN hw (by omega) (by omega), show (k + (32 - k) % 32) % 32 = 0 by omega, rotN_zero hw]

theorem popB_turn (f : Nat → Bool) {n k : Nat} (hk : k ≤ n) (g : Nat → Bool) (h1 : ∀ i, i < k → g i = f (n - k + i)) (h2 : ∀ i, i < n - k → g (k + i) = f i) : popB n g = popB n f := by
  have e1 := popB_add k (n - k) g
  have e2 := popB_add (n - k) k f
  rw [show k + (n - k) = n by omega, popB_congr h1, popB_congr h2] at e1
  rw [show (n - k) + k = n by omega] at e2
  omega

theorem popN_rotN {w k : Nat} (hw : w < 4294967296) (hk : k ≤ 32) : popN (rotN w k) = popN w :=
  popB_turn w.testBit hk _ (fun i hi => by rw [rotN_bit' hw hk (by omega)]; exact congrArg w.testBit (by omega)) (fun i hi => by rw [rotN_bit' hw hk (by omega)]; exact congrArg w.testBit (by omega))

theorem not_bit {w : Nat} (hw : w < 4294967296) (i : Nat) : (4294967295 - w).testBit i = (decide (i < 32) && !w.testBit i) := by
  have e : 4294967295 - w = 2 ^ 32 - (w + 1) := by omega
  rw [e, Nat.testBit_two_pow_sub_succ hw]

theorem popN_not {w : Nat} (hw : w < 4294967296) : popN w + popN (4294967295 - w) = 32 := by
  have e : popN (4294967295 - w) = popB 32 (fun i => !w.testBit i) := popB_congr (fun i hi => by rw [not_bit hw, decide_eq_true hi]; rfl)
  rw [e]
  exact popB_not 32 _

/-! ### Fields of words that were turned; how many bits a field has -/
theorem getN_rotN {w t l m : Nat} (hw : w < 4294967296) (h : l + t + m ≤ 32) : getN (rotN w t) (l + t) m = getN w l m := by
  apply Nat.eq_of_testBit_eq; intro i
  rw [getN_bit, getN_bit]
  by_cases c : i < m
  · rw [rotN_bit' hw (by omega) (by omega), show (l + t + i + 32 - t) % 32 = l + i by omega]
  · simp [c]

theorem popN_getN {w l m : Nat} (h : l + m ≤ 32) : popN (getN w l m) = popB m (fun i => w.testBit (l + i)) := by
  have e := popB_add m (32 - m) (getN w l m).testBit
  rw [show m + (32 - m) = 32 by omega, popB_none (f := fun i => (getN w l m).testBit (m + i)) (fun i hi => by rw [getN_bit, decide_eq_false (by omega)]; rfl), Nat.add_zero] at e
  exact e.trans (popB_congr fun i hi => by rw [getN_bit, decide_eq_true hi]; rfl)

theorem popN_getN_le {w l m : Nat} (h : l + m ≤ 32) : popN (getN w l m) ≤ popN w ∧ popN (getN w l m) ≤ m := by
  rw [popN_getN h]
  refine ⟨?_, popB_le _ _⟩
  have e1 := popB_add (l + m) (32 - (l + m)) w.testBit
  have e2 := popB_add l m w.testBit
  rw [show l + m + (32 - (l + m)) = 32 by omega] at e1
  have e3 : popN w = popB 32 w.testBit := rfl
  omega

theorem popN_parts {w k : Nat} (h : k ≤ 32) : popN (getN w 0 k) + popN (getN w k (32 - k)) = popN w := by
  rw [popN_getN (by omega), popN_getN (by omega)]
  have e1 := popB_add k (32 - k) w.testBit
  rw [show k + (32 - k) = 32 by omega] at e1
  have e3 : popN w = popB 32 w.testBit := rfl
  have e4 : popB k (fun i => w.testBit (0 + i)) = popB k w.testBit := popB_congr fun i _ => congrArg w.testBit (by omega)
  omega

theorem getN_parts {w k : Nat} (hw : w < 4294967296) (h : k ≤ 32) : getN w 0 k + getN w k (32 - k) * 2 ^ k = w := by
  have e : getN w k (32 - k) = w / 2 ^ k := by
    unfold getN
    apply Nat.mod_eq_of_lt
    rw [Nat.div_lt_iff_lt_mul (Nat.two_pow_pos k), ← Nat.pow_add, show 32 - k + k = 32 by omega]
    exact hw
  rw [e]
  unfold getN
  rw [Nat.pow_zero, Nat.div_one, Nat.mul_comm, Nat.add_comm]
  exact Nat.div_add_mod _ _

theorem getN_all {w : Nat} (hw : w < 4294967296) : getN w 0 32 = w := by
  unfold getN
  rw [Nat.pow_zero, Nat.div_one]
  exact Nat.mod_eq_of_lt hw

end Go.Proofs.Ytdjjgloloahlgaa
