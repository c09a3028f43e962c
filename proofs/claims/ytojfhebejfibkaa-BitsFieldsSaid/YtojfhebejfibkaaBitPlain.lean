/- The plain law of fields of words, no program in sight: what the shifts and the bitwise operators make of a word, bit by bit. No condition. -/
import Derived.Laws.BitsAllLaws
import Derived.Laws.Entries
import Derived.Lib.Hide
namespace Go.Proofs.Ytojfhebejfibkaa

/-- The number in the field of m bits from l on. -/
def getN (w l m : Nat) : Nat := w / 2 ^ l % 2 ^ m
/-- The word with v in that field. -/
def putN (w l m v : Nat) : Nat := (w &&& (4294967295 - (2 ^ m - 1) * 2 ^ l)) ||| (v * 2 ^ l)
/-- The word turned by k to the higher side. -/
def rotN (w k : Nat) : Nat := (w * 2 ^ k % 4294967296) ||| (w / 2 ^ (32 - k))

theorem testBit_mul_pow (v l i : Nat) : (v * 2 ^ l).testBit i = (decide (l ≤ i) && v.testBit (i - l)) := by
  rw [← Nat.shiftLeft_eq, Nat.testBit_shiftLeft]

theorem bit_above {v m i : Nat} (hv : v < 2 ^ m) (h : m ≤ i) : v.testBit i = false :=
  Nat.testBit_lt_two_pow (Nat.lt_of_lt_of_le hv (Nat.pow_le_pow_right (by omega) h))
theorem bit_high {w i : Nat} (hw : w < 4294967296) (h : 32 ≤ i) : w.testBit i = false := bit_above (m := 32) hw h

theorem getN_bit (w l m i : Nat) : (getN w l m).testBit i = (decide (i < m) && w.testBit (l + i)) := by
  unfold getN
  rw [Nat.testBit_mod_two_pow, Nat.testBit_div_two_pow, Nat.add_comm]

theorem getN_lt (w l m : Nat) : getN w l m < 2 ^ m := Nat.mod_lt _ (Nat.two_pow_pos m)

theorem mask_lt {l m : Nat} (h : l + m ≤ 32) : (2 ^ m - 1) * 2 ^ l < 2 ^ 32 := by
  have h1 : (2 ^ m - 1) * 2 ^ l < 2 ^ m * 2 ^ l := Nat.mul_lt_mul_of_pos_right (by have := Nat.two_pow_pos m; omega) (Nat.two_pow_pos l)
  rw [← Nat.pow_add] at h1
  exact Nat.lt_of_lt_of_le h1 (Nat.pow_le_pow_right (by omega) (by omega))

theorem putN_bit {w l m v : Nat} (h : l + m ≤ 32) (hw : w < 4294967296) (hv : v < 2 ^ m) (i : Nat) :
    (putN w l m v).testBit i = if l ≤ i ∧ i < l + m then v.testBit (i - l) else w.testBit i := by
  unfold putN
  rw [Nat.testBit_or, Nat.testBit_and, testBit_mul_pow]
  have e : 4294967295 - (2 ^ m - 1) * 2 ^ l = 2 ^ 32 - ((2 ^ m - 1) * 2 ^ l + 1) := by
    have := mask_lt h; omega
  rw [e, Nat.testBit_two_pow_sub_succ (mask_lt h), testBit_mul_pow, Nat.testBit_two_pow_sub_one]
  by_cases a : l ≤ i
  · by_cases b : i - l < m
    · rw [if_pos (by omega)]; simp [a, b]
    · rw [if_neg (by omega), bit_above hv (by omega)]
      by_cases c : i < 32
      · simp [b, c]
      · rw [bit_high hw (by omega)]; simp
  · rw [if_neg (by omega)]
    by_cases c : i < 32
    · simp [a, c]
    · rw [bit_high hw (by omega)]; simp [a]

theorem putN_lt {w l m v : Nat} (h : l + m ≤ 32) (hw : w < 4294967296) (hv : v < 2 ^ m) : putN w l m v < 4294967296 := by
  have : putN w l m v < 2 ^ 32 := Nat.lt_pow_two_of_testBit _ (fun i hi => by
    rw [putN_bit h hw hv]
    rw [if_neg (by omega)]
    exact bit_high hw hi)
  exact this

theorem rotN_bit {w k : Nat} (hw : w < 4294967296) (hk : k ≤ 32) (i : Nat) :
    (rotN w k).testBit i = if i < k then w.testBit (i + (32 - k)) else decide (i < 32) && w.testBit (i - k) := by
  unfold rotN
  have e : (4294967296 : Nat) = 2 ^ 32 := by decide
  rw [Nat.testBit_or, e, Nat.testBit_mod_two_pow, testBit_mul_pow, Nat.testBit_div_two_pow]
  by_cases a : i < k
  · rw [if_pos a, show decide (k ≤ i) = false from decide_eq_false (by omega)]; simp
  · rw [if_neg a, show decide (k ≤ i) = true from decide_eq_true (by omega), bit_high hw (show 32 ≤ i + (32 - k) by omega)]; simp

theorem rotN_lt {w k : Nat} (hw : w < 4294967296) (hk : k ≤ 32) : rotN w k < 4294967296 := by
  have : rotN w k < 2 ^ 32 := Nat.lt_pow_two_of_testBit _ (fun i hi => by
    rw [rotN_bit hw hk, if_neg (by omega), decide_eq_false (by omega)]; rfl)
  exact this

/-- The mask of m bits from a on. -/
def maskN (m a : Nat) : Nat := (2 ^ m - 1) * 2 ^ a

/-- How many of the first n are true. -/
def popB : Nat → (Nat → Bool) → Nat
  | 0, _ => 0
  | n + 1, f => (f 0).toNat + popB n (fun i => f (i + 1))
def popN (w : Nat) : Nat := popB 32 w.testBit

theorem popB_congr {n : Nat} {f g : Nat → Bool} (h : ∀ i, i < n → f i = g i) : popB n f = popB n g := by
  induction n generalizing f g with
  | zero => rfl
  | succ n ih => rw [popB, popB, h 0 (by omega), ih (fun i hi => h (i + 1) (by omega))]

theorem popB_none {n : Nat} {f : Nat → Bool} (h : ∀ i, i < n → f i = false) : popB n f = 0 := by
  induction n generalizing f with
  | zero => rfl
  | succ n ih => rw [popB, h 0 (by omega), ih (fun i hi => h (i + 1) (by omega))]; rfl

theorem popB_add (a b : Nat) (f : Nat → Bool) : popB (a + b) f = popB a f + popB b (fun i => f (a + i)) := by
  induction a generalizing f with
  | zero => simp [popB]
  | succ a ih =>
    rw [show a + 1 + b = (a + b) + 1 by omega, popB, popB, ih, Nat.add_assoc]
    congr 2
    exact popB_congr fun i _ => congrArg f (by omega)

theorem popB_le (n : Nat) (f : Nat → Bool) : popB n f ≤ n := by
  induction n generalizing f with
  | zero => exact Nat.le_refl _
  | succ n ih =>
    rw [popB]
    have := ih (fun i => f (i + 1))
    have : (f 0).toNat ≤ 1 := Bool.toNat_le _
    omega

theorem popB_not (n : Nat) (f : Nat → Bool) : popB n f + popB n (fun i => !f i) = n := by
  induction n generalizing f with
  | zero => rfl
  | succ n ih =>
    rw [popB, popB]
    have := ih (fun i => f (i + 1))
    cases f 0 <;> simp <;> omega

theorem popB_dec (n w : Nat) (h : w < 2 ^ n) (h0 : w ≠ 0) : popB n (w &&& (w - 1)).testBit + 1 = popB n w.testBit := by
  induction n generalizing w with
  | zero => rw [Nat.pow_zero] at h; omega
  | succ n ih =>
    rw [popB, popB]
    have b0 : (w &&& (w - 1)).testBit 0 = false := by
      rw [Nat.testBit_and, Nat.testBit_zero, Nat.testBit_zero]
      by_cases o : w % 2 = 1
      · have : (w - 1) % 2 = 0 := by omega
        simp [this]
      · simp [o]
    rw [b0]
    have hs : ∀ x : Nat, (fun i => x.testBit (i + 1)) = (x / 2).testBit := fun x => by funext i; exact Nat.testBit_succ x i
    have h2 : (w &&& (w - 1)) / 2 = w / 2 &&& (w - 1) / 2 := by
      apply Nat.eq_of_testBit_eq; intro i
      rw [← Nat.testBit_succ, Nat.testBit_and, Nat.testBit_and, Nat.testBit_succ, Nat.testBit_succ]
    rw [hs, hs, h2, Nat.testBit_zero]
    by_cases o : w % 2 = 1
    · rw [show (w - 1) / 2 = w / 2 by omega, Nat.and_self]; simp [o]; omega
    · have := ih (w / 2) (by rw [Nat.pow_succ] at h; omega) (by omega)
      rw [show (w - 1) / 2 = w / 2 - 1 by omega]; simp [o]; omega

theorem popN_dec {w : Nat} (h : w < 4294967296) (h0 : w ≠ 0) : popN (w &&& (w - 1)) + 1 = popN w := popB_dec 32 w h h0
theorem popN_zero : popN 0 = 0 := by decide
theorem popN_le (w : Nat) : popN w ≤ 32 := popB_le 32 _

theorem pow_pred {m : Nat} (h : 1 ≤ m) : 2 ^ m = 2 * 2 ^ (m - 1) := by
  obtain ⟨k, rfl⟩ : ∃ k, m = k + 1 := ⟨m - 1, by omega⟩
  rw [Nat.pow_succ, Nat.add_sub_cancel, Nat.mul_comm]

/-- The number of a field of m bits whose highest one is its sign. -/
def sgnN (v m : Nat) : Int := if 2 ^ (m - 1) ≤ v then (v : Int) - 2 ^ m else v

end Go.Proofs.Ytojfhebejfibkaa
