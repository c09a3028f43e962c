/- The plain law of rates, no program in sight: the least divisor that will do, and what it is. No condition. -/
import Derived.Lib.Hide
namespace Go.Proofs.Ytmgpfahafadldaa

/-- The least divisor from i + 1 to i + n whose quotient will do; 0, if there is none. -/
def scan (p : Int → Bool) (r : Int) : Nat → Nat → Int
  | 0, _ => 0
  | n + 1, i => if p (r / ((i : Int) + 1)) then (i : Int) + 1 else scan p r n (i + 1)

def found (p : Int → Bool) (r : Int) : Int := scan p r 1000 0

theorem scan_zero (p : Int → Bool) (r : Int) (i : Nat) : scan p r 0 i = 0 := rfl
theorem scan_yes {p : Int → Bool} {r : Int} {n i : Nat} (h : p (r / ((i : Int) + 1)) = true) : scan p r (n + 1) i = (i : Int) + 1 := by
  rw [scan, if_pos h]
theorem scan_no {p : Int → Bool} {r : Int} {n i : Nat} (h : p (r / ((i : Int) + 1)) = false) : scan p r (n + 1) i = scan p r n (i + 1) := by
  rw [scan, h]; rfl

theorem scan_spec (p : Int → Bool) (r : Int) (n i : Nat) :
    (scan p r n i = 0 ∧ ∀ j : Int, i < j → j ≤ i + n → p (r / j) = false) ∨
    (i < scan p r n i ∧ scan p r n i ≤ i + n ∧ p (r / scan p r n i) = true ∧ ∀ j : Int, i < j → j < scan p r n i → p (r / j) = false) := by
  induction n generalizing i with
  | zero => left; exact ⟨rfl, fun j h1 h2 => by omega⟩
  | succ n ih =>
    by_cases h : p (r / ((i : Int) + 1)) = true
    · rw [scan_yes h]; right
      exact ⟨by omega, by omega, h, fun j h1 h2 => by omega⟩
    · have h : p (r / ((i : Int) + 1)) = false := by simpa using h
      rw [scan_no h]
      rcases ih (i + 1) with ⟨h1, h2⟩ | ⟨h1, h2, h3, h4⟩
      · left; refine ⟨h1, fun j a b => ?_⟩
        by_cases e : j = i + 1
        · rw [e]; exact h
        · exact h2 j (by omega) (by omega)
      · right; refine ⟨by omega, by omega, h3, fun j a b => ?_⟩
        by_cases e : j = i + 1
        · rw [e]; exact h
        · exact h4 j (by omega) (by omega)


def errOf (d : Int) : Int := if d = 0 then 9 else 0

theorem found_start (p : Int → Bool) (r : Int) : found p r = scan p r 1000 0 := rfl

theorem scan_now {p : Int → Bool} {r : Int} {n k : Nat} (h : found p r = scan p r n k) (hn : n + k = 1000) (hk : k < 1000) (hp : p (r / ((k : Int) + 1)) = true) :
    (k : Int) + 1 = found p r ∧ (0 : Int) = errOf (found p r) := by
  obtain ⟨m, rfl⟩ : ∃ m, n = m + 1 := ⟨n - 1, by omega⟩
  rw [scan_yes hp] at h
  exact ⟨h.symm, by rw [h, errOf, if_neg (by omega)]⟩

theorem scan_next {p : Int → Bool} {r : Int} {n k : Nat} (h : found p r = scan p r n k) (hn : n + k = 1000) (hk : k < 1000) (hp : ¬ p (r / ((k : Int) + 1)) = true) :
    ∃ m, m + (k + 1) = 1000 ∧ found p r = scan p r m (k + 1) := by
  obtain ⟨m, rfl⟩ : ∃ m, n = m + 1 := ⟨n - 1, by omega⟩
  rw [scan_no (by simpa using hp)] at h
  exact ⟨m, by omega, h⟩

theorem scan_none {p : Int → Bool} {r : Int} {n k : Nat} (h : found p r = scan p r n k) (hn : n + k = 1000) (hk : ¬ k < 1000) :
    (0 : Int) = found p r ∧ (9 : Int) = errOf (found p r) := by
  obtain rfl : n = 0 := by omega
  rw [scan_zero] at h
  exact ⟨h.symm, by rw [h, errOf, if_pos rfl]⟩


def eqP (want q : Int) : Bool := decide (q = want)
def leP (want q : Int) : Bool := decide (q ≤ want)

theorem div_anti (r : Int) {a b : Int} (hr : 0 ≤ r) (ha : 0 < a) (hab : a ≤ b) : r / b ≤ r / a := by
  refine Int.le_ediv_of_mul_le ha ?_
  have h := Int.ediv_mul_le r (b := b) (by omega)
  have n := Int.ediv_nonneg hr (show 0 ≤ b by omega)
  have := Int.mul_le_mul_of_nonneg_left hab n
  omega

/-- What leads below: the least such divisor, or none. -/
theorem below_facts (r want : Int) (hr : 0 ≤ r) :
    (found (leP want) r = 0 ∧ ∀ j, 1 ≤ j → j ≤ 1000 → want < r / j) ∨
    (1 ≤ found (leP want) r ∧ found (leP want) r ≤ 1000 ∧ r / found (leP want) r ≤ want ∧ (∀ j, 1 ≤ j → j < found (leP want) r → want < r / j) ∧ ∀ j, found (leP want) r ≤ j → r / j ≤ want) := by
  rcases scan_spec (leP want) r 1000 0 with ⟨h1, h2⟩ | ⟨h1, h2, h3, h4⟩
  · left; refine ⟨h1, fun j a b => ?_⟩
    have := h2 j (by omega) (by omega)
    simp [leP] at this; exact this
  · right
    rw [← found_start] at h1 h2 h3 h4
    have h3' : r / found (leP want) r ≤ want := by simpa [leP] using h3
    refine ⟨by omega, by omega, h3', fun j a b => ?_, fun j a => ?_⟩
    · have := h4 j (by omega) b
      simp [leP] at this; exact this
    · have := div_anti r hr (show 0 < found (leP want) r by omega) a
      omega

theorem fit_facts (r want : Int) :
    (found (eqP want) r = 0 ∧ ∀ j, 1 ≤ j → j ≤ 1000 → r / j ≠ want) ∨
    (1 ≤ found (eqP want) r ∧ found (eqP want) r ≤ 1000 ∧ r / found (eqP want) r = want ∧ ∀ j, 1 ≤ j → j < found (eqP want) r → r / j ≠ want) := by
  rcases scan_spec (eqP want) r 1000 0 with ⟨h1, h2⟩ | ⟨h1, h2, h3, h4⟩
  · left; refine ⟨h1, fun j a b => ?_⟩
    have := h2 j (by omega) (by omega)
    simpa [eqP] using this
  · right
    rw [← found_start] at h1 h2 h3 h4
    refine ⟨by omega, by omega, by simpa [eqP] using h3, fun j a b => ?_⟩
    have := h4 j (by omega) b
    simpa [eqP] using this

/-- Both at once: what fits is the least that leads below, where anything fits. -/
theorem both_facts (r want : Int) (hr : 0 ≤ r) (h : 1 ≤ found (eqP want) r) : found (eqP want) r = found (leP want) r := by
  rcases fit_facts r want with ⟨a, _⟩ | ⟨a1, a2, a3, a4⟩
  · omega
  · rcases below_facts r want hr with ⟨b1, b2⟩ | ⟨b1, b2, b3, b4, b5⟩
    · have := b2 _ a1 a2; omega
    · rcases Int.lt_trichotomy (found (eqP want) r) (found (leP want) r) with c | c | c
      · have := b4 _ a1 c; omega
      · exact c
      · have k := div_anti r hr (show 0 < found (leP want) r by omega) (show found (leP want) r ≤ found (eqP want) r by omega)
        have := a4 _ b1 c
        omega

theorem errOf_pos {d : Int} (h : 1 ≤ d) : errOf d = 0 := by rw [errOf, if_neg (by omega)]
theorem errOf_zero {d : Int} (h : d = 0) : errOf d = 9 := by rw [errOf, if_pos h]

end Go.Proofs.Ytmgpfahafadldaa
