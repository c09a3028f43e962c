/- What bits.Signed, Turn and Count compute. For every input. -/
import Derived.Test.YtojfhebejfibkaaBitWalk
namespace Go.Proofs.Ytojfhebejfibkaa
open Go.RowKit
attribute [local go_sem ↓] shl_op shr_op

abbrev pairS (d e : Int) : Ending := .returned (.tuple #[.int .i32 d, .int .i64 e])
theorem pairS_of {a b c : Int} (h : a = b) : Ending.returned (.tuple #[.int .i32 a, .int .i64 c]) = pairS b c := by rw [h]

theorem signed_bad (v low many : Int) (w : World) (h : many < 1 ∨ 32 < many ∨ low < 0 ∨ 32 - many < low) (q : -9223372036854775808 ≤ many) :
    Calls Try.prog 20 #[.int .u32 v, .int .i64 low, .int .i64 many] w fun e w' => e = pairS 0 3 ∧ Mild w w' := by
  have H := Lib.hid h
  have Q := Lib.hid q
  clear h q
  go_enter Try.func20, Try.ntmps20
  go_wp2_with (go_at_call 16; refine (get_bad _ _ _ _ H.out Q.out).mono ?_; rintro e w' ⟨rfl, hm⟩)
  go_ret2
  exact ⟨rfl, hm⟩

theorem top_nat (V M : Nat) (m0 : 1 ≤ M) (m1 : M ≤ 32) (hV : V < 2 ^ M) : bits .and .u32 ((V : Int) / 2 ^ (M - 1)) 1 = if 2 ^ (M - 1) ≤ V then 1 else 0 := by
  have p1 : 2 ^ M ≤ 2 ^ 32 := Nat.pow_le_pow_right (by omega) m1
  have p2 := pow_pred m0
  have this := u32_and_nat (V / 2 ^ (M - 1)) 1 (Nat.lt_of_le_of_lt (Nat.div_le_self _ _) (by omega)) (by omega)
  rw [pow_cast, ← Int.natCast_ediv]
  rw [show ((1 : Nat) : Int) = 1 from rfl] at this
  rw [this, Nat.and_one_is_mod]
  by_cases c : 2 ^ (M - 1) ≤ V
  · have a : V / 2 ^ (M - 1) = 1 := by
      apply Nat.div_eq_of_lt_le <;> omega
    rw [if_pos c, a]; rfl
  · rw [if_neg c, Nat.div_eq_of_lt (by omega)]; rfl

theorem shl1_nat (M : Nat) (h : M ≤ 32) : shlI .i64 1 (M : Int) = (2 ^ M : Nat) := by
  have p1 : 2 ^ M ≤ 2 ^ 32 := Nat.pow_le_pow_right (by omega) h
  unfold shlI
  have e : min (M : Int).toNat IntKind.i64.bits = M := by show min M 64 = M; omega
  rw [e, pow_cast]
  generalize 2 ^ M = P at p1
  rw [IntWalk.i64_in _ (by omega)]; omega

theorem signed_nat (W L M : Nat) (w : World) (hW : W < 4294967296) (m0 : 1 ≤ M) (h : L + M ≤ 32) :
    Calls Try.prog 20 #[.int .u32 (W : Int), .int .i64 (L : Int), .int .i64 (M : Int)] w fun e w' => e = pairS (sgnN (getN W L M) M) 0 ∧ Mild w w' := by
  have T := top_nat (getN W L M) M m0 (by omega) (getN_lt _ _ _)
  have S := shl1_nat M (by omega)
  have p1 : 2 ^ M ≤ 2 ^ 32 := Nat.pow_le_pow_right (by omega) (by omega)
  have p2 := pow_pred m0
  have g := getN_lt W L M
  generalize hP : 2 ^ M = P at S p1 p2 g
  have HW := Lib.hid hW
  have HP := Lib.hid hP
  clear hW hP
  by_cases c : 2 ^ (M - 1) ≤ getN W L M
  · rw [if_pos c] at T
    have e : sgnN (getN W L M) M = (getN W L M : Int) - P := by rw [sgnN, if_pos c, pow_cast, HP.out]
    have T1 : (bits .and .u32 ((getN W L M : Int) / 2 ^ (M - 1)) 1 == 1) = true := by rw [T]; rfl
    generalize hQ : 2 ^ (M - 1) = Q at p2 c
    have HQ := Lib.hid hQ
    have E := Lib.hid e
    have p3 : P ≤ 2 * Q := by omega
    have p4 : 2 * Q ≤ P := by omega
    clear T hQ e p2
    go_enter Try.func20, Try.ntmps20
    go_wp2_with (go_at_call 16; refine (get_nat _ _ _ _ HW.out m0 h).mono ?_; rintro e w' ⟨rfl, hm⟩)
    go_ret2
    exact ⟨pairS_of E.out.symm, hm⟩
  · rw [if_neg c] at T
    have e : sgnN (getN W L M) M = (getN W L M : Int) := by rw [sgnN, if_neg c]
    have T1 : (bits .and .u32 ((getN W L M : Int) / 2 ^ (M - 1)) 1 == 1) = false := by rw [T]; rfl
    generalize hQ : 2 ^ (M - 1) = Q at p2 c
    have HQ := Lib.hid hQ
    have E := Lib.hid e
    have p3 : P ≤ 2 * Q := by omega
    have p4 : 2 * Q ≤ P := by omega
    clear T hQ e p2
    go_enter Try.func20, Try.ntmps20
    go_wp2_with (go_at_call 16; refine (get_nat _ _ _ _ HW.out m0 h).mono ?_; rintro e w' ⟨rfl, hm⟩)
    go_ret2
    exact ⟨pairS_of E.out.symm, hm⟩

def kI (n : Int) : Int := bits .and .u64 (IntKind.u64.wrap n) 31
theorem kI_eq (n : Int) : kI n = n % 32 := by
  unfold kI
  have h0 : 0 ≤ IntKind.u64.wrap n := wrap_u64_nonneg n
  have e : IntKind.u64.wrap n = n % 18446744073709551616 := IntKind.wrap_u64 n
  rw [u64_and _ _ h0 (by omega) (by omega) (by omega)]
  show ((((IntKind.u64.wrap n).toNat &&& 31 : Nat)) : Int) = _
  rw [Nat.and_two_pow_sub_one_eq_mod _ 5]
  omega

theorem retW_of {a b : Int} (h : a = b) : Ending.returned (.int .u32 a) = .returned (.int .u32 b) := by rw [h]

theorem rotI_nat (W K : Nat) (hW : W < 4294967296) (hK : K ≤ 31) : bits .or .u32 (shlI .u32 (W : Int) (K : Int)) ((W : Int) / 2 ^ (32 - K)) = (rotN W K : Int) := by
  have e2 : shlI .u32 (W : Int) (K : Int) = ((W * 2 ^ K % 4294967296 : Nat) : Int) := by
    unfold shlI
    have e : min (K : Int).toNat IntKind.u32.bits = K := by show min K 32 = K; omega
    rw [e, pow_cast, ← Int.natCast_mul, IntKind.wrap_u32']; rfl
  rw [e2, pow_cast, ← Int.natCast_ediv, u32_or_nat _ _ (Nat.mod_lt _ (by omega)) (Nat.lt_of_le_of_lt (Nat.div_le_self _ _) hW)]
  rfl

theorem turn_nat (W K : Nat) (n : Int) (w : World) (hW : W < 4294967296) (hK : K ≤ 31) (hn : n % 32 = K) :
    Calls Try.prog 18 #[.int .u32 (W : Int), .int .i64 n] w fun e w' => e = .returned (.int .u32 (rotN W K)) ∧ w' = w := by
  have hk : bits .and .u64 (IntKind.u64.wrap n) 31 = (K : Int) := (kI_eq n).trans hn
  have HW := Lib.hid hW
  clear hn hW
  go_enter Try.func18, Try.ntmps18
  go_wp2_with fail
  go_ret
  exact ⟨retW_of (rotI_nat W K HW.out hK), rfl⟩

theorem count_any (W : Nat) (w : World) (hW : W < 4294967296) :
    Calls Try.prog 19 #[.int .u32 (W : Int)] w fun e w' => e = .returned (.int .i64 (popN W)) ∧ w' = w := by
  go_enter Try.func19, Try.ntmps19
  go_wp2_with fail
  go_loop [0, 3] (fun u v => ∃ x k : Nat, x < 4294967296 ∧ k ≤ 32 ∧ u = .int .u32 x ∧ v = .int .i64 k ∧ Hid (k + popN x = popN W)) (fun u _ => (intOf u).toNat)
  case atStart => exact ⟨W, 0, hW, by omega, rfl, rfl, Nat.zero_add _⟩
  case round =>
    obtain ⟨x, k, hx, hk, rfl, rfl, hs⟩ := hrel
    by_cases h0 : x = 0
    · subst h0
      go_wp2_with fail
      go_ret
      exact ⟨by have := hs.out; rw [popN_zero] at this; rw [← this]; rfl, rfl⟩
    · have hz : ((x : Int) != 0) = true := by simp; exact h0
      have hp : 1 ≤ x := by omega
      have e1 : bits .and .u32 (x : Int) ((x : Int) - 1) = ((x &&& (x - 1) : Nat) : Int) := by
        rw [show (x : Int) - 1 = ((x - 1 : Nat) : Int) by omega, u32_and_nat _ _ hx (by omega)]
      have hd := popN_dec hx h0
      have hl := popN_le W
      have ho := hs.out
      have hlt : k < 32 := by omega
      have hle : x &&& (x - 1) ≤ x - 1 := Nat.and_le_right
      generalize hy : x &&& (x - 1) = y at e1 hd hle
      have E := Lib.hid e1
      have D := Lib.hid hd
      have HS := Lib.hid ho
      clear e1 hd hs ho hy
      go_wp2_with fail
      go_round
      case rel => exact ⟨y, k + 1, by omega, by omega, by rw [E.out], by go_num, by have := D.out; have := HS.out; show k + 1 + popN y = popN W; omega⟩
      case measure => rw [E.out]; simp [intOf]; omega

theorem signed_is {v low many S : Int} {W L M : Nat} (w : World) (hW : W < 4294967296) (m0 : 1 ≤ M) (h : L + M ≤ 32) (hr : sgnN (getN W L M) M = S) (ev : v = W) (el : low = L) (em : many = M) :
    Calls Try.prog 20 #[.int .u32 v, .int .i64 low, .int .i64 many] w fun e w' => e = pairS S 0 ∧ Mild w w' := by
  subst ev el em hr; exact signed_nat W L M w hW m0 h
theorem turn_is {v n : Int} {W K R : Nat} (w : World) (hW : W < 4294967296) (hK : K ≤ 31) (hr : rotN W K = R) (ev : v = W) (en : n % 32 = K) :
    Calls Try.prog 18 #[.int .u32 v, .int .i64 n] w fun e w' => e = .returned (.int .u32 R) ∧ w' = w := by
  subst ev hr; exact turn_nat W K n w hW hK en
theorem count_is {v : Int} {W R : Nat} (w : World) (hW : W < 4294967296) (hr : popN W = R) (ev : v = W) :
    Calls Try.prog 19 #[.int .u32 v] w fun e w' => e = .returned (.int .i64 R) ∧ w' = w := by
  subst ev hr; exact count_any W w hW

end Go.Proofs.Ytojfhebejfibkaa
