/- What bits.Get, Put, Signed, Turn and Count compute. For every input. -/
import Derived.Test.YtojfhebejfibkaaBase
import Derived.Test.YtojfhebejfibkaaBitPlain
import Derived.LoopTactic
import Derived.Outline
import Derived.OpenShut
import Derived.WalkLawsBesides
import Derived.WalkSpells
import Derived.Laws.EntriesVeiled
import Derived.Deep.QuietTactic
import Derived.BigQuiet
import Derived.Deep.RegionWith
namespace Go.Proofs.Ytojfhebejfibkaa
open Go.RowKit

def shlI (k : IntKind) (x y : Int) : Int := k.wrap (x * 2 ^ min y.toNat k.bits)
def shrI (k : IntKind) (x y : Int) : Int := x / 2 ^ min y.toNat k.bits
theorem shl_op (k yk : IntKind) (x y : Int) (h : 0 ≤ y) : Op.shift .shl k x yk y = pure (.int k (shlI k x y)) := shift_shl_any k yk x y h
theorem shr_op (k yk : IntKind) (x y : Int) (h : 0 ≤ y) : Op.shift .shr k x yk y = pure (.int k (shrI k x y)) := shift_shr_any k yk x y h
attribute [local go_sem ↓] shl_op shr_op

theorem mkf (fn : Fn) (first cap : Array Value) (w : World) : (Instr.makeFunc fn first cap).run Try.prog w = .ok (.func fn first cap) w := rfl

def maskI (many at' : Int) : Int := IntKind.u32.wrap (shlI .u64 (IntKind.u64.wrap (shlI .u64 1 many - 1)) at')

theorem mask_any (at' many : Int) (a : Addr) (w : World) (h0 : 0 ≤ at') (m0 : 0 ≤ many) (hc : w.cell? a = some (.int .i64 many)) :
    Calls Try.prog 38 #[.int .i64 at', .pointer (some a)] w fun e w' => e = .returned (.int .u32 (maskI many at')) ∧ w' = w := by
  go_enter Try.func38, Try.ntmps38
  go_wp2_with fail
  go_ret
  exact ⟨rfl, rfl⟩

theorem pow_cast (n : Nat) : (2 : Int) ^ n = ((2 ^ n : Nat) : Int) := by simp
theorem shlI_u64 (x : Int) (n : Nat) (hn : n ≤ 64) (h0 : 0 ≤ x) (h : x * 2 ^ n ≤ 18446744073709551615) : shlI .u64 x n = x * 2 ^ n := by
  unfold shlI
  have e : min (n : Int).toNat IntKind.u64.bits = n := by show min n 64 = n; omega
  rw [e, IntWalk.u64_in]
  refine ⟨?_, h⟩
  rw [pow_cast]
  exact Int.mul_nonneg h0 (Int.natCast_nonneg _)

theorem maskI_nat (M A : Nat) (h : A + M ≤ 32) : maskI M A = (maskN M A : Int) := by
  unfold maskI maskN
  have p0 := Nat.two_pow_pos M
  have p1 : 2 ^ M ≤ 2 ^ 32 := Nat.pow_le_pow_right (by omega) (by omega)
  have m := mask_lt h
  have e1 : shlI .u64 1 M = ((2 ^ M : Nat) : Int) := by
    rw [shlI_u64 1 M (by omega) (by omega) (by rw [pow_cast]; omega), pow_cast]; omega
  have e2 : IntKind.u64.wrap (((2 ^ M : Nat) : Int) - 1) = ((2 ^ M - 1 : Nat) : Int) := by
    rw [IntWalk.u64_in _ (by omega)]; omega
  have e3 : ((2 ^ M - 1 : Nat) : Int) * 2 ^ A = (((2 ^ M - 1) * 2 ^ A : Nat) : Int) := by rw [pow_cast]; exact (Int.natCast_mul _ _).symm
  rw [e1, e2, shlI_u64 _ A (by omega) (by omega) (by rw [e3]; omega), e3, IntWalk.u32_in _ (by omega)]

theorem mask_nat (M A : Nat) (a : Addr) (w : World) (h : A + M ≤ 32) (hc : w.cell? a = some (.int .i64 (M : Int))) :
    Calls Try.prog 38 #[.int .i64 (A : Int), .pointer (some a)] w fun e w' => e = .returned (.int .u32 (maskN M A : Int)) ∧ w' = w := by
  rw [← maskI_nat M A h]
  exact mask_any A M a w (by omega) (by omega) hc

theorem field_ok (low many : Int) (w : World) (m0 : 1 ≤ many) (m1 : many ≤ 32) (l0 : 0 ≤ low) (l1 : low ≤ 32 - many) :
    Calls Try.prog 33 #[.int .i64 low, .int .i64 many] w fun e w' => e = .returned (.tuple #[.func (.func 38) #[] #[.pointer (some ⟨w.heap.size, 0, none⟩)], .bool true]) ∧ w' = w.alloc (.cells #[.int .i64 many] 3) := by
  have hmf := mkf
  go_enter Try.func33, Try.ntmps33
  go_wp2_with fail
  go_ret2
  exact ⟨rfl, rfl⟩

theorem field_bad (low many : Int) (w : World) (h : many < 1 ∨ 32 < many ∨ low < 0 ∨ 32 - many < low) (q : -9223372036854775808 ≤ many) :
    Calls Try.prog 33 #[.int .i64 low, .int .i64 many] w fun e w' => e = .returned (.tuple #[.nilFunc, .bool false]) ∧ Mild w w' := by
  by_cases h1 : many < 1 <;> by_cases h2 : 32 < many <;> by_cases h3 : low < 0 <;> by_cases h4 : 32 - many < low <;> first | (exfalso; omega) | skip
  all_goals
    clear h
    go_enter Try.func33, Try.ntmps33
    go_wp2_with fail
    go_ret2
    exact ⟨rfl, (Mild.refl _).alloc _ _⟩

abbrev pairW (d e : Int) : Ending := .returned (.tuple #[.int .u32 d, .int .i64 e])

theorem get_bad (v low many : Int) (w : World) (h : many < 1 ∨ 32 < many ∨ low < 0 ∨ 32 - many < low) (q : -9223372036854775808 ≤ many) :
    Calls Try.prog 16 #[.int .u32 v, .int .i64 low, .int .i64 many] w fun e w' => e = pairW 0 3 ∧ Mild w w' := by
  have H := Lib.hid h
  have Q := Lib.hid q
  clear h q
  go_enter Try.func16, Try.ntmps16
  go_wp2_with (go_at_call 33; refine (field_bad _ _ _ H.out Q.out).mono ?_; rintro e w' ⟨rfl, hm⟩)
  go_ret2
  exact ⟨rfl, hm⟩

theorem getI_nat (W L M : Nat) (hW : W < 4294967296) (h : L + M ≤ 32) : bits .and .u32 (shrI .u32 W L) (maskN M 0 : Int) = (getN W L M : Int) := by
  unfold shrI getN maskN
  have e : min (L : Int).toNat IntKind.u32.bits = L := by show min L 32 = L; omega
  have p0 := Nat.two_pow_pos M
  have p1 : 2 ^ M ≤ 2 ^ 32 := Nat.pow_le_pow_right (by omega) (by omega)
  rw [e, pow_cast, ← Int.natCast_ediv, Nat.pow_zero, Nat.mul_one, u32_and_nat _ _ (Nat.lt_of_le_of_lt (Nat.div_le_self _ _) hW) (by omega), Nat.and_two_pow_sub_one_eq_mod]

theorem pairW_of {a b c : Int} (h : a = b) : Ending.returned (.tuple #[.int .u32 a, .int .i64 c]) = pairW b c := by rw [h]

theorem get_nat (W L M : Nat) (w : World) (hW : W < 4294967296) (m0 : 1 ≤ M) (h : L + M ≤ 32) :
    Calls Try.prog 16 #[.int .u32 (W : Int), .int .i64 (L : Int), .int .i64 (M : Int)] w fun e w' => e = pairW (getN W L M) 0 ∧ Mild w w' := by
  have E := Lib.hid (getI_nat W L M hW h)
  have Hw := Lib.hid hW
  clear hW
  go_enter Try.func16, Try.ntmps16
  go_wp2_with (go_at_call 33; refine (field_ok _ _ _ (by omega) (by omega) (by omega) (by omega)).mono ?_; rintro e w' ⟨rfl, rfl⟩)
  go_quiet ((go_at_call 38; exact Calls.quiet_of_same (mask_nat M 0 _ _ (by omega) (by simp))))
  go_wp2_with fail
  go_ret2
  exact ⟨pairW_of E.out, ((Mild.refl _).alloc _ _).drewN _⟩

theorem put_bad (v low many x : Int) (w : World) (h : many < 1 ∨ 32 < many ∨ low < 0 ∨ 32 - many < low) (q : -9223372036854775808 ≤ many) :
    Calls Try.prog 17 #[.int .u32 v, .int .i64 low, .int .i64 many, .int .u32 x] w fun e w' => e = pairW 0 3 ∧ Mild w w' := by
  have H := Lib.hid h
  have Q := Lib.hid q
  clear h q
  go_enter Try.func17, Try.ntmps17
  go_wp2_with (go_at_call 33; refine (field_bad _ _ _ H.out Q.out).mono ?_; rintro e w' ⟨rfl, hm⟩)
  go_ret2
  exact ⟨rfl, hm⟩

theorem over_nat (V M : Nat) (hV : V < 4294967296) (h : M ≤ 32) : bits .andNot .u32 (V : Int) (maskN M 0 : Int) = ((V / 2 ^ M * 2 ^ M : Nat) : Int) := by
  have p0 := Nat.two_pow_pos M
  have p1 : 2 ^ M ≤ 2 ^ 32 := Nat.pow_le_pow_right (by omega) h
  have e0 : maskN M 0 = 2 ^ M - 1 := by unfold maskN; rw [Nat.pow_zero, Nat.mul_one]
  rw [e0, u32_andNot_nat _ _ hV (by omega)]
  congr 1
  apply Nat.eq_of_testBit_eq; intro i
  have e : 4294967295 - (2 ^ M - 1) = 2 ^ 32 - ((2 ^ M - 1) + 1) := by omega
  rw [Nat.testBit_and, e, Nat.testBit_two_pow_sub_succ (by omega), Nat.testBit_two_pow_sub_one, testBit_mul_pow, Nat.testBit_div_two_pow]
  by_cases c : i < 32
  · by_cases a : i < M
    · simp [a, show ¬ M ≤ i by omega]
    · simp [a, c, show M ≤ i by omega]
  · rw [bit_high hV (by omega)]
    by_cases a : M ≤ i
    · rw [show i - M + M = i by omega, bit_high hV (by omega)]; simp
    · simp [a]

theorem over_no (V M : Nat) (h : M ≤ 32) (hV : V < 2 ^ M) : (bits .andNot .u32 (V : Int) (maskN M 0 : Int) != 0) = false := by
  have p1 : 2 ^ M ≤ 2 ^ 32 := Nat.pow_le_pow_right (by omega) h
  rw [over_nat V M (by omega) h, Nat.div_eq_of_lt hV]; simp

theorem over_yes (V M : Nat) (h : M ≤ 32) (hV : V < 4294967296) (hv : 2 ^ M ≤ V) : (bits .andNot .u32 (V : Int) (maskN M 0 : Int) != 0) = true := by
  rw [over_nat V M hV h]
  have a : 0 < V / 2 ^ M := Nat.div_pos hv (Nat.two_pow_pos M)
  have b : 0 < V / 2 ^ M * 2 ^ M := Nat.mul_pos a (Nat.two_pow_pos M)
  generalize V / 2 ^ M * 2 ^ M = X at b
  simp; omega

theorem put_over (W L M V : Nat) (w : World) (m0 : 1 ≤ M) (h : L + M ≤ 32) (hV : V < 4294967296) (hv : 2 ^ M ≤ V) :
    Calls Try.prog 17 #[.int .u32 (W : Int), .int .i64 (L : Int), .int .i64 (M : Int), .int .u32 (V : Int)] w fun e w' => e = pairW 0 1 ∧ Mild w w' := by
  have E := over_yes V M (by omega) hV hv
  clear hV hv
  go_enter Try.func17, Try.ntmps17
  go_wp2_with (first | (go_at_call 33; refine (field_ok _ _ _ (by omega) (by omega) (by omega) (by omega)).mono ?_; rintro e w' ⟨rfl, rfl⟩) | (go_at_call 38; refine (mask_nat M 0 _ _ (by omega) (by simp)).mono ?_; rintro e w' ⟨rfl, rfl⟩))
  go_ret2
  exact ⟨rfl, (Mild.refl _).alloc _ _⟩

theorem putI_nat (W L M V : Nat) (hW : W < 4294967296) (h : L + M ≤ 32) (hV : V < 2 ^ M) :
    bits .or .u32 (bits .andNot .u32 (W : Int) (maskN M L : Int)) (shlI .u32 (V : Int) (L : Int)) = (putN W L M V : Int) := by
  have hm := mask_lt h
  have e1 : V * 2 ^ L < 2 ^ 32 := by
    have h1 : V * 2 ^ L < 2 ^ M * 2 ^ L := Nat.mul_lt_mul_of_pos_right hV (Nat.two_pow_pos L)
    rw [← Nat.pow_add] at h1
    exact Nat.lt_of_lt_of_le h1 (Nat.pow_le_pow_right (by omega) (by omega))
  have e2 : shlI .u32 (V : Int) (L : Int) = ((V * 2 ^ L : Nat) : Int) := by
    unfold shlI
    have e : min (L : Int).toNat IntKind.u32.bits = L := by show min L 32 = L; omega
    rw [e, pow_cast, ← Int.natCast_mul, IntWalk.u32_in _ (by omega)]
  rw [e2, u32_andNot_nat _ _ hW (by unfold maskN; omega), u32_or_nat _ _ (Nat.lt_of_le_of_lt Nat.and_le_left hW) (by omega)]
  rfl

theorem put_nat (W L M V : Nat) (w : World) (hW : W < 4294967296) (m0 : 1 ≤ M) (h : L + M ≤ 32) (hV : V < 2 ^ M) :
    Calls Try.prog 17 #[.int .u32 (W : Int), .int .i64 (L : Int), .int .i64 (M : Int), .int .u32 (V : Int)] w fun e w' => e = pairW (putN W L M V) 0 ∧ Mild w w' := by
  have E := over_no V M (by omega) hV
  have P := Lib.hid (putI_nat W L M V hW h hV)
  clear hV hW
  go_enter Try.func17, Try.ntmps17
  go_wp2_with (first | (go_at_call 33; refine (field_ok _ _ _ (by omega) (by omega) (by omega) (by omega)).mono ?_; rintro e w' ⟨rfl, rfl⟩) | (go_at_call 38; refine (mask_nat M 0 _ _ (by omega) (by simp)).mono ?_; rintro e w' ⟨rfl, rfl⟩))
  go_quiet ((go_at_call 38; exact Calls.quiet_of_same (mask_nat M L _ _ (by omega) (by simp))))
  go_wp2_with fail
  go_ret2
  exact ⟨pairW_of P.out, ((Mild.refl _).alloc _ _).drewN _⟩

abbrev pairS (d e : Int) : Ending := .returned (.tuple #[.int .i32 d, .int .i64 e])
theorem pairS_of {a b c : Int} (h : a = b) : Ending.returned (.tuple #[.int .i32 a, .int .i64 c]) = pairS b c := by rw [h]

theorem signed_bad (v low many : Int) (w : World) (h : many < 1 ∨ 32 < many ∨ low < 0 ∨ 32 - many < low) (q : -9223372036854775808 ≤ many) :
    Calls Try.prog 20 #[.int .u32 v, .int .i64 low, .int .i64 many] w fun e w' => e = pairS 0 3 ∧ Mild w w' := by
  have H := Lib.hid h
  have Q := Lib.hid q
  clear h q
  go_enter Try.func20, Try.ntmps20
  go_wp2_with (go_at_call 16; refine (get_bad _ _ _ _ H.out Q.out).mono ?_; rintro e w' ⟨rfl, hm⟩)
  go_ret2
  exact ⟨rfl, hm⟩

theorem top_nat (V M : Nat) (m0 : 1 ≤ M) (m1 : M ≤ 32) (hV : V < 2 ^ M) : bits .and .u32 ((V : Int) / 2 ^ (M - 1)) 1 = if 2 ^ (M - 1) ≤ V then 1 else 0 := by
  have p1 : 2 ^ M ≤ 2 ^ 32 := Nat.pow_le_pow_right (by omega) m1
  have p2 := pow_pred m0
  have this := u32_and_nat (V / 2 ^ (M - 1)) 1 (Nat.lt_of_le_of_lt (Nat.div_le_self _ _) (by omega)) (by omega)
  rw [pow_cast, ← Int.natCast_ediv]
  rw [show ((1 : Nat) : Int) = 1 from rfl] at this
  rw [this, Nat.and_one_is_mod]
  by_cases c : 2 ^ (M - 1) ≤ V
  · have a : V / 2 ^ (M - 1) = 1 := by
      apply Nat.div_eq_of_lt_le <;> omega
    rw [if_pos c, a]; rfl
  · rw [if_neg c, Nat.div_eq_of_lt (by omega)]; rfl

theorem shl1_nat (M : Nat) (h : M ≤ 32) : shlI .i64 1 (M : Int) = (2 ^ M : Nat) := by
  have p1 : 2 ^ M ≤ 2 ^ 32 := Nat.pow_le_pow_right (by omega) h
  unfold shlI
  have e : min (M : Int).toNat IntKind.i64.bits = M := by show min M 64 = M; omega
  rw [e, pow_cast]
  generalize 2 ^ M = P at p1
  rw [IntWalk.i64_in _ (by omega)]; omega

theorem signed_nat (W L M : Nat) (w : World) (hW : W < 4294967296) (m0 : 1 ≤ M) (h : L + M ≤ 32) :
    Calls Try.prog 20 #[.int .u32 (W : Int), .int .i64 (L : Int), .int .i64 (M : Int)] w fun e w' => e = pairS (sgnN (getN W L M) M) 0 ∧ Mild w w' := by
  have T := top_nat (getN W L M) M m0 (by omega) (getN_lt _ _ _)
  have S := shl1_nat M (by omega)
  have p1 : 2 ^ M ≤ 2 ^ 32 := Nat.pow_le_pow_right (by omega) (by omega)
  have p2 := pow_pred m0
  have g := getN_lt W L M
  generalize hP : 2 ^ M = P at S p1 p2 g
  have HW := Lib.hid hW
  have HP := Lib.hid hP
  clear hW hP
  by_cases c : 2 ^ (M - 1) ≤ getN W L M
  · rw [if_pos c] at T
    have e : sgnN (getN W L M) M = (getN W L M : Int) - P := by rw [sgnN, if_pos c, pow_cast, HP.out]
    have T1 : (bits .and .u32 ((getN W L M : Int) / 2 ^ (M - 1)) 1 == 1) = true := by rw [T]; rfl
    generalize hQ : 2 ^ (M - 1) = Q at p2 c
    have HQ := Lib.hid hQ
    have E := Lib.hid e
    have p3 : P ≤ 2 * Q := by omega
    have p4 : 2 * Q ≤ P := by omega
    clear T hQ e p2
    go_enter Try.func20, Try.ntmps20
    go_wp2_with (go_at_call 16; refine (get_nat _ _ _ _ HW.out m0 h).mono ?_; rintro e w' ⟨rfl, hm⟩)
    go_ret2
    exact ⟨pairS_of E.out.symm, hm⟩
  · rw [if_neg c] at T
    have e : sgnN (getN W L M) M = (getN W L M : Int) := by rw [sgnN, if_neg c]
    have T1 : (bits .and .u32 ((getN W L M : Int) / 2 ^ (M - 1)) 1 == 1) = false := by rw [T]; rfl
    generalize hQ : 2 ^ (M - 1) = Q at p2 c
    have HQ := Lib.hid hQ
    have E := Lib.hid e
    have p3 : P ≤ 2 * Q := by omega
    have p4 : 2 * Q ≤ P := by omega
    clear T hQ e p2
    go_enter Try.func20, Try.ntmps20
    go_wp2_with (go_at_call 16; refine (get_nat _ _ _ _ HW.out m0 h).mono ?_; rintro e w' ⟨rfl, hm⟩)
    go_ret2
    exact ⟨pairS_of E.out.symm, hm⟩

def kI (n : Int) : Int := bits .and .u64 (IntKind.u64.wrap n) 31
theorem kI_eq (n : Int) : kI n = n % 32 := by
  unfold kI
  have h0 : 0 ≤ IntKind.u64.wrap n := wrap_u64_nonneg n
  have e : IntKind.u64.wrap n = n % 18446744073709551616 := IntKind.wrap_u64 n
  rw [u64_and _ _ h0 (by omega) (by omega) (by omega)]
  show ((((IntKind.u64.wrap n).toNat &&& 31 : Nat)) : Int) = _
  rw [Nat.and_two_pow_sub_one_eq_mod _ 5]
  omega

theorem retW_of {a b : Int} (h : a = b) : Ending.returned (.int .u32 a) = .returned (.int .u32 b) := by rw [h]

theorem rotI_nat (W K : Nat) (hW : W < 4294967296) (hK : K ≤ 31) : bits .or .u32 (shlI .u32 (W : Int) (K : Int)) ((W : Int) / 2 ^ (32 - K)) = (rotN W K : Int) := by
  have e2 : shlI .u32 (W : Int) (K : Int) = ((W * 2 ^ K % 4294967296 : Nat) : Int) := by
    unfold shlI
    have e : min (K : Int).toNat IntKind.u32.bits = K := by show min K 32 = K; omega
    rw [e, pow_cast, ← Int.natCast_mul, IntKind.wrap_u32']; rfl
  rw [e2, pow_cast, ← Int.natCast_ediv, u32_or_nat _ _ (Nat.mod_lt _ (by omega)) (Nat.lt_of_le_of_lt (Nat.div_le_self _ _) hW)]
  rfl

theorem turn_nat (W K : Nat) (n : Int) (w : World) (hW : W < 4294967296) (hK : K ≤ 31) (hn : n % 32 = K) :
    Calls Try.prog 18 #[.int .u32 (W : Int), .int .i64 n] w fun e w' => e = .returned (.int .u32 (rotN W K)) ∧ w' = w := by
  have hk : bits .and .u64 (IntKind.u64.wrap n) 31 = (K : Int) := (kI_eq n).trans hn
  have HW := Lib.hid hW
  clear hn hW
  go_enter Try.func18, Try.ntmps18
  go_wp2_with fail
  go_ret
  exact ⟨retW_of (rotI_nat W K HW.out hK), rfl⟩

theorem count_any (W : Nat) (w : World) (hW : W < 4294967296) :
    Calls Try.prog 19 #[.int .u32 (W : Int)] w fun e w' => e = .returned (.int .i64 (popN W)) ∧ w' = w := by
  go_enter Try.func19, Try.ntmps19
  go_wp2_with fail
  go_loop [0, 3] (fun u v => ∃ x k : Nat, x < 4294967296 ∧ k ≤ 32 ∧ u = .int .u32 x ∧ v = .int .i64 k ∧ Hid (k + popN x = popN W)) (fun u _ => (intOf u).toNat)
  case atStart => exact ⟨W, 0, hW, by omega, rfl, rfl, Nat.zero_add _⟩
  case round =>
    obtain ⟨x, k, hx, hk, rfl, rfl, hs⟩ := hrel
    by_cases h0 : x = 0
    · subst h0
      go_wp2_with fail
      go_ret
      exact ⟨by have := hs.out; rw [popN_zero] at this; rw [← this]; rfl, rfl⟩
    · have hz : ((x : Int) != 0) = true := by simp; exact h0
      have hp : 1 ≤ x := by omega
      have e1 : bits .and .u32 (x : Int) ((x : Int) - 1) = ((x &&& (x - 1) : Nat) : Int) := by
        rw [show (x : Int) - 1 = ((x - 1 : Nat) : Int) by omega, u32_and_nat _ _ hx (by omega)]
      have hd := popN_dec hx h0
      have hl := popN_le W
      have ho := hs.out
      have hlt : k < 32 := by omega
      have hle : x &&& (x - 1) ≤ x - 1 := Nat.and_le_right
      generalize hy : x &&& (x - 1) = y at e1 hd hle
      have E := Lib.hid e1
      have D := Lib.hid hd
      have HS := Lib.hid ho
      clear e1 hd hs ho hy
      go_wp2_with fail
      go_round
      case rel => exact ⟨y, k + 1, by omega, by omega, by rw [E.out], by go_num, by have := D.out; have := HS.out; show k + 1 + popN y = popN W; omega⟩
      case measure => rw [E.out]; simp [intOf]; omega

/-! The same, of whatever arguments are such numbers, with whatever names the results have. -/
theorem get_is {v low many : Int} {W L M R : Nat} (w : World) (hW : W < 4294967296) (m0 : 1 ≤ M) (h : L + M ≤ 32) (hr : getN W L M = R) (ev : v = W) (el : low = L) (em : many = M) :
    Calls Try.prog 16 #[.int .u32 v, .int .i64 low, .int .i64 many] w fun e w' => e = pairW R 0 ∧ Mild w w' := by
  subst ev el em hr; exact get_nat W L M w hW m0 h
theorem put_is {v low many x : Int} {W L M V R : Nat} (w : World) (hW : W < 4294967296) (m0 : 1 ≤ M) (h : L + M ≤ 32) (hV : V < 2 ^ M) (hr : putN W L M V = R) (ev : v = W) (el : low = L) (em : many = M) (ex : x = V) :
    Calls Try.prog 17 #[.int .u32 v, .int .i64 low, .int .i64 many, .int .u32 x] w fun e w' => e = pairW R 0 ∧ Mild w w' := by
  subst ev el em ex hr; exact put_nat W L M V w hW m0 h hV
theorem put_over_is {v low many x : Int} {W L M V : Nat} (w : World) (m0 : 1 ≤ M) (h : L + M ≤ 32) (hV : V < 4294967296) (hv : 2 ^ M ≤ V) (ev : v = W) (el : low = L) (em : many = M) (ex : x = V) :
    Calls Try.prog 17 #[.int .u32 v, .int .i64 low, .int .i64 many, .int .u32 x] w fun e w' => e = pairW 0 1 ∧ Mild w w' := by
  subst ev el em ex; exact put_over W L M V w m0 h hV hv
theorem signed_is {v low many S : Int} {W L M : Nat} (w : World) (hW : W < 4294967296) (m0 : 1 ≤ M) (h : L + M ≤ 32) (hr : sgnN (getN W L M) M = S) (ev : v = W) (el : low = L) (em : many = M) :
    Calls Try.prog 20 #[.int .u32 v, .int .i64 low, .int .i64 many] w fun e w' => e = pairS S 0 ∧ Mild w w' := by
  subst ev el em hr; exact signed_nat W L M w hW m0 h
theorem turn_is {v n : Int} {W K R : Nat} (w : World) (hW : W < 4294967296) (hK : K ≤ 31) (hr : rotN W K = R) (ev : v = W) (en : n % 32 = K) :
    Calls Try.prog 18 #[.int .u32 v, .int .i64 n] w fun e w' => e = .returned (.int .u32 R) ∧ w' = w := by
  subst ev hr; exact turn_nat W K n w hW hK en
theorem count_is {v : Int} {W R : Nat} (w : World) (hW : W < 4294967296) (hr : popN W = R) (ev : v = W) :
    Calls Try.prog 19 #[.int .u32 v] w fun e w' => e = .returned (.int .i64 R) ∧ w' = w := by
  subst ev hr; exact count_any W w hW

end Go.Proofs.Ytojfhebejfibkaa
