/- What bits.Get and Put compute. For every input. -/
import Derived.Test.YtdjjgloloahlgaaBase
import Derived.Test.YtdjjgloloahlgaaBitPlain
import Derived.LoopTactic
import Derived.Outline
import Derived.OpenShut
import Derived.WalkLawsBesides
import Derived.WalkSpells
import Derived.Laws.EntriesVeiled
import Derived.Deep.QuietTactic
import Derived.BigQuiet
import Derived.Deep.RegionWith
namespace Go.Proofs.Ytdjjgloloahlgaa
open Go.RowKit

def shlI (k : IntKind) (x y : Int) : Int := k.wrap (x * 2 ^ min y.toNat k.bits)
def shrI (k : IntKind) (x y : Int) : Int := x / 2 ^ min y.toNat k.bits
theorem shl_op (k yk : IntKind) (x y : Int) (h : 0 ≤ y) : Op.shift .shl k x yk y = pure (.int k (shlI k x y)) := shift_shl_any k yk x y h
theorem shr_op (k yk : IntKind) (x y : Int) (h : 0 ≤ y) : Op.shift .shr k x yk y = pure (.int k (shrI k x y)) := shift_shr_any k yk x y h
attribute [local go_sem ↓] shl_op shr_op

theorem mkf (fn : Fn) (first cap : Array Value) (w : World) : (Instr.makeFunc fn first cap).run Try.prog w = .ok (.func fn first cap) w := rfl

def maskI (many at' : Int) : Int := IntKind.u32.wrap (shlI .u64 (IntKind.u64.wrap (shlI .u64 1 many - 1)) at')

theorem mask_any (at' many : Int) (a : Addr) (w : World) (h0 : 0 ≤ at') (m0 : 0 ≤ many) (hc : w.cell? a = some (.int .i64 many)) :
    Calls Try.prog 19 #[.int .i64 at', .pointer (some a)] w fun e w' => e = .returned (.int .u32 (maskI many at')) ∧ w' = w := by
  go_enter Try.func19, Try.ntmps19
  go_wp2_with fail
  go_ret
  exact ⟨rfl, rfl⟩

theorem pow_cast (n : Nat) : (2 : Int) ^ n = ((2 ^ n : Nat) : Int) := by simp
theorem shlI_u64 (x : Int) (n : Nat) (hn : n ≤ 64) (h0 : 0 ≤ x) (h : x * 2 ^ n ≤ 18446744073709551615) : shlI .u64 x n = x * 2 ^ n := by
  unfold shlI
  have e : min (n : Int).toNat IntKind.u64.bits = n := by show min n 64 = n; omega
  rw [e, IntWalk.u64_in]
  refine ⟨?_, h⟩
  rw [pow_cast]
  exact Int.mul_nonneg h0 (Int.natCast_nonneg _)

theorem maskI_nat (M A : Nat) (h : A + M ≤ 32) : maskI M A = (maskN M A : Int) := by
  unfold maskI maskN
  have p0 := Nat.two_pow_pos M
  have p1 : 2 ^ M ≤ 2 ^ 32 := Nat.pow_le_pow_right (by omega) (by omega)
  have m := mask_lt h
  have e1 : shlI .u64 1 M = ((2 ^ M : Nat) : Int) := by
    rw [shlI_u64 1 M (by omega) (by omega) (by rw [pow_cast]; omega), pow_cast]; omega
  have e2 : IntKind.u64.wrap (((2 ^ M : Nat) : Int) - 1) = ((2 ^ M - 1 : Nat) : Int) := by
    rw [IntWalk.u64_in _ (by omega)]; omega
  have e3 : ((2 ^ M - 1 : Nat) : Int) * 2 ^ A = (((2 ^ M - 1) * 2 ^ A : Nat) : Int) := by rw [pow_cast]; exact (Int.natCast_mul _ _).symm
  rw [e1, e2, shlI_u64 _ A (by omega) (by omega) (by rw [e3]; omega), e3, IntWalk.u32_in _ (by omega)]

theorem mask_nat (M A : Nat) (a : Addr) (w : World) (h : A + M ≤ 32) (hc : w.cell? a = some (.int .i64 (M : Int))) :
    Calls Try.prog 19 #[.int .i64 (A : Int), .pointer (some a)] w fun e w' => e = .returned (.int .u32 (maskN M A : Int)) ∧ w' = w := by
  rw [← maskI_nat M A h]
  exact mask_any A M a w (by omega) (by omega) hc

theorem field_ok (low many : Int) (w : World) (m0 : 1 ≤ many) (m1 : many ≤ 32) (l0 : 0 ≤ low) (l1 : low ≤ 32 - many) :
    Calls Try.prog 17 #[.int .i64 low, .int .i64 many] w fun e w' => e = .returned (.tuple #[.func (.func 19) #[] #[.pointer (some ⟨w.heap.size, 0, none⟩)], .bool true]) ∧ w' = w.alloc (.cells #[.int .i64 many] 3) := by
  have hmf := mkf
  go_enter Try.func17, Try.ntmps17
  go_wp2_with fail
  go_ret2
  exact ⟨rfl, rfl⟩

theorem field_bad (low many : Int) (w : World) (h : many < 1 ∨ 32 < many ∨ low < 0 ∨ 32 - many < low) (q : -9223372036854775808 ≤ many) :
    Calls Try.prog 17 #[.int .i64 low, .int .i64 many] w fun e w' => e = .returned (.tuple #[.nilFunc, .bool false]) ∧ Mild w w' := by
  by_cases h1 : many < 1 <;> by_cases h2 : 32 < many <;> by_cases h3 : low < 0 <;> by_cases h4 : 32 - many < low <;> first | (exfalso; omega) | skip
  all_goals
    clear h
    go_enter Try.func17, Try.ntmps17
    go_wp2_with fail
    go_ret2
    exact ⟨rfl, (Mild.refl _).alloc _ _⟩

abbrev pairW (d e : Int) : Ending := .returned (.tuple #[.int .u32 d, .int .i64 e])

theorem get_bad (v low many : Int) (w : World) (h : many < 1 ∨ 32 < many ∨ low < 0 ∨ 32 - many < low) (q : -9223372036854775808 ≤ many) :
    Calls Try.prog 11 #[.int .u32 v, .int .i64 low, .int .i64 many] w fun e w' => e = pairW 0 3 ∧ Mild w w' := by
  have H := Lib.hid h
  have Q := Lib.hid q
  clear h q
  go_enter Try.func11, Try.ntmps11
  go_wp2_with (go_at_call 17; refine (field_bad _ _ _ H.out Q.out).mono ?_; rintro e w' ⟨rfl, hm⟩)
  go_ret2
  exact ⟨rfl, hm⟩

theorem getI_nat (W L M : Nat) (hW : W < 4294967296) (h : L + M ≤ 32) : bits .and .u32 (shrI .u32 W L) (maskN M 0 : Int) = (getN W L M : Int) := by
  unfold shrI getN maskN
  have e : min (L : Int).toNat IntKind.u32.bits = L := by show min L 32 = L; omega
  have p0 := Nat.two_pow_pos M
  have p1 : 2 ^ M ≤ 2 ^ 32 := Nat.pow_le_pow_right (by omega) (by omega)
  rw [e, pow_cast, ← Int.natCast_ediv, Nat.pow_zero, Nat.mul_one, u32_and_nat _ _ (Nat.lt_of_le_of_lt (Nat.div_le_self _ _) hW) (by omega), Nat.and_two_pow_sub_one_eq_mod]

theorem pairW_of {a b c : Int} (h : a = b) : Ending.returned (.tuple #[.int .u32 a, .int .i64 c]) = pairW b c := by rw [h]

theorem get_nat (W L M : Nat) (w : World) (hW : W < 4294967296) (m0 : 1 ≤ M) (h : L + M ≤ 32) :
    Calls Try.prog 11 #[.int .u32 (W : Int), .int .i64 (L : Int), .int .i64 (M : Int)] w fun e w' => e = pairW (getN W L M) 0 ∧ Mild w w' := by
  have E := Lib.hid (getI_nat W L M hW h)
  have Hw := Lib.hid hW
  clear hW
  go_enter Try.func11, Try.ntmps11
  go_wp2_with (go_at_call 17; refine (field_ok _ _ _ (by omega) (by omega) (by omega) (by omega)).mono ?_; rintro e w' ⟨rfl, rfl⟩)
  go_quiet ((go_at_call 19; exact Calls.quiet_of_same (mask_nat M 0 _ _ (by omega) (by simp))))
  go_wp2_with fail
  go_ret2
  exact ⟨pairW_of E.out, ((Mild.refl _).alloc _ _).drewN _⟩

theorem put_bad (v low many x : Int) (w : World) (h : many < 1 ∨ 32 < many ∨ low < 0 ∨ 32 - many < low) (q : -9223372036854775808 ≤ many) :
    Calls Try.prog 12 #[.int .u32 v, .int .i64 low, .int .i64 many, .int .u32 x] w fun e w' => e = pairW 0 3 ∧ Mild w w' := by
  have H := Lib.hid h
  have Q := Lib.hid q
  clear h q
  go_enter Try.func12, Try.ntmps12
  go_wp2_with (go_at_call 17; refine (field_bad _ _ _ H.out Q.out).mono ?_; rintro e w' ⟨rfl, hm⟩)
  go_ret2
  exact ⟨rfl, hm⟩

theorem over_nat (V M : Nat) (hV : V < 4294967296) (h : M ≤ 32) : bits .andNot .u32 (V : Int) (maskN M 0 : Int) = ((V / 2 ^ M * 2 ^ M : Nat) : Int) := by
  have p0 := Nat.two_pow_pos M
  have p1 : 2 ^ M ≤ 2 ^ 32 := Nat.pow_le_pow_right (by omega) h
  have e0 : maskN M 0 = 2 ^ M - 1 := by unfold maskN; rw [Nat.pow_zero, Nat.mul_one]
  rw [e0, u32_andNot_nat _ _ hV (by omega)]
  congr 1
  apply Nat.eq_of_testBit_eq; intro i
  have e : 4294967295 - (2 ^ M - 1) = 2 ^ 32 - ((2 ^ M - 1) + 1) := by omega
  rw [Nat.testBit_and, e, Nat.testBit_two_pow_sub_succ (by omega), Nat.testBit_two_pow_sub_one, testBit_mul_pow, Nat.testBit_div_two_pow]
  by_cases c : i < 32
  · by_cases a : i < M
    · simp [a, show ¬ M ≤ i by omega]
    · simp [a, c, show M ≤ i by omega]
  · rw [bit_high hV (by omega)]
    by_cases a : M ≤ i
    · rw [show i - M + M = i by omega, bit_high hV (by omega)]; simp
    · simp [a]

theorem over_no (V M : Nat) (h : M ≤ 32) (hV : V < 2 ^ M) : (bits .andNot .u32 (V : Int) (maskN M 0 : Int) != 0) = false := by
  have p1 : 2 ^ M ≤ 2 ^ 32 := Nat.pow_le_pow_right (by omega) h
  rw [over_nat V M (by omega) h, Nat.div_eq_of_lt hV]; simp

theorem over_yes (V M : Nat) (h : M ≤ 32) (hV : V < 4294967296) (hv : 2 ^ M ≤ V) : (bits .andNot .u32 (V : Int) (maskN M 0 : Int) != 0) = true := by
  rw [over_nat V M hV h]
  have a : 0 < V / 2 ^ M := Nat.div_pos hv (Nat.two_pow_pos M)
  have b : 0 < V / 2 ^ M * 2 ^ M := Nat.mul_pos a (Nat.two_pow_pos M)
  generalize V / 2 ^ M * 2 ^ M = X at b
  simp; omega

theorem put_over (W L M V : Nat) (w : World) (m0 : 1 ≤ M) (h : L + M ≤ 32) (hV : V < 4294967296) (hv : 2 ^ M ≤ V) :
    Calls Try.prog 12 #[.int .u32 (W : Int), .int .i64 (L : Int), .int .i64 (M : Int), .int .u32 (V : Int)] w fun e w' => e = pairW 0 1 ∧ Mild w w' := by
  have E := over_yes V M (by omega) hV hv
  clear hV hv
  go_enter Try.func12, Try.ntmps12
  go_wp2_with (first | (go_at_call 17; refine (field_ok _ _ _ (by omega) (by omega) (by omega) (by omega)).mono ?_; rintro e w' ⟨rfl, rfl⟩) | (go_at_call 19; refine (mask_nat M 0 _ _ (by omega) (by simp)).mono ?_; rintro e w' ⟨rfl, rfl⟩))
  go_ret2
  exact ⟨rfl, (Mild.refl _).alloc _ _⟩

theorem putI_nat (W L M V : Nat) (hW : W < 4294967296) (h : L + M ≤ 32) (hV : V < 2 ^ M) :
    bits .or .u32 (bits .andNot .u32 (W : Int) (maskN M L : Int)) (shlI .u32 (V : Int) (L : Int)) = (putN W L M V : Int) := by
  have hm := mask_lt h
  have e1 : V * 2 ^ L < 2 ^ 32 := by
    have h1 : V * 2 ^ L < 2 ^ M * 2 ^ L := Nat.mul_lt_mul_of_pos_right hV (Nat.two_pow_pos L)
    rw [← Nat.pow_add] at h1
    exact Nat.lt_of_lt_of_le h1 (Nat.pow_le_pow_right (by omega) (by omega))
  have e2 : shlI .u32 (V : Int) (L : Int) = ((V * 2 ^ L : Nat) : Int) := by
    unfold shlI
    have e : min (L : Int).toNat IntKind.u32.bits = L := by show min L 32 = L; omega
    rw [e, pow_cast, ← Int.natCast_mul, IntWalk.u32_in _ (by omega)]
  rw [e2, u32_andNot_nat _ _ hW (by unfold maskN; omega), u32_or_nat _ _ (Nat.lt_of_le_of_lt Nat.and_le_left hW) (by omega)]
  rfl

theorem put_nat (W L M V : Nat) (w : World) (hW : W < 4294967296) (m0 : 1 ≤ M) (h : L + M ≤ 32) (hV : V < 2 ^ M) :
    Calls Try.prog 12 #[.int .u32 (W : Int), .int .i64 (L : Int), .int .i64 (M : Int), .int .u32 (V : Int)] w fun e w' => e = pairW (putN W L M V) 0 ∧ Mild w w' := by
  have E := over_no V M (by omega) hV
  have P := Lib.hid (putI_nat W L M V hW h hV)
  clear hV hW
  go_enter Try.func12, Try.ntmps12
  go_wp2_with (first | (go_at_call 17; refine (field_ok _ _ _ (by omega) (by omega) (by omega) (by omega)).mono ?_; rintro e w' ⟨rfl, rfl⟩) | (go_at_call 19; refine (mask_nat M 0 _ _ (by omega) (by simp)).mono ?_; rintro e w' ⟨rfl, rfl⟩))
  go_quiet ((go_at_call 19; exact Calls.quiet_of_same (mask_nat M L _ _ (by omega) (by simp))))
  go_wp2_with fail
  go_ret2
  exact ⟨pairW_of P.out, ((Mild.refl _).alloc _ _).drewN _⟩

/-! The same, of whatever arguments are such numbers, with whatever names the results have. -/
theorem get_is {v low many : Int} {W L M R : Nat} (w : World) (hW : W < 4294967296) (m0 : 1 ≤ M) (h : L + M ≤ 32) (hr : getN W L M = R) (ev : v = W) (el : low = L) (em : many = M) :
    Calls Try.prog 11 #[.int .u32 v, .int .i64 low, .int .i64 many] w fun e w' => e = pairW R 0 ∧ Mild w w' := by
  subst ev el em hr; exact get_nat W L M w hW m0 h
theorem put_is {v low many x : Int} {W L M V R : Nat} (w : World) (hW : W < 4294967296) (m0 : 1 ≤ M) (h : L + M ≤ 32) (hV : V < 2 ^ M) (hr : putN W L M V = R) (ev : v = W) (el : low = L) (em : many = M) (ex : x = V) :
    Calls Try.prog 12 #[.int .u32 v, .int .i64 low, .int .i64 many, .int .u32 x] w fun e w' => e = pairW R 0 ∧ Mild w w' := by
  subst ev el em ex hr; exact put_nat W L M V w hW m0 h hV
theorem put_over_is {v low many x : Int} {W L M V : Nat} (w : World) (m0 : 1 ≤ M) (h : L + M ≤ 32) (hV : V < 4294967296) (hv : 2 ^ M ≤ V) (ev : v = W) (el : low = L) (em : many = M) (ex : x = V) :
    Calls Try.prog 12 #[.int .u32 v, .int .i64 low, .int .i64 many, .int .u32 x] w fun e w' => e = pairW 0 1 ∧ Mild w w' := by
  subst ev el em ex; exact put_over W L M V w m0 h hV hv

end Go.Proofs.Ytdjjgloloahlgaa
