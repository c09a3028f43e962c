/- What bus.has and Waiting tell, and where Post errs. For every bus in memory. -/
import Derived.Test.YtdjjgloloahlgaaBusNew
namespace Go.Proofs.Ytdjjgloloahlgaa
open Go.RowKit

theorem has_yes {w : World} {B gr gw n : Nat} {rs : Nat → Int} {qs : Nat → Value} {k : Int} (h : BusAt w B gr gw n rs qs k) (D : Nat) (hD : D < n) :
    Calls Try.prog 18 #[.pointer (some ⟨B, 0, none⟩), .int .i64 (D : Int)] w fun e w' => e = .returned (.bool true) ∧ w' = w := by
  have c0 := h.c0
  clear h
  go_enter Try.func18, Try.ntmps18
  go_wp2_with fail
  go_ret
  exact ⟨rfl, rfl⟩

theorem has_no {w : World} {B gr gw n : Nat} {rs : Nat → Int} {qs : Nat → Value} {k : Int} (h : BusAt w B gr gw n rs qs k) (p : Int) (hp : p < 0 ∨ (n : Int) ≤ p) :
    Calls Try.prog 18 #[.pointer (some ⟨B, 0, none⟩), .int .i64 p] w fun e w' => e = .returned (.bool false) ∧ w' = w := by
  have c0 := h.c0
  clear h
  by_cases h0 : p < 0
  · clear hp
    go_enter Try.func18, Try.ntmps18
    go_wp2_with fail
    go_ret
    exact ⟨rfl, rfl⟩
  · have h1 : 0 ≤ p := by omega
    have h2 : (n : Int) ≤ p := by omega
    clear hp h0
    go_enter Try.func18, Try.ntmps18
    go_wp2_with fail
    go_ret
    exact ⟨by simp; omega, rfl⟩

theorem waiting_is {w : World} {B gr gw n : Nat} {rs : Nat → Int} {qs : Nat → Value} {k : Int} (h : BusAt w B gr gw n rs qs k) (D : Nat) (hD : D < n) {a : Option Addr} {m c : Nat} (hq : qs D = .slice a m c) :
    Calls Try.prog 15 #[.pointer (some ⟨B, 0, none⟩), .int .i64 (D : Int)] w fun e w' => e = .returned (.int .i64 (m : Int)) ∧ w' = w := by
  have c1 := h.c1
  have q1 := (h.q.cell hD).trans (by rw [hq])
  have H := Kept.mk h
  clear h hq
  go_enter Try.func15, Try.ntmps15
  go_wp2_with fail
  refine (has_yes H.out D hD).mono ?_; rintro e w' ⟨rfl, rfl⟩
  go_wp2_with fail
  go_ret
  exact ⟨rfl, rfl⟩

abbrev pairN (a e : Int) : Ending := .returned (.tuple #[.int .i64 a, .int .i64 e])

theorem post_nodev {w : World} {B gr gw n : Nat} {rs : Nat → Int} {qs : Nat → Value} {k : Int} (h : BusAt w B gr gw n rs qs k) (W : Nat) (p q : Int) (b : Bool) (v : Int) (hW : W < 4294967296) (hs : SplitR W p q) (hp : p < 0 ∨ (n : Int) ≤ p) :
    Calls Try.prog 13 #[.pointer (some ⟨B, 0, none⟩), .int .u32 (W : Int), .bool b, .int .u32 v] w fun e w' => e = pairN 0 4 ∧ Mild w w' := by
  have H := Kept.mk h
  have HS := Kept.mk hs
  have HW := Kept.mk hW
  have HP := Kept.mk hp
  clear h hs hp hW
  go_enter Try.func13, Try.ntmps13
  go_wp2_with fail
  refine (split_is _ HW.out rfl HS.out).mono ?_; rintro e w1 ⟨rfl, m1⟩
  have H1 := Kept.mk (H.out.mild m1)
  have M1 := Kept.mk m1
  clear m1 H
  go_wp2_with fail
  refine (has_no H1.out p HP.out).mono ?_; rintro e w' ⟨rfl, rfl⟩
  go_wp2_with fail
  go_ret2
  exact ⟨rfl, M1.out⟩

theorem post_noreg {w : World} {B gr gw n : Nat} {rs : Nat → Int} {qs : Nat → Value} {k : Int} (h : BusAt w B gr gw n rs qs k) (W D R : Nat) (b : Bool) (v r : Int) (hW : W < 4294967296) (hs : SplitR W (D : Int) (R : Int)) (hD : D < n) (hr : rs D = r) (hq : r ≤ R) :
    Calls Try.prog 13 #[.pointer (some ⟨B, 0, none⟩), .int .u32 (W : Int), .bool b, .int .u32 v] w fun e w' => e = pairN 0 4 ∧ Mild w w' := by
  have H := Kept.mk h
  have HS := Kept.mk hs
  have HW := Kept.mk hW
  have HR := Kept.mk hr
  clear h hs hW hr
  go_enter Try.func13, Try.ntmps13
  go_wp2_with fail
  refine (split_is _ HW.out rfl HS.out).mono ?_; rintro e w1 ⟨rfl, m1⟩
  have H1 := Kept.mk (H.out.mild m1)
  have M1 := Kept.mk m1
  clear m1 H
  go_wp2_with fail
  refine (has_yes H1.out D hD).mono ?_; rintro e w' ⟨rfl, rfl⟩
  have c0 := H1.out.c0
  have r0 := (H1.out.r.cell hD).trans (by rw [HR.out])
  go_wp2_with fail
  go_ret2
  exact ⟨rfl, M1.out⟩

theorem post_full {w : World} {B gr gw n : Nat} {rs : Nat → Int} {qs : Nat → Value} {k : Int} (h : BusAt w B gr gw n rs qs k) (W D R : Nat) (b : Bool) (v r : Int) (hW : W < 4294967296) (hs : SplitR W (D : Int) (R : Int)) (hD : D < n) (hr : rs D = r) (hq : (R : Int) < r) {a : Option Addr} {m c : Nat} (hm : qs D = .slice a m c) (h4 : 4 ≤ m) :
    Calls Try.prog 13 #[.pointer (some ⟨B, 0, none⟩), .int .u32 (W : Int), .bool b, .int .u32 v] w fun e w' => e = pairN 0 8 ∧ Mild w w' := by
  have H := Kept.mk h
  have HS := Kept.mk hs
  have HW := Kept.mk hW
  have HR := Kept.mk hr
  have HM := Kept.mk hm
  clear h hs hW hr hm
  go_enter Try.func13, Try.ntmps13
  go_wp2_with fail
  refine (split_is _ HW.out rfl HS.out).mono ?_; rintro e w1 ⟨rfl, m1⟩
  have H1 := Kept.mk (H.out.mild m1)
  have M1 := Kept.mk m1
  clear m1 H
  go_wp2_with fail
  refine (has_yes H1.out D hD).mono ?_; rintro e w' ⟨rfl, rfl⟩
  have c0 := H1.out.c0
  have c1 := H1.out.c1
  have r0 := (H1.out.r.cell hD).trans (by rw [HR.out])
  have q0 := (H1.out.q.cell hD).trans (by rw [HM.out])
  go_wp2_with fail
  go_ret2
  exact ⟨rfl, M1.out⟩

end Go.Proofs.Ytdjjgloloahlgaa
