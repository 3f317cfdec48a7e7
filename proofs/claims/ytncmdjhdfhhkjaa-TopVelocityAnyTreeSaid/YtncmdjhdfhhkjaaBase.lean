/- Small words and lemmas that all walks of this seat use: worlds that only grew, and what the small helpers of the program return. -/
import Derived.Test.YtncmdjhdfhhkjaaProg
import Derived.WalkKit
import Derived.WalkSpells
import Derived.WalkLawsBesides
import Derived.Lib.Hide
import Derived.Deep.QuietTactic
import Derived.BigQuiet
import Derived.Deep.OwnRows
import Derived.Maps.AppendAt
namespace Go.Proofs.Ytncmdjhdfhhkjaa
open Go.RowKit

theorem bcell {W w1 : World} (hb : Below W.heap.size W w1) : (∀ b o, b < W.heap.size → w1.cell? ⟨b, o, none⟩ = W.cell? ⟨b, o, none⟩) ∧ (∀ b o, b < W.heap.size → w1.frozen? ⟨b, o, none⟩ = W.frozen? ⟨b, o, none⟩) :=
  ⟨fun b o h => hb.cell (p := ⟨b, o, none⟩) h, fun b o h => hb.frozen (p := ⟨b, o, none⟩) h⟩
theorem below_drewN {B : Nat} {a w : World} (h : Below B a w) (n : Nat) : Below B a (w.drewN n) := ⟨h.os, h.tape, h.output, h.size, h.block⟩

theorem ret_int {k : IntKind} {a b : Int} (h : a = b) : Ending.returned (.int k a) = .returned (.int k b) := by rw [h]
theorem ret_bool {a b : Bool} (h : a = b) : Ending.returned (.bool a) = .returned (.bool b) := by rw [h]
/-- lo to hi, both included. -/
def withinB (n lo hi : Int) : Bool := decide (lo ≤ n) && decide (n ≤ hi)
theorem withinB_true {n lo hi : Int} : withinB n lo hi = true ↔ lo ≤ n ∧ n ≤ hi := by simp [withinB]
theorem withinB_false {n lo hi : Int} : withinB n lo hi = false ↔ (n < lo ∨ hi < n) := by simp [withinB]; omega

theorem base_Within (n lo hi : Int) (w : World) :
    Calls Try.prog 16 #[.int .i64 n, .int .i64 lo, .int .i64 hi] w fun e w' => e = .returned (.bool (withinB n lo hi)) ∧ w = w' := by
  go_enter Try.func16, Try.ntmps16
  go_wp2
  all_goals (go_ret; refine ⟨?_, rfl⟩; unfold withinB; simp [*]; try omega)
theorem series_within (n lo hi : Int) (w : World) :
    Calls Try.prog 57 #[.int .i64 n, .int .i64 lo, .int .i64 hi] w fun e w' => e = .returned (.bool (withinB n lo hi)) ∧ w = w' := by
  go_enter Try.func57, Try.ntmps57
  go_wp2
  all_goals (go_ret; refine ⟨?_, rfl⟩; unfold withinB; simp [*]; try omega)
theorem stack_within (n lo hi : Int) (w : World) :
    Calls Try.prog 29 #[.int .i64 n, .int .i64 lo, .int .i64 hi] w fun e w' => e = .returned (.bool (withinB n lo hi)) ∧ w = w' := by
  go_enter Try.func29, Try.ntmps29
  go_wp2
  all_goals (go_ret; refine ⟨?_, rfl⟩; unfold withinB; simp [*]; try omega)
theorem series_small (n m : Int) (w : World) (h0 : 0 ≤ m) (h1 : m ≤ 9223372036854775807) :
    Calls Try.prog 48 #[.int .i64 n, .int .i64 m] w fun e w' => e = .returned (.bool (withinB n (-m) m)) ∧ w = w' := by
  go_enter Try.func48, Try.ntmps48
  go_wp2_with (go_at_call 57; refine (series_within _ _ _ _).mono ?_; rintro e w' ⟨rfl, rfl⟩)
  go_ret
  exact ⟨rfl, rfl⟩
theorem stack_small (n m : Int) (w : World) (h0 : 0 ≤ m) (h1 : m ≤ 9223372036854775807) :
    Calls Try.prog 27 #[.int .i64 n, .int .i64 m] w fun e w' => e = .returned (.bool (withinB n (-m) m)) ∧ w = w' := by
  go_enter Try.func27, Try.ntmps27
  go_wp2_with (go_at_call 29; refine (stack_within _ _ _ _).mono ?_; rintro e w' ⟨rfl, rfl⟩)
  go_ret
  exact ⟨rfl, rfl⟩
theorem ref08_isMoved (n : Int) (w : World) :
    Calls Try.prog 17 #[.int .i64 n] w fun e w' => e = .returned (.bool (withinB n (-16000) 16000)) ∧ w = w' := by
  go_enter Try.func17, Try.ntmps17
  go_wp2_with (go_at_call 16; refine (base_Within _ _ _ _).mono ?_; rintro e w' ⟨rfl, rfl⟩)
  go_ret
  exact ⟨rfl, rfl⟩
theorem ref08_isMargin (n : Int) (w : World) :
    Calls Try.prog 18 #[.int .i64 n] w fun e w' => e = .returned (.bool (withinB n 0 2048)) ∧ w = w' := by
  go_enter Try.func18, Try.ntmps18
  go_wp2_with (go_at_call 16; refine (base_Within _ _ _ _).mono ?_; rintro e w' ⟨rfl, rfl⟩)
  go_ret
  exact ⟨rfl, rfl⟩

theorem tmod_emod (n m : Int) (h : 0 < m) : (if n.tmod m < 0 then n.tmod m + m else n.tmod m) = n % m := by
  rw [Int.tmod_eq_emod]
  have h1 := Int.emod_nonneg n (show m ≠ 0 by omega)
  have h2 := Int.emod_lt_of_pos n h
  split <;> split <;> omega
theorem base_Mod (n m : Int) (w : World) (h : 0 < m) (h1 : m ≤ 1000000000) (hn : -9223372036854775808 ≤ n) (hn2 : n ≤ 9223372036854775807) :
    Calls Try.prog 6 #[.int .i64 n, .int .i64 m] w fun e w' => e = .returned (.int .i64 (n % m)) ∧ w = w' := by
  have e := tmod_emod n m h
  have b1 : -m < n.tmod m := by rw [Int.tmod_eq_emod]; have h1 := Int.emod_nonneg n (show m ≠ 0 by omega); split <;> omega
  have b2 : n.tmod m < m := by rw [Int.tmod_eq_emod]; have h1 := Int.emod_lt_of_pos n h; split <;> omega
  have E := Lib.hid e
  clear e
  go_enter Try.func6, Try.ntmps6
  go_wp2
  · have hlt : n.tmod m < 0 := by assumption
    go_ret
    have e := E.out
    rw [if_pos hlt] at e
    exact ⟨ret_int e, rfl⟩
  · have hge : 0 ≤ n.tmod m := by assumption
    go_ret
    have e := E.out
    rw [if_neg (by omega)] at e
    exact ⟨ret_int e, rfl⟩
theorem size_eq (n : Int) : max n (-n) = (n.natAbs : Int) := by omega
theorem stack_size (n : Int) (w : World) (h : -9223372036854775807 ≤ n) (h2 : n ≤ 9223372036854775807) :
    Calls Try.prog 63 #[.int .i64 n] w fun e w' => e = .returned (.int .i64 (max n (-n))) ∧ w = w' := by
  go_enter Try.func63, Try.ntmps63
  go_wp2
  all_goals (go_ret; exact ⟨ret_int (by omega), rfl⟩)
theorem base_Size (n : Int) (w : World) (h : -9223372036854775807 ≤ n) (h2 : n ≤ 9223372036854775807) :
    Calls Try.prog 36 #[.int .i64 n] w fun e w' => e = .returned (.int .i64 (max n (-n))) ∧ w = w' := by
  go_enter Try.func36, Try.ntmps36
  go_wp2
  all_goals (go_ret; exact ⟨ret_int (by omega), rfl⟩)

end Go.Proofs.Ytncmdjhdfhhkjaa
