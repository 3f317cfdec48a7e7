/- The examples of chapter 8: 'solved' returns true. -/
import Derived.Test.YtncmdjhdfhhkjaaSolveAll
import Derived.Test.YtncmdjhdfhhkjaaLight
namespace Go.Proofs.Ytncmdjhdfhhkjaa
open Go.RowKit Go.Sort

theorem whole_any (n : Int) (w : World) :
    Calls Try.prog 14 #[.int .i64 n] w fun e w' => e = .returned (.agg #[.int .i64 n, .int .i64 1]) ∧ Below w.heap.size w w' := by
  go_enter Try.func14, Try.ntmps14
  go_wp2
  exact bodyPost_ret (v := .agg #[.int .i64 n, .int .i64 1]) (by simp [results, Try.results14, go_sem]) rfl ⟨rfl, (Below.refl _ _).alloc (Nat.le_refl _) _⟩
def towerL : List Epoch := [⟨0, 0, 0, 0⟩, ⟨10, 10, 30, 0⟩, ⟨20, 0, 40, 0⟩]
def towerName : ByteArray := ⟨#[112]⟩
theorem tower_any (w : World) :
    Calls Try.prog 13 #[] w fun e w' => ∃ A c, e = .returned (.agg #[.string towerName, .slice A 3 c]) ∧ SliceAt w' A 4 Epoch.enc towerL ∧ Below w.heap.size w w' := by
  go_enter Try.func13, Try.ntmps13
  go_wp2
  obtain ⟨k0, k1, hB0, hz⟩ := blocks2 w #[.string { data := #[112] }, .slice (some ⟨w.heap.size + 1, 0, none⟩) 3 3] #[.int .i64 0, .int .i64 0, .int .i64 0, .int .i64 0, .int .i64 10, .int .i64 10, .int .i64 30, .int .i64 0, .int .i64 20, .int .i64 0, .int .i64 40, .int .i64 0] 24 51
  have r0 := k0.cell 0
  have r1 := k0.cell 1
  refine bodyPost_ret (v := .agg #[.string { data := #[112] }, .slice (some ⟨w.heap.size + 1, 0, none⟩) 3 3]) (by simp [results, Try.results13, go_sem]) rfl ⟨_, _, rfl, fun _ => ⟨_, 0, rfl, k1.lt, fun k hk j u hu => ?_⟩, hB0⟩
  have hk3 : k < 3 := hk
  have hj : j < 4 := (List.getElem?_eq_some_iff.1 hu).1
  rw [k1.cell]
  have : k = 0 ∨ k = 1 ∨ k = 2 := by omega
  have : j = 0 ∨ j = 1 ∨ j = 2 ∨ j = 3 := by omega
  rcases ‹k = 0 ∨ k = 1 ∨ k = 2› with rfl | rfl | rfl <;> rcases ‹j = 0 ∨ j = 1 ∨ j = 2 ∨ j = 3› with rfl | rfl | rfl | rfl <;> (simp [towerL, nth, Epoch.enc] at hu; subst hu; rfl)
theorem tower_name : nameB towerName = true := by
  rw [nameB_true]
  refine ⟨by decide, by decide, fun i h => ?_⟩
  have : i = 0 := by have : i < 1 := h; omega
  subst this
  exact .inl (by decide : (97 : Int) ≤ ((112 : UInt8).toNat : Int) ∧ ((112 : UInt8).toNat : Int) ≤ 122)
theorem tower_series : seriesErr towerName towerL = 0 := by
  unfold seriesErr
  rw [if_neg (by simp [tower_name]), if_neg (by decide), if_neg (by decide)]
  decide
theorem tower_fits : detN (normN towerL) ≠ 0 ∧ fitsOk towerL = true ∧ fnum (fitN (normN towerL) 0) (detN (normN towerL)) = 2 ∧ fden (fitN (normN towerL) 0) (detN (normN towerL)) = 1 ∧ fnum (fitN (normN towerL) 1) (detN (normN towerL)) = 1 ∧ fden (fitN (normN towerL) 1) (detN (normN towerL)) = 1 := by decide

theorem tower_solve (A : Option Addr) (c : Nat) (w : World) (hS : SliceAt w A 4 Epoch.enc towerL) :
    Calls Try.prog 7 #[.agg #[.string towerName, .slice A 3 c]] w fun e w' => ∃ x y : Int, e = .returned (.tuple #[.agg #[.int .i64 2, .int .i64 1, .int .i64 1, .int .i64 1, .int .i64 x, .int .i64 y], .int .i64 0]) ∧ Below w.heap.size w w' := by
  obtain ⟨h1, h2, h3, h4, h5, h6⟩ := tower_fits
  have he : solveErr towerName towerL = 0 := by unfold solveErr; rw [if_neg (by simp [tower_series]), if_neg h1, if_neg (by simp [h2])]
  have hv : solveV towerName towerL = fitV towerL := by unfold solveV; rw [if_pos he]
  refine (solve_any towerName A 3 c towerL w (by decide) rfl (by decide) hS).mono ?_
  rintro e w' ⟨h, hb⟩
  rw [he, hv] at h
  unfold fitV at h
  rw [h3, h4, h5, h6] at h
  exact ⟨_, _, h, hb⟩

set_option maxRecDepth 100000 in
set_option maxHeartbeats 1000000 in
theorem solved_true (w : World) :
    Calls Try.prog 4 #[] w fun e w' => e = .returned (.bool true) ∧ Below w.heap.size w w' := by
  go_enter Try.func4, Try.ntmps4
  go_wp2_with fail
  refine (tower_any _).mono ?_
  rintro e w1 ⟨A, c, rfl, hS, hB1⟩
  go_wp2_with fail
  refine (tower_solve A c _ hS).mono ?_
  rintro e w2 ⟨x, y, rfl, hB2⟩
  have hB := hB1.trans (hB2.mono hB1.size)
  clear hS hB1 hB2
  go_wp2
  have b0 := Blk.new w2 33 #[.int .i64 2, .int .i64 1, .int .i64 1, .int .i64 1, .int .i64 x, .int .i64 y]
  have hB3 := hB.alloc hB.size (.cells #[.int .i64 2, .int .i64 1, .int .i64 1, .int .i64 1, .int .i64 x, .int .i64 y] 33)
  generalize (w2.alloc (.cells #[.int .i64 2, .int .i64 1, .int .i64 1, .int .i64 1, .int .i64 x, .int .i64 y] 33)) = W at *
  generalize w2.heap.size = g at *
  have z0 : ∀ d os, (grow (redrawn W d) os).cell? ⟨g, 0, none⟩ = some (.int .i64 2) := fun d os => cell_regrown (b0.cell 0) d os
  have z1 : ∀ d os, (grow (redrawn W d) os).cell? ⟨g, 1, none⟩ = some (.int .i64 1) := fun d os => cell_regrown (b0.cell 1) d os
  have z2 : ∀ d os, (grow (redrawn W d) os).cell? ⟨g, 2, none⟩ = some (.int .i64 1) := fun d os => cell_regrown (b0.cell 2) d os
  have z3 : ∀ d os, (grow (redrawn W d) os).cell? ⟨g, 3, none⟩ = some (.int .i64 1) := fun d os => cell_regrown (b0.cell 3) d os
  have HW : Hid (∀ n d os, Calls Try.prog 14 #[.int .i64 n] (grow (redrawn W d) os) fun e w'' => e = .returned (.agg #[.int .i64 n, .int .i64 1]) ∧ ∃ p : Regrown, w'' = grow (redrawn W p.d) p.os) :=
    Lib.hid fun n d os => Calls.regrown_of (whole_any n _)
  clear b0 hB
  refine wp_region_quiet_below (by kernel_rfl) (by kernel_rfl) ?_
  repeat (go_big_quiet_step (exact HW.out _ _ _))
  refine wpQuiet_nil ?_
  intro V hV
  obtain ⟨⟨d, os⟩, rfl⟩ := hV
  go_wp2
  go_ret
  exact ⟨rfl, hB3.trans ((below_regrown W d os).mono hB3.size)⟩
end Go.Proofs.Ytncmdjhdfhhkjaa
