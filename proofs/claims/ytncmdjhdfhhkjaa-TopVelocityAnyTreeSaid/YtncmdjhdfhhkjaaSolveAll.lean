/- 'Solve', for every series. -/
import Derived.Test.YtncmdjhdfhhkjaaSolve
namespace Go.Proofs.Ytncmdjhdfhhkjaa
open Go.RowKit Go.Sort

/-- What 'Solve' returns beside the error. -/
noncomputable def solveV (nm : ByteArray) (xs : List Epoch) : Value := if solveErr nm xs = 0 then fitV xs else zeros6

theorem solve_any (nm : ByteArray) (A : Option Addr) (n c : Nat) (xs : List Epoch) (w : World) (hnm : nm.size ≤ maxLen) (hn : xs.length = n) (hm : n ≤ maxLen) (hS : SliceAt w A 4 Epoch.enc xs) :
    Calls Try.prog 7 #[.agg #[.string nm, .slice A n c]] w (SolvePost (solveV nm xs) (solveErr nm xs) w) := by
  by_cases h1 : seriesErr nm xs = 0
  · have hr := series_days h1
    have hcap := normCap_of hr.2.2.1 hr.2.2.2
    have ho : ∀ W, Below w.heap.size w W → Calls Try.prog 33 #[.agg #[.string nm, .slice A n c]] W (OpenPost (normN xs) 0 W) := fun W hW => open_ok nm A n c xs W hnm hn (hS.below hW) h1
    by_cases h2 : detN (normN xs) = 0
    · have e : solveErr nm xs = 30 := by unfold solveErr; rw [if_neg (by simp [h1]), if_pos h2]
      have ev : solveV nm xs = zeros6 := by unfold solveV; rw [if_neg (by rw [e]; decide)]
      rw [e, ev]
      exact solve_bad nm A n c (normN xs) 30 w (fun W hW => solvable_rank nm A n c (normN xs) W (fun V hV => ho V (hW.trans (hV.mono hW.size))) (by rw [det_exact hcap]; exact h2)) (by decide)
    · have hs : ∀ W, Below w.heap.size w W → Calls Try.prog 19 #[.agg #[.string nm, .slice A n c]] W (OpenPost (normN xs) 0 W) := fun W hW => solvable_yes nm A n c (normN xs) W (fun V hV => ho V (hW.trans (hV.mono hW.size))) (by rw [det_exact hcap]; exact h2)
      have x0 := fit_exact hcap 0 (by omega)
      have x1 := fit_exact hcap 1 (by omega)
      have x2 := fit_exact hcap 2 (by omega)
      have xd := det_exact hcap
      by_cases h3 : fitsOk xs = false
      · have e : solveErr nm xs = 8 := by unfold solveErr; rw [if_neg (by simp [h1]), if_neg h2, if_pos h3]
        have ev : solveV nm xs = zeros6 := by unfold solveV; rw [if_neg (by rw [e]; decide)]
        rw [e, ev]
        by_cases p0 : fracOk (fitN (normN xs) 0) (detN (normN xs)) = true
        · by_cases p1 : fracOk (fitN (normN xs) 1) (detN (normN xs)) = true
          · have p2 : ¬ fracOk (fitN (normN xs) 2) (detN (normN xs)) = true := by
              intro p2
              unfold fitsOk at h3
              rw [p0, p1, p2] at h3
              cases h3
            refine solve_large nm A n c (normN xs) 2 w hs hcap h2 (by omega) (fun k hk => ?_) (by rw [nth3_2, x2, xd]; exact p2)
            rcases (by omega : k = 0 ∨ k = 1) with rfl | rfl
            · rw [nth3_0, x0, xd]; exact p0
            · rw [nth3_1, x1, xd]; exact p1
          · refine solve_large nm A n c (normN xs) 1 w hs hcap h2 (by omega) (fun k hk => ?_) (by rw [nth3_1, x1, xd]; exact p1)
            obtain rfl : k = 0 := by omega
            rw [nth3_0, x0, xd]; exact p0
        · exact solve_large nm A n c (normN xs) 0 w hs hcap h2 (by omega) (fun k hk => by omega) (by rw [nth3_0, x0, xd]; exact p0)
      · have e : solveErr nm xs = 0 := by unfold solveErr; rw [if_neg (by simp [h1]), if_neg h2, if_neg h3]
        have ev : solveV nm xs = fitV xs := by unfold solveV; rw [if_pos e]
        rw [e, ev]
        simp only [fitsOk, Bool.not_eq_false, Bool.and_eq_true] at h3
        have := solve_ok nm A n c (normN xs) w hs hcap h2 (fun k hk => by
          rcases (by omega : k = 0 ∨ k = 1 ∨ k = 2) with rfl | rfl | rfl
          · rw [nth3_0, x0, xd]; exact h3.1.1
          · rw [nth3_1, x1, xd]; exact h3.1.2
          · rw [nth3_2, x2, xd]; exact h3.2)
        rw [x0, x1, x2, xd] at this
        exact this
  · have e : solveErr nm xs = seriesErr nm xs := by unfold solveErr; rw [if_pos h1]
    have ev : solveV nm xs = zeros6 := by unfold solveV; rw [if_neg (by rw [e]; exact h1)]
    rw [e, ev]
    exact solve_bad nm A n c (fun _ => 0) _ w (fun W hW => solvable_bad nm A n c (fun _ => 0) _ W (fun V hV => open_bad nm A n c xs V hnm hn hm (hS.below (hW.trans (hV.mono hW.size))) h1) h1) h1
end Go.Proofs.Ytncmdjhdfhhkjaa
