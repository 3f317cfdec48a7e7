/- What 'Solve' returns, and that nothing of it passes 2^62. -/
import Derived.Test.YtncmdjhdfhhkjaaSolvable
import Derived.Test.YtncmdjhdfhhkjaaFracs
namespace Go.Proofs.Ytncmdjhdfhhkjaa
open Go.RowKit Go.Sort

def capN : Nat → Int
  | 0 => 160000 | 1 => 40000 | 2 => 400 | 3 => 40000 | 4 => 10000 | 5 => 100 | 6 => 400 | 7 => 100 | 8 => 1 | 9 => 6400000 | 10 => 1600000 | 11 => 16000 | _ => 0
/-- A row of a right series. -/
def RightRow (f : Row3) (v : Int) : Prop := (-400 ≤ f.a ∧ f.a ≤ 400) ∧ (-100 ≤ f.b ∧ f.b ≤ 100) ∧ f.c = 1 ∧ -16000 ≤ v ∧ v ≤ 16000
theorem termN_cap {f : Row3} {v : Int} (h : RightRow f v) (j : Nat) : -capN j ≤ termN f v j ∧ termN f v j ≤ capN j := by
  obtain ⟨ha, hb, hc, hv⟩ := h
  have hv' : -(16000 : Int) ≤ v ∧ v ≤ 16000 := hv
  have maa := mul_small (by omega) ha ha
  have mab := mul_small (by omega) ha hb
  have mba := mul_small (by omega) hb ha
  have mbb := mul_small (by omega) hb hb
  have mav := mul_small (by omega) ha hv'
  have mbv := mul_small (by omega) hb hv'
  unfold termN capN
  rw [hc]
  split <;> simp only [Int.mul_one, Int.one_mul] <;> omega
theorem capN_nonneg (j : Nat) : 0 ≤ capN j := by unfold capN; split <;> omega
theorem stN_cap {fs : List Row3} {vs : List Int} : ∀ {k : Nat}, (∀ i, i < k → RightRow (nth fs i) (nth vs i)) → ∀ j, -(capN j * k) ≤ stN fs vs k j ∧ stN fs vs k j ≤ capN j * k
  | 0, _, j => by simp [stN]
  | k + 1, h, j => by
    have h1 := stN_cap (k := k) (fun i hi => h i (by omega)) j
    have h2 := termN_cap (h k (by omega)) j
    simp only [stN]
    have e : capN j * ((k + 1 : Nat) : Int) = capN j * k + capN j := by rw [Int.natCast_add, Int.mul_add]; simp
    rw [e]
    omega
theorem rows_right {xs : List Epoch} (h : ∀ k, k < xs.length → epochErr xs k = 0) (i : Nat) (hi : i < xs.length) : RightRow (nth (rowsL xs) i) (nth (phasesL xs) i) := by
  have e := epoch_small (h i hi)
  have u := days_up h i hi
  rw [rowsL, phasesL, nth_range _ hi, nth_range _ hi]
  unfold RightRow rowAt
  dsimp only
  omega
/-- The numbers of the normal equations of a right series. -/
structure NormCap (f : Nat → Int) : Prop where
  c0 : -3200000 ≤ f 0 ∧ f 0 ≤ 3200000
  c1 : -800000 ≤ f 1 ∧ f 1 ≤ 800000
  c2 : -8000 ≤ f 2 ∧ f 2 ≤ 8000
  c3 : -800000 ≤ f 3 ∧ f 3 ≤ 800000
  c4 : -200000 ≤ f 4 ∧ f 4 ≤ 200000
  c5 : -2000 ≤ f 5 ∧ f 5 ≤ 2000
  c6 : -8000 ≤ f 6 ∧ f 6 ≤ 8000
  c7 : -2000 ≤ f 7 ∧ f 7 ≤ 2000
  c8 : -20 ≤ f 8 ∧ f 8 ≤ 20
  c9 : -128000000 ≤ f 9 ∧ f 9 ≤ 128000000
  c10 : -32000000 ≤ f 10 ∧ f 10 ≤ 32000000
  c11 : -320000 ≤ f 11 ∧ f 11 ≤ 320000
theorem normCap_of {xs : List Epoch} (h20 : xs.length ≤ 20) (h : ∀ k, k < xs.length → epochErr xs k = 0) : NormCap (normN xs) := by
  have key : ∀ j, -(capN j * 20) ≤ normN xs j ∧ normN xs j ≤ capN j * 20 := fun j => by
    have h1 := stN_cap (fs := rowsL xs) (vs := phasesL xs) (k := xs.length) (fun i hi => rows_right h i hi) j
    have h2 : capN j * (xs.length : Int) ≤ capN j * 20 := Int.mul_le_mul_of_nonneg_left (by omega) (capN_nonneg j)
    unfold normN
    omega
  exact ⟨key 0, key 1, key 2, key 3, key 4, key 5, key 6, key 7, key 8, key 9, key 10, key 11⟩
section
variable {f : Nat → Int}
theorem det_cap (h : NormCap f) : -100000000000000 ≤ detN f ∧ detN f ≤ 100000000000000 := by
  obtain ⟨c0, c1, c2, c3, c4, c5, c6, c7, c8, _, _, _⟩ := h
  have a1 := mul_small (by omega) c4 c8
  have a2 := mul_small (by omega) c5 c7
  have b1 := mul_small (by omega) c5 c6
  have b2 := mul_small (by omega) c3 c8
  have d1 := mul_small (by omega) c3 c7
  have d2 := mul_small (by omega) c4 c6
  have e0 : cofN f 0 0 = f 4 * f 8 - f 5 * f 7 := rfl
  have e1 : cofN f 0 1 = f 5 * f 6 - f 3 * f 8 := rfl
  have e2 : cofN f 0 2 = f 3 * f 7 - f 4 * f 6 := rfl
  have m0 := mul_small (x := f 0) (y := cofN f 0 0) (X := 3200000) (Y := 8000000) (by omega) c0 (by rw [e0]; omega)
  have m1 := mul_small (x := f 1) (y := cofN f 0 1) (X := 800000) (Y := 32000000) (by omega) c1 (by rw [e1]; omega)
  have m2 := mul_small (x := f 2) (y := cofN f 0 2) (X := 8000) (Y := 3200000000) (by omega) c2 (by rw [e2]; omega)
  unfold detN
  omega
theorem fit_cap (h : NormCap f) (p : Nat) (hp : p < 3) : -4000000000000000000 ≤ fitN f p ∧ fitN f p ≤ 4000000000000000000 := by
  obtain ⟨c0, c1, c2, c3, c4, c5, c6, c7, c8, c9, c10, c11⟩ := h
  rcases (by omega : p = 0 ∨ p = 1 ∨ p = 2) with rfl | rfl | rfl
  · have a1 := mul_small (by omega) c4 c8
    have a2 := mul_small (by omega) c5 c7
    have b1 := mul_small (by omega) c7 c2
    have b2 := mul_small (by omega) c8 c1
    have d1 := mul_small (by omega) c1 c5
    have d2 := mul_small (by omega) c2 c4
    have e0 : cofN f 0 0 = f 4 * f 8 - f 5 * f 7 := rfl
    have e1 : cofN f 1 0 = f 7 * f 2 - f 8 * f 1 := rfl
    have e2 : cofN f 2 0 = f 1 * f 5 - f 2 * f 4 := rfl
    have m0 := mul_small (x := cofN f 0 0) (y := f 9) (X := 8000000) (Y := 128000000) (by omega) (by rw [e0]; omega) c9
    have m1 := mul_small (x := cofN f 1 0) (y := f 10) (X := 32000000) (Y := 32000000) (by omega) (by rw [e1]; omega) c10
    have m2 := mul_small (x := cofN f 2 0) (y := f 11) (X := 3200000000) (Y := 320000) (by omega) (by rw [e2]; omega) c11
    unfold fitN
    omega
  · have a1 := mul_small (by omega) c5 c6
    have a2 := mul_small (by omega) c3 c8
    have b1 := mul_small (by omega) c8 c0
    have b2 := mul_small (by omega) c6 c2
    have d1 := mul_small (by omega) c2 c3
    have d2 := mul_small (by omega) c0 c5
    have e0 : cofN f 0 1 = f 5 * f 6 - f 3 * f 8 := rfl
    have e1 : cofN f 1 1 = f 8 * f 0 - f 6 * f 2 := rfl
    have e2 : cofN f 2 1 = f 2 * f 3 - f 0 * f 5 := rfl
    have m0 := mul_small (x := cofN f 0 1) (y := f 9) (X := 32000000) (Y := 128000000) (by omega) (by rw [e0]; omega) c9
    have m1 := mul_small (x := cofN f 1 1) (y := f 10) (X := 128000000) (Y := 32000000) (by omega) (by rw [e1]; omega) c10
    have m2 := mul_small (x := cofN f 2 1) (y := f 11) (X := 12800000000) (Y := 320000) (by omega) (by rw [e2]; omega) c11
    unfold fitN
    omega
  · have a1 := mul_small (by omega) c3 c7
    have a2 := mul_small (by omega) c4 c6
    have b1 := mul_small (by omega) c6 c1
    have b2 := mul_small (by omega) c7 c0
    have d1 := mul_small (by omega) c0 c4
    have d2 := mul_small (by omega) c1 c3
    have e0 : cofN f 0 2 = f 3 * f 7 - f 4 * f 6 := rfl
    have e1 : cofN f 1 2 = f 6 * f 1 - f 7 * f 0 := rfl
    have e2 : cofN f 2 2 = f 0 * f 4 - f 1 * f 3 := rfl
    have m0 := mul_small (x := cofN f 0 2) (y := f 9) (X := 3200000000) (Y := 128000000) (by omega) (by rw [e0]; omega) c9
    have m1 := mul_small (x := cofN f 1 2) (y := f 10) (X := 12800000000) (Y := 32000000) (by omega) (by rw [e1]; omega) c10
    have m2 := mul_small (x := cofN f 2 2) (y := f 11) (X := 1280000000000) (Y := 320000) (by omega) (by rw [e2]; omega) c11
    unfold fitN
    omega
theorem det_exact (h : NormCap f) : wrap64 (detN f) = detN f := wrap64_in _ (by have := det_cap h; omega)
theorem fit_exact (h : NormCap f) (p : Nat) (hp : p < 3) : wrap64 (fitN f p) = fitN f p := wrap64_in _ (by have := fit_cap h p hp; omega)
end

/-- The numerators of the fit of a series. -/
def fitL (xs : List Epoch) : List Int := [fitN (normN xs) 0, fitN (normN xs) 1, fitN (normN xs) 2]
def fitsOk (xs : List Epoch) : Bool := fracOk (fitN (normN xs) 0) (detN (normN xs)) && fracOk (fitN (normN xs) 1) (detN (normN xs)) && fracOk (fitN (normN xs) 2) (detN (normN xs))
/-- The error of 'Solve'. -/
noncomputable def solveErr (nm : ByteArray) (xs : List Epoch) : Int :=
  if seriesErr nm xs ≠ 0 then seriesErr nm xs else if detN (normN xs) = 0 then 30 else if fitsOk xs = false then 8 else 0
def zeros6 : Value := .agg #[.int .i64 0, .int .i64 0, .int .i64 0, .int .i64 0, .int .i64 0, .int .i64 0]
def fitV (xs : List Epoch) : Value := .agg #[.int .i64 (fnum (fitN (normN xs) 0) (detN (normN xs))), .int .i64 (fden (fitN (normN xs) 0) (detN (normN xs))), .int .i64 (fnum (fitN (normN xs) 1) (detN (normN xs))), .int .i64 (fden (fitN (normN xs) 1) (detN (normN xs))),
  .int .i64 (fnum (fitN (normN xs) 2) (detN (normN xs))), .int .i64 (fden (fitN (normN xs) 2) (detN (normN xs)))]
end Go.Proofs.Ytncmdjhdfhhkjaa
