/- A series whose phases are shifted has the same fit, but for the constant: the plain law. -/
import Derived.Test.YtncmdjhdfhhkjaaFitOf
namespace Go.Proofs.Ytncmdjhdfhhkjaa
open Go.RowKit Go.Sort

theorem fit_poly0 (a b c d e f g h i x y z k : Int) : (e * i - f * h) * (x - k * c) + (h * c - i * b) * (y - k * f) + (b * f - c * e) * (z - k * i) = (e * i - f * h) * x + (h * c - i * b) * y + (b * f - c * e) * z := by grind
theorem fitN_shift {f f' : Nat → Int} {k : Int} (h : ∀ j, j < 9 → f' j = f j) (h9 : f' 9 = f 9 - k * f 2) (h10 : f' 10 = f 10 - k * f 5) (h11 : f' 11 = f 11 - k * f 8) :
    detN f' = detN f ∧ fitN f' 0 = fitN f 0 ∧ fitN f' 1 = fitN f 1 ∧ fitN f' 2 = fitN f 2 - k * detN f := by
  have e0 := h 0 (by omega)
  have e1 := h 1 (by omega)
  have e2 := h 2 (by omega)
  have e3 := h 3 (by omega)
  have e4 := h 4 (by omega)
  have e5 := h 5 (by omega)
  have e6 := h 6 (by omega)
  have e7 := h 7 (by omega)
  have e8 := h 8 (by omega)
  simp only [detN, fitN, cofN, matN, Nat.reduceAdd, Nat.reduceMod, Nat.reduceMul, e0, e1, e2, e3, e4, e5, e6, e7, e8, h9, h10, h11]
  refine ⟨trivial, ?_, ?_, ?_⟩ <;> grind

theorem withPh_len (xs : List Epoch) (pv : Nat → Int) : (withPh xs pv).length = xs.length := by simp [withPh]
theorem withPh_nth {xs : List Epoch} (pv : Nat → Int) {i : Nat} (h : i < xs.length) : nth (withPh xs pv) i = ⟨(nth xs i).day, (nth xs i).base, pv i, (nth xs i).margin⟩ := by
  rw [withPh, nth_range _ h]; unfold swapPh; rw [if_pos h]
theorem rowsL_with (xs : List Epoch) (pv : Nat → Int) : rowsL (withPh xs pv) = rowsL xs := by
  unfold rowsL
  rw [withPh_len]
  apply List.map_congr_left
  intro i hi
  have hi' := List.mem_range.1 hi
  unfold rowAt
  rw [withPh_nth pv hi', withPh_nth pv (show 0 < xs.length by omega)]
theorem stN_mat {fs : List Row3} {vs vs' : List Int} {j : Nat} (hj : j < 9) : ∀ k, stN fs vs' k j = stN fs vs k j
  | 0 => rfl
  | k + 1 => by
    rw [stN, stN, stN_mat hj k]
    congr 1
    have : j = 0 ∨ j = 1 ∨ j = 2 ∨ j = 3 ∨ j = 4 ∨ j = 5 ∨ j = 6 ∨ j = 7 ∨ j = 8 := by omega
    rcases this with rfl | rfl | rfl | rfl | rfl | rfl | rfl | rfl | rfl <;> rfl
theorem stN_right {fs : List Row3} {vs vs' : List Int} {c : Int} : ∀ k, (∀ i, i < k → nth vs' i = nth vs i - c ∧ (nth fs i).c = 1) → stN fs vs' k 9 = stN fs vs k 9 - c * stN fs vs k 2 ∧ stN fs vs' k 10 = stN fs vs k 10 - c * stN fs vs k 5 ∧ stN fs vs' k 11 = stN fs vs k 11 - c * stN fs vs k 8
  | 0, _ => by simp [stN]
  | k + 1, h => by
    obtain ⟨h1, h2, h3⟩ := stN_right k (fun i hi => h i (by omega))
    obtain ⟨e1, e2⟩ := h k (by omega)
    simp only [stN, h1, h2, h3, termN, e1, e2]
    refine ⟨?_, ?_, ?_⟩ <;> grind
theorem normN_shift {xs : List Epoch} {pv : Nat → Int} {c : Int} (h : ∀ i, i < xs.length → pv i = (nth xs i).phase - c) :
    (∀ j, j < 9 → normN (withPh xs pv) j = normN xs j) ∧ normN (withPh xs pv) 9 = normN xs 9 - c * normN xs 2 ∧ normN (withPh xs pv) 10 = normN xs 10 - c * normN xs 5 ∧ normN (withPh xs pv) 11 = normN xs 11 - c * normN xs 8 := by
  unfold normN
  rw [rowsL_with, withPh_len]
  refine ⟨fun j hj => stN_mat hj _, stN_right _ fun i hi => ⟨?_, ?_⟩⟩
  · unfold phasesL
    rw [nth_range _ (by rw [withPh_len]; exact hi), nth_range _ hi, withPh_nth pv hi]
    exact h i hi
  · unfold rowsL
    rw [nth_range _ hi]; rfl
theorem frac_shift (a k d : Int) : fnum (a - k * d) d = fnum a d - k * fden a d ∧ fden (a - k * d) d = fden a d := by
  have hg : Int.gcd (a - k * d) d = Int.gcd a d := Int.gcd_sub_mul_right_left d a k
  have hd : ((Int.gcd a d : Nat) : Int) ∣ d := Int.gcd_dvd_right a d
  unfold fnum fden
  rw [hg]
  refine ⟨?_, rfl⟩
  rw [Int.sub_ediv_of_dvd a (Int.dvd_mul_of_dvd_right hd), Int.mul_ediv_assoc k hd, Int.sub_mul, Int.mul_assoc]
  congr 2
  generalize Int.gcd a d = g at *
  obtain ⟨q, rfl⟩ := hd
  rcases Nat.eq_zero_or_pos g with h0 | h0
  · subst h0; simp
  · have hgz : (g : Int) ≠ 0 := by omega
    have e1 : (g : Int) * q / (g : Int) = q := Int.mul_ediv_cancel_left q hgz
    have e2 : ((g : Int) * q).natAbs = g * q.natAbs := by rw [Int.natAbs_mul]; rfl
    have e3 : ((g : Int) * q).natAbs / g = q.natAbs := by rw [e2]; exact Nat.mul_div_cancel_left _ h0
    have e4 : ((g : Int) * q).sign = q.sign := by rw [Int.sign_mul, Int.sign_eq_one_of_pos (by omega), Int.one_mul]
    rw [e1, e3, e4, Int.mul_sign_self]
/-- The fit of shifted phases. -/
theorem shift_law {nm : ByteArray} {xs : List Epoch} {pv : Nat → Int} {c : Int} (hx : solveErr nm xs = 0) (hy : solveErr nm (withPh xs pv) = 0) (h : ∀ i, i < xs.length → pv i = (nth xs i).phase - c) :
    ∃ a0 a1 a2 a3 a4 a5 : Int, solveV nm xs = .agg #[.int .i64 a0, .int .i64 a1, .int .i64 a2, .int .i64 a3, .int .i64 a4, .int .i64 a5] ∧
      solveV nm (withPh xs pv) = .agg #[.int .i64 a0, .int .i64 a1, .int .i64 a2, .int .i64 a3, .int .i64 (a4 - c * a5), .int .i64 a5] ∧ -1000000000 ≤ a4 ∧ a4 ≤ 1000000000 ∧ -1000000000 ≤ a4 - c * a5 ∧ a4 - c * a5 ≤ 1000000000 ∧ 0 ≤ a5 ∧ a5 ≤ 1000000000 := by
  obtain ⟨n1, n2, n3, n4⟩ := normN_shift h
  obtain ⟨f1, f2, f3, f4⟩ := fitN_shift n1 n2 n3 n4
  have ok : ∀ zs, solveErr nm zs = 0 → fitsOk zs = true := fun zs hz => by
    unfold solveErr at hz
    split at hz
    · rename_i h1; exact absurd hz h1
    · split at hz
      · exact absurd hz (by decide)
      · split at hz
        · exact absurd hz (by decide)
        · rename_i h3; simpa using h3
  have ox := ok _ hx
  have oy := ok _ hy
  obtain ⟨g1, g2⟩ := frac_shift (fitN (normN xs) 2) c (detN (normN xs))
  refine ⟨fnum (fitN (normN xs) 0) (detN (normN xs)), fden (fitN (normN xs) 0) (detN (normN xs)), fnum (fitN (normN xs) 1) (detN (normN xs)), fden (fitN (normN xs) 1) (detN (normN xs)), fnum (fitN (normN xs) 2) (detN (normN xs)), fden (fitN (normN xs) 2) (detN (normN xs)), ?_, ?_, ?_⟩
  · unfold solveV; rw [if_pos hx]; rfl
  · unfold solveV; rw [if_pos hy]; unfold fitV; rw [f1, f2, f3, f4, g1, g2]
  · unfold fitsOk fracOk at ox oy
    rw [f1, f2, f3, f4, g1, g2] at oy
    simp only [Bool.and_eq_true, decide_eq_true_eq] at ox oy
    have q1 := withinB_true.1 ox.2.1
    have q2 := withinB_true.1 oy.2.1
    have q3 := ox.2.2
    have q4 : 0 ≤ fden (fitN (normN xs) 2) (detN (normN xs)) := Int.natCast_nonneg _
    exact ⟨q1.1, q1.2, q2.1, q2.2, q4, q3⟩
end Go.Proofs.Ytncmdjhdfhhkjaa
