/- 'open' and 'solvable': a series with its normal equations. -/
import Derived.Test.YtncmdjhdfhhkjaaRowsOf
import Derived.Test.YtncmdjhdfhhkjaaFit
import Derived.Test.YtncmdjhdfhhkjaaBlocks
import Derived.Test.YtncmdjhdfhhkjaaCheckSerB
namespace Go.Proofs.Ytncmdjhdfhhkjaa
open Go.RowKit Go.Sort

/-- The normal equations of a series. -/
def normN (xs : List Epoch) : Nat → Int := stN (rowsL xs) (phasesL xs) xs.length
/-- What is left behind 'open' and 'solvable'. -/
def OpenPost (f : Nat → Int) (err : Int) (w : World) (e : Ending) (w' : World) : Prop :=
  ∃ A1 n1 c1 A2 n2 c2, e = .returned (.tuple #[.agg #[.slice A1 n1 c1, .slice A2 n2 c2], .agg (ints12 f), .int .i64 err]) ∧ Below w.heap.size w w'

/-- What a right series has. -/
theorem series_days {nm : ByteArray} {xs : List Epoch} (h : seriesErr nm xs = 0) : nameB nm = true ∧ 0 < xs.length ∧ xs.length ≤ 20 ∧ ∀ k, k < xs.length → epochErr xs k = 0 := by
  unfold seriesErr at h
  by_cases h1 : nameB nm = false
  · rw [if_pos h1] at h; omega
  · rw [if_neg h1] at h
    by_cases h2 : xs.length = 0
    · rw [if_pos h2] at h; omega
    · rw [if_neg h2] at h
      by_cases h3 : 20 < xs.length
      · rw [if_pos h3] at h; omega
      · rw [if_neg h3] at h
        exact ⟨by simpa using h1, by omega, by omega, firstErr_all h⟩
theorem epoch_small {xs : List Epoch} {k : Nat} (h : epochErr xs k = 0) : (0 ≤ (nth xs k).day ∧ (nth xs k).day ≤ 100000) ∧ (-100 ≤ (nth xs k).base ∧ (nth xs k).base ≤ 100) ∧ (-16000 ≤ (nth xs k).phase ∧ (nth xs k).phase ≤ 16000) ∧ (0 < k → (nth xs (k - 1)).day < (nth xs k).day) ∧ (nth xs k).day - (nth xs 0).day ≤ 400 := by
  unfold epochErr at h
  by_cases e : (withinB (nth xs k).day 0 100000 && withinB (nth xs k).base (-100) 100 && withinB (nth xs k).phase (-16000) 16000 && withinB (nth xs k).margin 0 2048) = false
  · rw [if_pos e] at h; omega
  · rw [if_neg e] at h
    simp only [Bool.not_eq_false, Bool.and_eq_true] at e
    obtain ⟨⟨⟨e1, e2⟩, e3⟩, _⟩ := e
    by_cases ho : 0 < k ∧ (nth xs k).day ≤ (nth xs (k - 1)).day
    · rw [if_pos ho] at h; omega
    · rw [if_neg ho] at h
      by_cases hl : 400 < (nth xs k).day - (nth xs 0).day
      · rw [if_pos hl] at h; omega
      · exact ⟨withinB_true.1 e1, withinB_true.1 e2, withinB_true.1 e3, fun hk => by
          rcases Int.lt_or_le (nth xs (k - 1)).day (nth xs k).day with h' | h'
          · exact h'
          · exact absurd ⟨hk, h'⟩ ho, by omega⟩
theorem days_up {xs : List Epoch} (h : ∀ k, k < xs.length → epochErr xs k = 0) : ∀ k, k < xs.length → (nth xs 0).day ≤ (nth xs k).day
  | 0, _ => Int.le_refl _
  | k + 1, hk => by
    have h1 := days_up h k (by omega)
    have h2 := (epoch_small (h (k + 1) hk)).2.2.2.1 (by omega)
    simp only [Nat.add_sub_cancel] at h2
    omega
theorem rows_small {xs : List Epoch} (h : ∀ k, k < xs.length → epochErr xs k = 0) (i : Nat) (hi : i < xs.length) : SmallRow (nth (rowsL xs) i) (nth (phasesL xs) i) := by
  have e := epoch_small (h i hi)
  have u := days_up h i hi
  rw [rowsL, phasesL, nth_range _ hi, nth_range _ hi]
  unfold SmallRow rowAt
  dsimp only
  omega

set_option maxRecDepth 100000 in
set_option maxHeartbeats 2000000 in
theorem open_bad (nm : ByteArray) (A : Option Addr) (n c : Nat) (xs : List Epoch) (w : World) (hnm : nm.size ≤ maxLen) (hn : xs.length = n) (hm : n ≤ maxLen) (hS : SliceAt w A 4 Epoch.enc xs) (hb : seriesErr nm xs ≠ 0) :
    Calls Try.prog 33 #[.agg #[.string nm, .slice A n c]] w (OpenPost (fun _ => 0) (seriesErr nm xs) w) := by
  have hbb : (seriesErr nm xs != 0) = true := by simpa using hb
  have HC := Lib.hid (fun W (h : Below w.heap.size w W) => series_CheckSeries nm A n c xs W hnm hn hm (hS.below h))
  clear hn hS hb
  obtain ⟨k0, k1, k2, hB0, hz⟩ := blocks3 w #[.string nm, .slice A n c] #[.slice none 0 0, .slice none 0 0] (ints12 fun _ => 0) 24 62 66
  go_enter Try.func33, Try.ntmps33
  go_wp2_with fail
  refine (HC.out _ hB0).mono ?_
  rintro e w1 ⟨rfl, hB1⟩
  replace k1 := k1.below hB1 k1.lt
  replace k2 := k2.below hB1 k2.lt
  have hB := hB0.trans (hB1.mono hB0.size)
  have q1 := cells2 k1
  obtain ⟨p0, p1⟩ := q1
  obtain ⟨r0, r1, r2, r3, r4, r5, r6, r7, r8, r9, r10, r11⟩ := cells12 k2
  have f1 := k1.frozen
  have f2 := k2.frozen
  clear hB0 hB1 hz k0
  go_wp2
  refine bodyPost_ret (v := .tuple #[.agg #[.slice none 0 0, .slice none 0 0], .agg (ints12 fun _ => 0), .int .i64 (seriesErr nm xs)]) (by simp [results, Try.results33, go_sem, ints12, p0, p1, r0, r1, r2, r3, r4, r5, r6, r7, r8, r9, r10, r11]) rfl ?_
  refine ⟨_, _, _, _, _, _, rfl, ?_⟩
  iterate 14 refine Below.setCell ?_ (by simp; try omega) _
  exact hB

set_option maxRecDepth 100000 in
set_option maxHeartbeats 4000000 in
theorem open_ok (nm : ByteArray) (A : Option Addr) (n c : Nat) (xs : List Epoch) (w : World) (hnm : nm.size ≤ maxLen) (hn : xs.length = n) (hS : SliceAt w A 4 Epoch.enc xs) (hb : seriesErr nm xs = 0) :
    Calls Try.prog 33 #[.agg #[.string nm, .slice A n c]] w (OpenPost (normN xs) 0 w) := by
  obtain ⟨_, h0, h20, hep⟩ := series_days hb
  have HC := Lib.hid (fun W (h : Below w.heap.size w W) => series_CheckSeries nm A n c xs W hnm hn (by unfold maxLen; omega) (hS.below h))
  have HR := Lib.hid (fun W (h : Below w.heap.size w W) => rowsOf_any nm A n c xs W hn (by omega) (fun k hk => (epoch_small (hep k (by omega))).1) (hS.below h))
  have HM := Lib.hid (fun W A1 A2 c1 c2 (h1 : SliceAt W A1 3 Row3.enc (rowsL xs)) (h2 : SliceAt W A2 1 encI (phasesL xs)) => by
    have := series_normal A1 A2 n c1 c2 (rowsL xs) (phasesL xs) W (by simp [rowsL, hn]) (by simp [phasesL, hn]) (by omega) (fun i hi => rows_small hep i (by omega)) h1 h2
    unfold ints12 at this
    exact this)
  have HE := Lib.hid hb
  have HN := Lib.hid hn
  clear hn hS hb hep h0 h20
  obtain ⟨k0, k1, k2, hB0, hz⟩ := blocks3 w #[.string nm, .slice A n c] #[.slice none 0 0, .slice none 0 0] (ints12 fun _ => 0) 24 62 66
  go_enter Try.func33, Try.ntmps33
  go_wp2_with fail
  refine (HC.out _ hB0).mono ?_
  rw [HE.out]
  rintro e w1 ⟨rfl, hB1⟩
  replace k0 := k0.below hB1 k0.lt
  replace k1 := k1.below hB1 k1.lt
  replace k2 := k2.below hB1 k2.lt
  have hB := hB0.trans (hB1.mono hB0.size)
  have q0 := cells2 k0
  obtain ⟨o0, o1⟩ := q0
  clear hB0 hB1 hz
  go_wp2_with fail
  refine (HR.out _ hB).mono ?_
  rintro e w2 ⟨A1, c1, A2, c2, rfl, s1, s2, hB2⟩
  replace k1 := k1.below hB2 k1.lt
  replace k2 := k2.below hB2 k2.lt
  replace hB := hB.trans (hB2.mono hB.size)
  clear o0 o1 hB2 k0
  go_wp2
  have k3 := Blk.new w2 62 #[.slice A1 n c1, .slice A2 n c2]
  have h3 : Below w.heap.size w (w2.alloc (.cells #[.slice A1 n c1, .slice A2 n c2] 62)) := hB.alloc hB.size _
  replace s1 := s1.alloc (.cells #[.slice A1 n c1, .slice A2 n c2] 62)
  replace s2 := s2.alloc (.cells #[.slice A1 n c1, .slice A2 n c2] 62)
  replace k1 := k1.alloc (.cells #[.slice A1 n c1, .slice A2 n c2] 62)
  replace k2 := k2.alloc (.cells #[.slice A1 n c1, .slice A2 n c2] 62)
  generalize w2.heap.size = X at *
  generalize w2.alloc (.cells #[.slice A1 n c1, .slice A2 n c2] 62) = W at *
  clear hB
  have z0 : ∀ d os, (grow (redrawn W d) os).cell? ⟨X, 0, none⟩ = some (.slice A1 n c1) := fun d os => cell_regrown (k3.cell 0) d os
  have z1 : ∀ d os, (grow (redrawn W d) os).cell? ⟨X, 1, none⟩ = some (.slice A2 n c2) := fun d os => cell_regrown (k3.cell 1) d os
  refine wp_region_quiet_tail 3 (by kernel_rfl) (by kernel_rfl) ?_
  simp only [List.take_succ_cons, List.take_zero, List.drop_succ_cons, List.drop_zero]
  repeat (go_big_quiet_step (exact Calls.regrown_of (HM.out _ _ _ _ _ (s1.below (below_regrown _ _ _)) (s2.below (below_regrown _ _ _)))))
  refine wpQuiet_nil ?_
  intro V hV
  obtain ⟨⟨d, os⟩, rfl⟩ := hV
  have hb := below_regrown W d os
  replace k1 := k1.below hb k1.lt
  replace k2 := k2.below hb k2.lt
  replace h3 := h3.trans (hb.mono h3.size)
  clear z0 z1 hb
  generalize grow (redrawn W d) os = V at *
  obtain ⟨p0, p1⟩ := cells2 k1
  obtain ⟨r0, r1, r2, r3, r4, r5, r6, r7, r8, r9, r10, r11⟩ := cells12 k2
  have f1 := k1.frozen
  have f2 := k2.frozen
  clear s1 s2
  go_wp2
  refine bodyPost_ret (v := .tuple #[.agg #[.slice A1 n c1, .slice A2 n c2], .agg (ints12 (stN (rowsL xs) (phasesL xs) n)), .int .i64 0]) (by simp [results, Try.results33, go_sem, ints12, p0, p1, r0, r1, r2, r3, r4, r5, r6, r7, r8, r9, r10, r11]) rfl ?_
  refine ⟨_, _, _, _, _, _, by rw [normN, HN.out], ?_⟩
  iterate 14 refine Below.setCell ?_ (by simp; try omega) _
  exact h3
end Go.Proofs.Ytncmdjhdfhhkjaa
