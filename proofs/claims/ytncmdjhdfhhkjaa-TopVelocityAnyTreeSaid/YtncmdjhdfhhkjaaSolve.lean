/- 'Solve' returns the fit of a right series, or the error. -/
import Derived.Test.YtncmdjhdfhhkjaaSolveLaw
import Derived.Test.YtncmdjhdfhhkjaaRegionB
namespace Go.Proofs.Ytncmdjhdfhhkjaa
open Go.RowKit Go.Sort

def SolvePost (v : Value) (err : Int) (w : World) (e : Ending) (w' : World) : Prop := e = .returned (.tuple #[v, .int .i64 err]) ∧ Below w.heap.size w w'

set_option maxRecDepth 100000 in
set_option maxHeartbeats 4000000 in
theorem solve_bad (nm : ByteArray) (A : Option Addr) (n c : Nat) (f : Nat → Int) (err : Int) (w : World) (hs : ∀ W, Below w.heap.size w W → Calls Try.prog 19 #[.agg #[.string nm, .slice A n c]] W (OpenPost f err W)) (he : err ≠ 0) :
    Calls Try.prog 7 #[.agg #[.string nm, .slice A n c]] w (SolvePost zeros6 err w) := by
  have hee : (err != 0) = true := by simpa using he
  clear he
  have HS := Lib.hid hs
  clear hs
  obtain ⟨k0, k1, hB0, hz⟩ := blocks2 w #[.string nm, .slice A n c] #[.int .i64 0, .int .i64 0, .int .i64 0, .int .i64 0, .int .i64 0, .int .i64 0] 24 33
  go_enter Try.func7, Try.ntmps7
  go_wp2_with fail
  refine (HS.out _ hB0).mono ?_
  rintro e w1 ⟨A1, n1, c1, A2, n2, c2, rfl, hB1⟩
  replace k1 := k1.below hB1 k1.lt
  have hB := hB0.trans (hB1.mono hB0.size)
  have hz1 : w.heap.size + 1 < w1.heap.size := k1.lt
  clear hB0 hB1 hz k0
  unfold ints12
  obtain ⟨j0, j1, hJ, hjz⟩ := blocks2 w1 #[.slice A1 n1 c1, .slice A2 n2 c2] #[.int .i64 (f 0), .int .i64 (f 1), .int .i64 (f 2), .int .i64 (f 3), .int .i64 (f 4), .int .i64 (f 5), .int .i64 (f 6), .int .i64 (f 7), .int .i64 (f 8), .int .i64 (f 9), .int .i64 (f 10), .int .i64 (f 11)] 62 66
  replace k1 := k1.below hJ k1.lt
  replace hB := hB.trans (hJ.mono hB.size)
  have r0 : ((w1.alloc (.cells #[.slice A1 n1 c1, .slice A2 n2 c2] 62)).alloc (.cells #[.int .i64 (f 0), .int .i64 (f 1), .int .i64 (f 2), .int .i64 (f 3), .int .i64 (f 4), .int .i64 (f 5), .int .i64 (f 6), .int .i64 (f 7), .int .i64 (f 8), .int .i64 (f 9), .int .i64 (f 10), .int .i64 (f 11)] 66)).cell? ⟨w.heap.size + 1, 0, none⟩ = some (.int .i64 0) := k1.cell 0
  have r1 : ((w1.alloc (.cells #[.slice A1 n1 c1, .slice A2 n2 c2] 62)).alloc (.cells #[.int .i64 (f 0), .int .i64 (f 1), .int .i64 (f 2), .int .i64 (f 3), .int .i64 (f 4), .int .i64 (f 5), .int .i64 (f 6), .int .i64 (f 7), .int .i64 (f 8), .int .i64 (f 9), .int .i64 (f 10), .int .i64 (f 11)] 66)).cell? ⟨w.heap.size + 1, 1, none⟩ = some (.int .i64 0) := k1.cell 1
  have r2 : ((w1.alloc (.cells #[.slice A1 n1 c1, .slice A2 n2 c2] 62)).alloc (.cells #[.int .i64 (f 0), .int .i64 (f 1), .int .i64 (f 2), .int .i64 (f 3), .int .i64 (f 4), .int .i64 (f 5), .int .i64 (f 6), .int .i64 (f 7), .int .i64 (f 8), .int .i64 (f 9), .int .i64 (f 10), .int .i64 (f 11)] 66)).cell? ⟨w.heap.size + 1, 2, none⟩ = some (.int .i64 0) := k1.cell 2
  have r3 : ((w1.alloc (.cells #[.slice A1 n1 c1, .slice A2 n2 c2] 62)).alloc (.cells #[.int .i64 (f 0), .int .i64 (f 1), .int .i64 (f 2), .int .i64 (f 3), .int .i64 (f 4), .int .i64 (f 5), .int .i64 (f 6), .int .i64 (f 7), .int .i64 (f 8), .int .i64 (f 9), .int .i64 (f 10), .int .i64 (f 11)] 66)).cell? ⟨w.heap.size + 1, 3, none⟩ = some (.int .i64 0) := k1.cell 3
  have r4 : ((w1.alloc (.cells #[.slice A1 n1 c1, .slice A2 n2 c2] 62)).alloc (.cells #[.int .i64 (f 0), .int .i64 (f 1), .int .i64 (f 2), .int .i64 (f 3), .int .i64 (f 4), .int .i64 (f 5), .int .i64 (f 6), .int .i64 (f 7), .int .i64 (f 8), .int .i64 (f 9), .int .i64 (f 10), .int .i64 (f 11)] 66)).cell? ⟨w.heap.size + 1, 4, none⟩ = some (.int .i64 0) := k1.cell 4
  have r5 : ((w1.alloc (.cells #[.slice A1 n1 c1, .slice A2 n2 c2] 62)).alloc (.cells #[.int .i64 (f 0), .int .i64 (f 1), .int .i64 (f 2), .int .i64 (f 3), .int .i64 (f 4), .int .i64 (f 5), .int .i64 (f 6), .int .i64 (f 7), .int .i64 (f 8), .int .i64 (f 9), .int .i64 (f 10), .int .i64 (f 11)] 66)).cell? ⟨w.heap.size + 1, 5, none⟩ = some (.int .i64 0) := k1.cell 5
  have rf := k1.frozen
  have hz2 : w.heap.size + 1 ≠ w1.heap.size := by omega
  go_wp2
  refine bodyPost_ret (v := .tuple #[.agg #[.int .i64 0, .int .i64 0, .int .i64 0, .int .i64 0, .int .i64 0, .int .i64 0], .int .i64 err]) (by simp [results, Try.results7, go_sem, r0, r1, r2, r3, r4, r5]) rfl ⟨rfl, ?_⟩
  iterate 6 refine Below.setCell ?_ (by simp; try omega) _
  exact hB

theorem three_at {w : World} {g : Nat} {t : TypeId} {x y z : Int} (h : Blk w g t #[.int .i64 x, .int .i64 y, .int .i64 z]) : SliceAt w (some ⟨g, 0, none⟩) 1 encI [x, y, z] := fun _ =>
  ⟨g, 0, rfl, h.lt, fun k hk j u hu => by
    have hk3 : k < 3 := hk
    rw [nth_eq hk] at hu
    have hj : j = 0 := by have := (List.getElem?_eq_some_iff.1 hu).1; simp [encI] at this; omega
    subst hj
    rw [h.cell]
    rcases (by omega : k = 0 ∨ k = 1 ∨ k = 2) with rfl | rfl | rfl <;> simpa [encI] using hu⟩
theorem nth3_0 (x y z : Int) : nth [x, y, z] 0 = x := rfl
theorem nth3_1 (x y z : Int) : nth [x, y, z] 1 = y := rfl
theorem nth3_2 (x y z : Int) : nth [x, y, z] 2 = z := rfl
theorem fit_bounds {f : Nat → Int} (h : NormCap f) : ∀ k, k < 3 → -4611686018427387904 ≤ nth [wrap64 (fitN f 0), wrap64 (fitN f 1), wrap64 (fitN f 2)] k ∧ nth [wrap64 (fitN f 0), wrap64 (fitN f 1), wrap64 (fitN f 2)] k ≤ 4611686018427387904 := by
  intro k hk
  rcases (by omega : k = 0 ∨ k = 1 ∨ k = 2) with rfl | rfl | rfl
  · rw [nth3_0, fit_exact h 0 (by omega)]; have := fit_cap h 0 (by omega); omega
  · rw [nth3_1, fit_exact h 1 (by omega)]; have := fit_cap h 1 (by omega); omega
  · rw [nth3_2, fit_exact h 2 (by omega)]; have := fit_cap h 2 (by omega); omega
theorem det_bounds {f : Nat → Int} (h : NormCap f) : -4611686018427387904 ≤ wrap64 (detN f) ∧ wrap64 (detN f) ≤ 4611686018427387904 := by rw [det_exact h]; have := det_cap h; omega

set_option maxRecDepth 100000 in
set_option maxHeartbeats 4000000 in
theorem solve_large (nm : ByteArray) (A : Option Addr) (n c : Nat) (f : Nat → Int) (k0 : Nat) (w : World) (hs : ∀ W, Below w.heap.size w W → Calls Try.prog 19 #[.agg #[.string nm, .slice A n c]] W (OpenPost f 0 W)) (hcap : NormCap f) (hd : detN f ≠ 0) (hk0 : k0 < 3) (hok : ∀ k, k < k0 → fracOk (nth [wrap64 (fitN f 0), wrap64 (fitN f 1), wrap64 (fitN f 2)] k) (wrap64 (detN f)) = true) (hno : ¬ fracOk (nth [wrap64 (fitN f 0), wrap64 (fitN f 1), wrap64 (fitN f 2)] k0) (wrap64 (detN f)) = true) :
    Calls Try.prog 7 #[.agg #[.string nm, .slice A n c]] w (SolvePost zeros6 8 w) := by
  have HF := Lib.hid (fun W => by have := fit_any f W; unfold ints12 at this; exact this)
  have HD := Lib.hid (fun W => by have := det_any f W; unfold ints12 at this; exact this)
  have HC := Lib.hid hcap
  have HND := Lib.hid hd
  have HNO := Lib.hid hno
  have HOK := Lib.hid hok
  clear hcap hd hno hok
  have HS := Lib.hid hs
  clear hs
  obtain ⟨k0, k1, hB0, hz⟩ := blocks2 w #[.string nm, .slice A n c] #[.int .i64 0, .int .i64 0, .int .i64 0, .int .i64 0, .int .i64 0, .int .i64 0] 24 33
  go_enter Try.func7, Try.ntmps7
  go_wp2_with fail
  refine (HS.out _ hB0).mono ?_
  rintro e w1 ⟨A1, n1, c1, A2, n2, c2, rfl, hB1⟩
  replace k1 := k1.below hB1 k1.lt
  have hB := hB0.trans (hB1.mono hB0.size)
  have hz1 : w.heap.size + 1 < w1.heap.size := k1.lt
  clear hB0 hB1 hz k0
  unfold ints12
  obtain ⟨j0, j1, hJ, hjz⟩ := blocks2 w1 #[.slice A1 n1 c1, .slice A2 n2 c2] #[.int .i64 (f 0), .int .i64 (f 1), .int .i64 (f 2), .int .i64 (f 3), .int .i64 (f 4), .int .i64 (f 5), .int .i64 (f 6), .int .i64 (f 7), .int .i64 (f 8), .int .i64 (f 9), .int .i64 (f 10), .int .i64 (f 11)] 62 66
  replace k1 := k1.below hJ k1.lt
  replace hB := hB.trans (hJ.mono hB.size)
  have s0 := cells12 (f := f) j1
  obtain ⟨s0, s1, s2, s3, s4, s5, s6, s7, s8, s9, s10, s11⟩ := s0
  go_wp2_with fail
  refine (HF.out _).mono ?_
  rintro e w2 ⟨rfl, hB2⟩
  replace k1 := k1.below hB2 k1.lt
  replace j1 := j1.below hB2 j1.lt
  replace hB := hB.trans (hB2.mono hB.size)
  clear s0 s1 s2 s3 s4 s5 s6 s7 s8 s9 s10 s11 hB2 hJ hjz j0
  generalize w1.heap.size = X at *
  unfold ints3
  go_wp2
  have k2 := Blk.new w2 63 #[.int .i64 (wrap64 (fitN f 0)), .int .i64 (wrap64 (fitN f 1)), .int .i64 (wrap64 (fitN f 2))]
  replace k1 := k1.alloc (.cells #[.int .i64 (wrap64 (fitN f 0)), .int .i64 (wrap64 (fitN f 1)), .int .i64 (wrap64 (fitN f 2))] 63)
  replace j1 := j1.alloc (.cells #[.int .i64 (wrap64 (fitN f 0)), .int .i64 (wrap64 (fitN f 1)), .int .i64 (wrap64 (fitN f 2))] 63)
  replace hB := hB.alloc hB.size (.cells #[.int .i64 (wrap64 (fitN f 0)), .int .i64 (wrap64 (fitN f 1)), .int .i64 (wrap64 (fitN f 2))] 63)
  generalize w2.heap.size = Y at *
  generalize w2.alloc (.cells #[.int .i64 (wrap64 (fitN f 0)), .int .i64 (wrap64 (fitN f 1)), .int .i64 (wrap64 (fitN f 2))] 63) = W at *
  have q0 : ∀ d os, (grow (redrawn W d) os).cell? ⟨X + 1, 0, none⟩ = some (.int .i64 (f 0)) := fun d os => cell_regrown (j1.cell 0) d os
  have q1 : ∀ d os, (grow (redrawn W d) os).cell? ⟨X + 1, 1, none⟩ = some (.int .i64 (f 1)) := fun d os => cell_regrown (j1.cell 1) d os
  have q2 : ∀ d os, (grow (redrawn W d) os).cell? ⟨X + 1, 2, none⟩ = some (.int .i64 (f 2)) := fun d os => cell_regrown (j1.cell 2) d os
  have q3 : ∀ d os, (grow (redrawn W d) os).cell? ⟨X + 1, 3, none⟩ = some (.int .i64 (f 3)) := fun d os => cell_regrown (j1.cell 3) d os
  have q4 : ∀ d os, (grow (redrawn W d) os).cell? ⟨X + 1, 4, none⟩ = some (.int .i64 (f 4)) := fun d os => cell_regrown (j1.cell 4) d os
  have q5 : ∀ d os, (grow (redrawn W d) os).cell? ⟨X + 1, 5, none⟩ = some (.int .i64 (f 5)) := fun d os => cell_regrown (j1.cell 5) d os
  have q6 : ∀ d os, (grow (redrawn W d) os).cell? ⟨X + 1, 6, none⟩ = some (.int .i64 (f 6)) := fun d os => cell_regrown (j1.cell 6) d os
  have q7 : ∀ d os, (grow (redrawn W d) os).cell? ⟨X + 1, 7, none⟩ = some (.int .i64 (f 7)) := fun d os => cell_regrown (j1.cell 7) d os
  have q8 : ∀ d os, (grow (redrawn W d) os).cell? ⟨X + 1, 8, none⟩ = some (.int .i64 (f 8)) := fun d os => cell_regrown (j1.cell 8) d os
  have q9 : ∀ d os, (grow (redrawn W d) os).cell? ⟨X + 1, 9, none⟩ = some (.int .i64 (f 9)) := fun d os => cell_regrown (j1.cell 9) d os
  have q10 : ∀ d os, (grow (redrawn W d) os).cell? ⟨X + 1, 10, none⟩ = some (.int .i64 (f 10)) := fun d os => cell_regrown (j1.cell 10) d os
  have q11 : ∀ d os, (grow (redrawn W d) os).cell? ⟨X + 1, 11, none⟩ = some (.int .i64 (f 11)) := fun d os => cell_regrown (j1.cell 11) d os
  refine region_head 3 (by kernel_rfl) (by kernel_rfl) ?_
  simp only [List.take_succ_cons, List.take_zero]
  repeat (go_big_quiet_step (exact Calls.regrown_of (HD.out _)))
  refine wpQuiet_nil ?_
  intro V hV
  obtain ⟨⟨d, os⟩, rfl⟩ := hV
  have hb := below_regrown W d os
  replace k1 := k1.below hb k1.lt
  replace k2 := k2.below hb k2.lt
  replace hB := hB.trans (hb.mono hB.size)
  clear q0 q1 q2 q3 q4 q5 q6 q7 q8 q9 q10 q11 hb j1
  generalize grow (redrawn W d) os = V at *
  have hv0 : w.heap.size + 1 < V.heap.size := k1.lt
  have hv1 := k2.lt
  refine any_one (i := 3) (by kernel_rfl) rfl rfl (fun K hK => ?_)
  go_simp
  refine (fracs_no _ [wrap64 (fitN f 0), wrap64 (fitN f 1), wrap64 (fitN f 2)] _ 3 _ k0 _ rfl (by omega) (fit_bounds HC.out) (det_bounds HC.out) (by rw [det_exact HC.out]; exact HND.out) (three_at k2) hk0 HOK.out HNO.out).mono ?_
  rintro e w3 ⟨rfl, hB3⟩
  replace k1 := k1.below hB3 k1.lt
  replace hB := hB.trans (hB3.mono hB.size)
  clear k2 hB3
  refine hK _ _ ?_
  clear hK K
  refine any_quiet (n := 4) (by kernel_rfl) ?_
  simp only [List.drop_succ_cons, List.drop_zero]
  repeat (go_big_quiet_step (fail))
  refine wpQuiet_nil ?_
  intro V2 hV2
  obtain ⟨nq, rfl⟩ := hV2
  replace hB := below_drewN hB nq
  have r0 : w3.cell? ⟨w.heap.size + 1, 0, none⟩ = some (.int .i64 0) := k1.cell 0
  have r1 : w3.cell? ⟨w.heap.size + 1, 1, none⟩ = some (.int .i64 0) := k1.cell 1
  have r2 : w3.cell? ⟨w.heap.size + 1, 2, none⟩ = some (.int .i64 0) := k1.cell 2
  have r3 : w3.cell? ⟨w.heap.size + 1, 3, none⟩ = some (.int .i64 0) := k1.cell 3
  have r4 : w3.cell? ⟨w.heap.size + 1, 4, none⟩ = some (.int .i64 0) := k1.cell 4
  have r5 : w3.cell? ⟨w.heap.size + 1, 5, none⟩ = some (.int .i64 0) := k1.cell 5
  have rf := k1.frozen
  go_wp2
  refine bodyPost_ret (v := .tuple #[.agg #[.int .i64 0, .int .i64 0, .int .i64 0, .int .i64 0, .int .i64 0, .int .i64 0], .int .i64 8]) (by simp [results, Try.results7, go_sem, r0, r1, r2, r3, r4, r5]) rfl ⟨rfl, ?_⟩
  iterate 6 refine Below.setCell ?_ (by simp; try omega) _
  exact hB

set_option maxRecDepth 100000 in
set_option maxHeartbeats 4000000 in
theorem solve_ok (nm : ByteArray) (A : Option Addr) (n c : Nat) (f : Nat → Int)  (w : World) (hs : ∀ W, Below w.heap.size w W → Calls Try.prog 19 #[.agg #[.string nm, .slice A n c]] W (OpenPost f 0 W)) (hcap : NormCap f) (hd : detN f ≠ 0) (hok : ∀ k, k < 3 → fracOk (nth [wrap64 (fitN f 0), wrap64 (fitN f 1), wrap64 (fitN f 2)] k) (wrap64 (detN f)) = true) :
    Calls Try.prog 7 #[.agg #[.string nm, .slice A n c]] w (SolvePost (.agg #[.int .i64 (fnum (wrap64 (fitN f 0)) (wrap64 (detN f))), .int .i64 (fden (wrap64 (fitN f 0)) (wrap64 (detN f))), .int .i64 (fnum (wrap64 (fitN f 1)) (wrap64 (detN f))), .int .i64 (fden (wrap64 (fitN f 1)) (wrap64 (detN f))), .int .i64 (fnum (wrap64 (fitN f 2)) (wrap64 (detN f))), .int .i64 (fden (wrap64 (fitN f 2)) (wrap64 (detN f)))]) 0 w) := by
  have HF := Lib.hid (fun W => by have := fit_any f W; unfold ints12 at this; exact this)
  have HD := Lib.hid (fun W => by have := det_any f W; unfold ints12 at this; exact this)
  have HC := Lib.hid hcap
  have HND := Lib.hid hd
  have HOK := Lib.hid hok
  clear hcap hd hok
  have HS := Lib.hid hs
  clear hs
  obtain ⟨k0, k1, hB0, hz⟩ := blocks2 w #[.string nm, .slice A n c] #[.int .i64 0, .int .i64 0, .int .i64 0, .int .i64 0, .int .i64 0, .int .i64 0] 24 33
  go_enter Try.func7, Try.ntmps7
  go_wp2_with fail
  refine (HS.out _ hB0).mono ?_
  rintro e w1 ⟨A1, n1, c1, A2, n2, c2, rfl, hB1⟩
  replace k1 := k1.below hB1 k1.lt
  have hB := hB0.trans (hB1.mono hB0.size)
  have hz1 : w.heap.size + 1 < w1.heap.size := k1.lt
  clear hB0 hB1 hz k0
  unfold ints12
  obtain ⟨j0, j1, hJ, hjz⟩ := blocks2 w1 #[.slice A1 n1 c1, .slice A2 n2 c2] #[.int .i64 (f 0), .int .i64 (f 1), .int .i64 (f 2), .int .i64 (f 3), .int .i64 (f 4), .int .i64 (f 5), .int .i64 (f 6), .int .i64 (f 7), .int .i64 (f 8), .int .i64 (f 9), .int .i64 (f 10), .int .i64 (f 11)] 62 66
  replace k1 := k1.below hJ k1.lt
  replace hB := hB.trans (hJ.mono hB.size)
  have s0 := cells12 (f := f) j1
  obtain ⟨s0, s1, s2, s3, s4, s5, s6, s7, s8, s9, s10, s11⟩ := s0
  go_wp2_with fail
  refine (HF.out _).mono ?_
  rintro e w2 ⟨rfl, hB2⟩
  replace k1 := k1.below hB2 k1.lt
  replace j1 := j1.below hB2 j1.lt
  replace hB := hB.trans (hB2.mono hB.size)
  clear s0 s1 s2 s3 s4 s5 s6 s7 s8 s9 s10 s11 hB2 hJ hjz j0
  generalize w1.heap.size = X at *
  unfold ints3
  go_wp2
  have k2 := Blk.new w2 63 #[.int .i64 (wrap64 (fitN f 0)), .int .i64 (wrap64 (fitN f 1)), .int .i64 (wrap64 (fitN f 2))]
  replace k1 := k1.alloc (.cells #[.int .i64 (wrap64 (fitN f 0)), .int .i64 (wrap64 (fitN f 1)), .int .i64 (wrap64 (fitN f 2))] 63)
  replace j1 := j1.alloc (.cells #[.int .i64 (wrap64 (fitN f 0)), .int .i64 (wrap64 (fitN f 1)), .int .i64 (wrap64 (fitN f 2))] 63)
  replace hB := hB.alloc hB.size (.cells #[.int .i64 (wrap64 (fitN f 0)), .int .i64 (wrap64 (fitN f 1)), .int .i64 (wrap64 (fitN f 2))] 63)
  generalize w2.heap.size = Y at *
  generalize w2.alloc (.cells #[.int .i64 (wrap64 (fitN f 0)), .int .i64 (wrap64 (fitN f 1)), .int .i64 (wrap64 (fitN f 2))] 63) = W at *
  have q0 : ∀ d os, (grow (redrawn W d) os).cell? ⟨X + 1, 0, none⟩ = some (.int .i64 (f 0)) := fun d os => cell_regrown (j1.cell 0) d os
  have q1 : ∀ d os, (grow (redrawn W d) os).cell? ⟨X + 1, 1, none⟩ = some (.int .i64 (f 1)) := fun d os => cell_regrown (j1.cell 1) d os
  have q2 : ∀ d os, (grow (redrawn W d) os).cell? ⟨X + 1, 2, none⟩ = some (.int .i64 (f 2)) := fun d os => cell_regrown (j1.cell 2) d os
  have q3 : ∀ d os, (grow (redrawn W d) os).cell? ⟨X + 1, 3, none⟩ = some (.int .i64 (f 3)) := fun d os => cell_regrown (j1.cell 3) d os
  have q4 : ∀ d os, (grow (redrawn W d) os).cell? ⟨X + 1, 4, none⟩ = some (.int .i64 (f 4)) := fun d os => cell_regrown (j1.cell 4) d os
  have q5 : ∀ d os, (grow (redrawn W d) os).cell? ⟨X + 1, 5, none⟩ = some (.int .i64 (f 5)) := fun d os => cell_regrown (j1.cell 5) d os
  have q6 : ∀ d os, (grow (redrawn W d) os).cell? ⟨X + 1, 6, none⟩ = some (.int .i64 (f 6)) := fun d os => cell_regrown (j1.cell 6) d os
  have q7 : ∀ d os, (grow (redrawn W d) os).cell? ⟨X + 1, 7, none⟩ = some (.int .i64 (f 7)) := fun d os => cell_regrown (j1.cell 7) d os
  have q8 : ∀ d os, (grow (redrawn W d) os).cell? ⟨X + 1, 8, none⟩ = some (.int .i64 (f 8)) := fun d os => cell_regrown (j1.cell 8) d os
  have q9 : ∀ d os, (grow (redrawn W d) os).cell? ⟨X + 1, 9, none⟩ = some (.int .i64 (f 9)) := fun d os => cell_regrown (j1.cell 9) d os
  have q10 : ∀ d os, (grow (redrawn W d) os).cell? ⟨X + 1, 10, none⟩ = some (.int .i64 (f 10)) := fun d os => cell_regrown (j1.cell 10) d os
  have q11 : ∀ d os, (grow (redrawn W d) os).cell? ⟨X + 1, 11, none⟩ = some (.int .i64 (f 11)) := fun d os => cell_regrown (j1.cell 11) d os
  refine region_head 3 (by kernel_rfl) (by kernel_rfl) ?_
  simp only [List.take_succ_cons, List.take_zero]
  repeat (go_big_quiet_step (exact Calls.regrown_of (HD.out _)))
  refine wpQuiet_nil ?_
  intro V hV
  obtain ⟨⟨d, os⟩, rfl⟩ := hV
  have hb := below_regrown W d os
  replace k1 := k1.below hb k1.lt
  replace k2 := k2.below hb k2.lt
  replace hB := hB.trans (hb.mono hB.size)
  clear q0 q1 q2 q3 q4 q5 q6 q7 q8 q9 q10 q11 hb j1
  generalize grow (redrawn W d) os = V at *
  have hv0 : w.heap.size + 1 < V.heap.size := k1.lt
  have hv1 := k2.lt
  refine any_one (i := 3) (by kernel_rfl) rfl rfl (fun K hK => ?_)
  go_simp
  refine (fracs_yes _ [wrap64 (fitN f 0), wrap64 (fitN f 1), wrap64 (fitN f 2)] _ 3 _ _ rfl (by omega) (fit_bounds HC.out) (det_bounds HC.out) (by rw [det_exact HC.out]; exact HND.out) (three_at k2) HOK.out).mono ?_
  rintro e w3 ⟨v, rfl, hown, hB3⟩
  obtain ⟨g, cap, rfl, hg, hglt⟩ := hown.form (by omega)
  have hgne : g ≠ w.heap.size + 1 := by omega
  replace k1 := k1.below hB3 k1.lt
  replace hB := hB.trans (hB3.mono hB.size)
  clear k2 hB3
  refine hK _ _ ?_
  clear hK K
  refine any_quiet (n := 4) (by kernel_rfl) ?_
  simp only [List.drop_succ_cons, List.drop_zero]
  repeat (go_big_quiet_step (fail))
  refine wpQuiet_nil ?_
  intro V2 hV2
  obtain ⟨nq, rfl⟩ := hV2
  replace hB := below_drewN hB nq
  have hsp : ∀ W : World, (Instr.arrayAt 33 (.slice (some ⟨g, 0, none⟩) 3 cap)).run Try.prog W = .ok (.pointer (some ⟨g, 0, none⟩)) W := fun _ => by kernel_rfl
  have z0 : w3.cell? ⟨g, 0, none⟩ = some (.int .i64 (fnum (wrap64 (fitN f 0)) (wrap64 (detN f)))) := hown.cellAt 0 (by omega)
  have z1 : w3.cell? ⟨g, 1, none⟩ = some (.int .i64 (fden (wrap64 (fitN f 0)) (wrap64 (detN f)))) := hown.cellAt 1 (by omega)
  have z2 : w3.cell? ⟨g, 2, none⟩ = some (.int .i64 (fnum (wrap64 (fitN f 1)) (wrap64 (detN f)))) := hown.cellAt 2 (by omega)
  have z3 : w3.cell? ⟨g, 3, none⟩ = some (.int .i64 (fden (wrap64 (fitN f 1)) (wrap64 (detN f)))) := hown.cellAt 3 (by omega)
  have z4 : w3.cell? ⟨g, 4, none⟩ = some (.int .i64 (fnum (wrap64 (fitN f 2)) (wrap64 (detN f)))) := hown.cellAt 4 (by omega)
  have z5 : w3.cell? ⟨g, 5, none⟩ = some (.int .i64 (fden (wrap64 (fitN f 2)) (wrap64 (detN f)))) := hown.cellAt 5 (by omega)
  have r0 : w3.cell? ⟨w.heap.size + 1, 0, none⟩ = some (.int .i64 0) := k1.cell 0
  have r1 : w3.cell? ⟨w.heap.size + 1, 1, none⟩ = some (.int .i64 0) := k1.cell 1
  have r2 : w3.cell? ⟨w.heap.size + 1, 2, none⟩ = some (.int .i64 0) := k1.cell 2
  have r3 : w3.cell? ⟨w.heap.size + 1, 3, none⟩ = some (.int .i64 0) := k1.cell 3
  have r4 : w3.cell? ⟨w.heap.size + 1, 4, none⟩ = some (.int .i64 0) := k1.cell 4
  have r5 : w3.cell? ⟨w.heap.size + 1, 5, none⟩ = some (.int .i64 0) := k1.cell 5
  have rf := k1.frozen
  go_wp2
  refine bodyPost_ret (v := .tuple #[.agg #[.int .i64 (fnum (wrap64 (fitN f 0)) (wrap64 (detN f))), .int .i64 (fden (wrap64 (fitN f 0)) (wrap64 (detN f))), .int .i64 (fnum (wrap64 (fitN f 1)) (wrap64 (detN f))), .int .i64 (fden (wrap64 (fitN f 1)) (wrap64 (detN f))), .int .i64 (fnum (wrap64 (fitN f 2)) (wrap64 (detN f))), .int .i64 (fden (wrap64 (fitN f 2)) (wrap64 (detN f)))], .int .i64 0]) (by simp [results, Try.results7, go_sem, r0, r1, r2, r3, r4, r5]) rfl ⟨rfl, ?_⟩
  iterate 6 refine Below.setCell ?_ (by simp; try omega) _
  exact hB
end Go.Proofs.Ytncmdjhdfhhkjaa
