/- 'solvable': ErrRank where several parameters fit. -/
import Derived.Test.YtncmdjhdfhhkjaaOpen
namespace Go.Proofs.Ytncmdjhdfhhkjaa
open Go.RowKit Go.Sort

set_option maxRecDepth 100000 in
set_option maxHeartbeats 4000000 in
theorem solvable_yes (nm : ByteArray) (A : Option Addr) (n c : Nat) (f : Nat → Int) (w : World)
    (ho : ∀ W, Below w.heap.size w W → Calls Try.prog 33 #[.agg #[.string nm, .slice A n c]] W (OpenPost f 0 W)) (hd : wrap64 (detN f) ≠ 0) :
    Calls Try.prog 19 #[.agg #[.string nm, .slice A n c]] w (OpenPost f 0 w) := by
  have HO := Lib.hid ho
  have HD := Lib.hid (fun W => by have := det_any f W; unfold ints12 at this; exact this)
  clear ho
  obtain ⟨k0, k1, k2, hB0, hz⟩ := blocks3 w #[.string nm, .slice A n c] #[.slice none 0 0, .slice none 0 0] (ints12 fun _ => 0) 24 62 66
  have hdd : (wrap64 (detN f) == 0) = false := by simpa using hd
  clear hd
  go_enter Try.func19, Try.ntmps19
  go_wp2_with fail
  refine (HO.out _ hB0).mono ?_
  rintro e w1 ⟨A1, n1, c1, A2, n2, c2, rfl, hB1⟩
  replace k1 := k1.below hB1 k1.lt
  replace k2 := k2.below hB1 k2.lt
  have hB := hB0.trans (hB1.mono hB0.size)
  have hz1 : w.heap.size + 1 + 1 < w1.heap.size := k2.lt
  clear hB0 hB1 hz k0
  unfold ints12
  obtain ⟨j0, j1, hJ, hjz⟩ := blocks2 w1 #[.slice A1 n1 c1, .slice A2 n2 c2] (ints12 f) 62 66
  go_wp2_with fail
  refine (HD.out _).mono ?_
  rintro e w2 ⟨rfl, hB2⟩
  replace hJ := hJ.trans (hB2.mono hJ.size)
  replace j0 := j0.below hB2 j0.lt
  replace j1 := j1.below hB2 j1.lt
  clear hB2
  replace k1 := k1.below hJ k1.lt
  replace k2 := k2.below hJ k2.lt
  replace hB := hB.trans (hJ.mono hB.size)
  generalize w1.heap.size = X at *
  obtain ⟨u0, u1⟩ := cells2 j0
  obtain ⟨s0, s1, s2, s3, s4, s5, s6, s7, s8, s9, s10, s11⟩ := cells12 j1
  clear hJ hjz
  go_wp2
  obtain ⟨p0, p1⟩ := cells2 k1
  obtain ⟨r0, r1, r2, r3, r4, r5, r6, r7, r8, r9, r10, r11⟩ := cells12 k2
  have f1 := k1.frozen
  have f2 := k2.frozen
  have hx1 : w.heap.size + 1 < X := by omega
  go_region
  go_wp2
  refine bodyPost_ret (v := .tuple #[.agg #[.slice A1 n1 c1, .slice A2 n2 c2], .agg (ints12 f), .int .i64 0]) (by simp [results, Try.results19, go_sem, ints12, p0, p1, r0, r1, r2, r3, r4, r5, r6, r7, r8, r9, r10, r11]) rfl ?_
  refine ⟨_, _, _, _, _, _, rfl, ?_⟩
  refine Below.drew ?_
  iterate 14 refine Below.setCell ?_ (by simp; try omega) _
  exact hB

set_option maxRecDepth 100000 in
set_option maxHeartbeats 4000000 in
theorem solvable_rank (nm : ByteArray) (A : Option Addr) (n c : Nat) (f : Nat → Int) (w : World)
    (ho : ∀ W, Below w.heap.size w W → Calls Try.prog 33 #[.agg #[.string nm, .slice A n c]] W (OpenPost f 0 W)) (hd : wrap64 (detN f) = 0) :
    Calls Try.prog 19 #[.agg #[.string nm, .slice A n c]] w (OpenPost f 30 w) := by
  have HO := Lib.hid ho
  have HD := Lib.hid (fun W => by have := det_any f W; unfold ints12 at this; exact this)
  clear ho
  obtain ⟨k0, k1, k2, hB0, hz⟩ := blocks3 w #[.string nm, .slice A n c] #[.slice none 0 0, .slice none 0 0] (ints12 fun _ => 0) 24 62 66
  have hdd : (wrap64 (detN f) == 0) = true := by simpa using hd
  clear hd
  go_enter Try.func19, Try.ntmps19
  go_wp2_with fail
  refine (HO.out _ hB0).mono ?_
  rintro e w1 ⟨A1, n1, c1, A2, n2, c2, rfl, hB1⟩
  replace k1 := k1.below hB1 k1.lt
  replace k2 := k2.below hB1 k2.lt
  have hB := hB0.trans (hB1.mono hB0.size)
  have hz1 : w.heap.size + 1 + 1 < w1.heap.size := k2.lt
  clear hB0 hB1 hz k0
  unfold ints12
  obtain ⟨j0, j1, hJ, hjz⟩ := blocks2 w1 #[.slice A1 n1 c1, .slice A2 n2 c2] (ints12 f) 62 66
  go_wp2_with fail
  refine (HD.out _).mono ?_
  rintro e w2 ⟨rfl, hB2⟩
  replace hJ := hJ.trans (hB2.mono hJ.size)
  replace j0 := j0.below hB2 j0.lt
  replace j1 := j1.below hB2 j1.lt
  clear hB2
  replace k1 := k1.below hJ k1.lt
  replace k2 := k2.below hJ k2.lt
  replace hB := hB.trans (hJ.mono hB.size)
  generalize w1.heap.size = X at *
  obtain ⟨u0, u1⟩ := cells2 j0
  obtain ⟨s0, s1, s2, s3, s4, s5, s6, s7, s8, s9, s10, s11⟩ := cells12 j1
  clear hJ hjz
  go_wp2
  obtain ⟨p0, p1⟩ := cells2 k1
  obtain ⟨r0, r1, r2, r3, r4, r5, r6, r7, r8, r9, r10, r11⟩ := cells12 k2
  have f1 := k1.frozen
  have f2 := k2.frozen
  have hx1 : w.heap.size + 1 < X := by omega
  go_region
  go_wp2
  refine bodyPost_ret (v := .tuple #[.agg #[.slice A1 n1 c1, .slice A2 n2 c2], .agg (ints12 f), .int .i64 30]) (by simp [results, Try.results19, go_sem, ints12, p0, p1, r0, r1, r2, r3, r4, r5, r6, r7, r8, r9, r10, r11]) rfl ?_
  refine ⟨_, _, _, _, _, _, rfl, ?_⟩
  refine Below.drew ?_
  iterate 14 refine Below.setCell ?_ (by simp; try omega) _
  exact hB

set_option maxRecDepth 100000 in
set_option maxHeartbeats 4000000 in
theorem solvable_bad (nm : ByteArray) (A : Option Addr) (n c : Nat) (f : Nat → Int) (err : Int) (w : World)
    (ho : ∀ W, Below w.heap.size w W → Calls Try.prog 33 #[.agg #[.string nm, .slice A n c]] W (OpenPost f err W)) (he : err ≠ 0) :
    Calls Try.prog 19 #[.agg #[.string nm, .slice A n c]] w (OpenPost f err w) := by
  have HO := Lib.hid ho
  have HD := Lib.hid (fun W => by have := det_any f W; unfold ints12 at this; exact this)
  clear ho
  obtain ⟨k0, k1, k2, hB0, hz⟩ := blocks3 w #[.string nm, .slice A n c] #[.slice none 0 0, .slice none 0 0] (ints12 fun _ => 0) 24 62 66
  have hee : (err == 0) = false := by simpa using he
  clear he
  go_enter Try.func19, Try.ntmps19
  go_wp2_with fail
  refine (HO.out _ hB0).mono ?_
  rintro e w1 ⟨A1, n1, c1, A2, n2, c2, rfl, hB1⟩
  replace k1 := k1.below hB1 k1.lt
  replace k2 := k2.below hB1 k2.lt
  have hB := hB0.trans (hB1.mono hB0.size)
  have hz1 : w.heap.size + 1 + 1 < w1.heap.size := k2.lt
  clear hB0 hB1 hz k0
  unfold ints12
  obtain ⟨j0, j1, hJ, hjz⟩ := blocks2 w1 #[.slice A1 n1 c1, .slice A2 n2 c2] (ints12 f) 62 66
  go_wp2
  have hgen : ((w1.alloc (.cells #[.slice A1 n1 c1, .slice A2 n2 c2] 62)).alloc (.cells #[.int .i64 (f 0), .int .i64 (f 1), .int .i64 (f 2), .int .i64 (f 3), .int .i64 (f 4), .int .i64 (f 5), .int .i64 (f 6), .int .i64 (f 7), .int .i64 (f 8), .int .i64 (f 9), .int .i64 (f 10), .int .i64 (f 11)] 66)) = ((w1.alloc (.cells #[.slice A1 n1 c1, .slice A2 n2 c2] 62)).alloc (.cells (ints12 f) 66)) := rfl
  rw [hgen]
  clear hgen
  generalize ((w1.alloc (.cells #[.slice A1 n1 c1, .slice A2 n2 c2] 62)).alloc (.cells (ints12 f) 66)) = w2 at *
  replace k1 := k1.below hJ k1.lt
  replace k2 := k2.below hJ k2.lt
  replace hB := hB.trans (hJ.mono hB.size)
  generalize w1.heap.size = X at *
  obtain ⟨u0, u1⟩ := cells2 j0
  obtain ⟨s0, s1, s2, s3, s4, s5, s6, s7, s8, s9, s10, s11⟩ := cells12 j1
  clear hJ hjz
  obtain ⟨p0, p1⟩ := cells2 k1
  obtain ⟨r0, r1, r2, r3, r4, r5, r6, r7, r8, r9, r10, r11⟩ := cells12 k2
  have f1 := k1.frozen
  have f2 := k2.frozen
  have hx1 : w.heap.size + 1 < X := by omega
  go_region
  go_wp2
  refine bodyPost_ret (v := .tuple #[.agg #[.slice A1 n1 c1, .slice A2 n2 c2], .agg (ints12 f), .int .i64 err]) (by simp [results, Try.results19, go_sem, ints12, p0, p1, r0, r1, r2, r3, r4, r5, r6, r7, r8, r9, r10, r11]) rfl ?_
  refine ⟨_, _, _, _, _, _, rfl, ?_⟩
  refine Below.drew ?_
  iterate 14 refine Below.setCell ?_ (by simp; try omega) _
  exact hB
end Go.Proofs.Ytncmdjhdfhhkjaa
