/- The numerators of the fit, modulo 2^64. -/
import Derived.Test.YtncmdjhdfhhkjaaCof
import Derived.Test.YtncmdjhdfhhkjaaRegion
namespace Go.Proofs.Ytncmdjhdfhhkjaa
open Go.RowKit Go.Sort

def fitAt (f : Nat → Int) (p j : Nat) : Int := if j < p then wrap64 (fitN f j) else 0
def ints3 (g : Nat → Int) : Array Value := #[.int .i64 (g 0), .int .i64 (g 1), .int .i64 (g 2)]
theorem fit_wraps (a b c x y z : Int) : wrap64 (wrap64 (wrap64 (wrap64 (wrap64 a * x)) + wrap64 (wrap64 b * y)) + wrap64 (wrap64 c * z)) = wrap64 (a * x + b * y + c * z) := by
  simp only [wrap64_mul_l, wrap64_add_l, wrap64_add_r, wrap64_wrap64]

set_option maxRecDepth 100000 in
set_option maxHeartbeats 10000000 in
theorem fit_any (f : Nat → Int) (w : World) :
    Calls Try.prog 20 #[.agg (ints12 f)] w fun e w' => e = .returned (.agg (ints3 fun p => wrap64 (fitN f p))) ∧ Below w.heap.size w w' := by
  have hcall : ∀ (a b : Int), (0 ≤ a ∧ a ≤ 2) → (0 ≤ b ∧ b ≤ 2) → ∀ (W : World) (d : Nat) (os : Array Obj), Calls Try.prog 34 #[.agg #[.int .i64 (f 0), .int .i64 (f 1), .int .i64 (f 2), .int .i64 (f 3), .int .i64 (f 4), .int .i64 (f 5), .int .i64 (f 6), .int .i64 (f 7), .int .i64 (f 8), .int .i64 (f 9), .int .i64 (f 10), .int .i64 (f 11)], .int .i64 a, .int .i64 b] (grow (redrawn W d) os)
      fun e w'' => e = .returned (.int .i64 (wrap64 (cofN f a.toNat b.toNat))) ∧ ∃ p : Regrown, w'' = grow (redrawn W p.d) p.os :=
    fun a b ha hb W d os => Calls.regrown_of (cofactor_any f a b _ ha hb)
  have HC := Lib.hid hcall
  clear hcall
  unfold ints12
  go_enter Try.func20, Try.ntmps20
  go_wp2
  go_loopw [6] (fun i wr => ∃ p : Nat, p ≤ 3 ∧ i = .int .i64 p ∧ Below w.heap.size w wr ∧ Blk wr w.heap.size 66 (ints12 f) ∧ Blk wr (w.heap.size + 1) 63 (ints3 fun _ => 0) ∧ Blk wr (w.heap.size + 1 + 1) 63 (ints3 (fitAt f p))) (fun i _ => 3 - (intOf i).toNat)
  case atStart =>
    refine ⟨0, by omega, rfl, ((((Below.refl _ _).alloc (by simp) _).alloc (by simp) _).alloc (by simp; omega) _), ((Blk.new _ _ _).alloc _).alloc _, ?_, ?_⟩
    · have := (Blk.new (w.alloc (.cells (ints12 f) 66)) 63 (ints3 fun _ => 0)).alloc (.cells (ints3 fun _ => 0) 63)
      rw [World.size_alloc] at this; exact this
    · have := Blk.new ((w.alloc (.cells (ints12 f) 66)).alloc (.cells (ints3 fun _ => 0) 63)) 63 (ints3 (fitAt f 0))
      rw [World.size_alloc, World.size_alloc] at this; exact this
  case round =>
    obtain ⟨p, hp, rfl, hB, k0, k1, k2⟩ := hrel
    have hs : w.heap.size + 1 + 1 < wr.heap.size := k2.lt
    rcases (by omega : p = 0 ∨ p = 1 ∨ p = 2 ∨ p = 3) with rfl | rfl | rfl | rfl
    · go_wp2
      have k2 : Blk wr (w.heap.size + 1 + 1) 63 (ints3 (fitAt f 0)) := k2
      refine wp_loop_rounds 4 ?_
      rw [rounds_succ]
      go_wp2
      have q0 : ∀ d os, (grow (redrawn wr d) os).cell? ⟨w.heap.size, 0, none⟩ = some (.int .i64 (f 0)) := fun d os => cell_regrown (k0.cell 0) d os
      have q1 : ∀ d os, (grow (redrawn wr d) os).cell? ⟨w.heap.size, 1, none⟩ = some (.int .i64 (f 1)) := fun d os => cell_regrown (k0.cell 1) d os
      have q2 : ∀ d os, (grow (redrawn wr d) os).cell? ⟨w.heap.size, 2, none⟩ = some (.int .i64 (f 2)) := fun d os => cell_regrown (k0.cell 2) d os
      have q3 : ∀ d os, (grow (redrawn wr d) os).cell? ⟨w.heap.size, 3, none⟩ = some (.int .i64 (f 3)) := fun d os => cell_regrown (k0.cell 3) d os
      have q4 : ∀ d os, (grow (redrawn wr d) os).cell? ⟨w.heap.size, 4, none⟩ = some (.int .i64 (f 4)) := fun d os => cell_regrown (k0.cell 4) d os
      have q5 : ∀ d os, (grow (redrawn wr d) os).cell? ⟨w.heap.size, 5, none⟩ = some (.int .i64 (f 5)) := fun d os => cell_regrown (k0.cell 5) d os
      have q6 : ∀ d os, (grow (redrawn wr d) os).cell? ⟨w.heap.size, 6, none⟩ = some (.int .i64 (f 6)) := fun d os => cell_regrown (k0.cell 6) d os
      have q7 : ∀ d os, (grow (redrawn wr d) os).cell? ⟨w.heap.size, 7, none⟩ = some (.int .i64 (f 7)) := fun d os => cell_regrown (k0.cell 7) d os
      have q8 : ∀ d os, (grow (redrawn wr d) os).cell? ⟨w.heap.size, 8, none⟩ = some (.int .i64 (f 8)) := fun d os => cell_regrown (k0.cell 8) d os
      have q9 : ∀ d os, (grow (redrawn wr d) os).cell? ⟨w.heap.size, 9, none⟩ = some (.int .i64 (f 9)) := fun d os => cell_regrown (k0.cell 9) d os
      have q10 : ∀ d os, (grow (redrawn wr d) os).cell? ⟨w.heap.size, 10, none⟩ = some (.int .i64 (f 10)) := fun d os => cell_regrown (k0.cell 10) d os
      have q11 : ∀ d os, (grow (redrawn wr d) os).cell? ⟨w.heap.size, 11, none⟩ = some (.int .i64 (f 11)) := fun d os => cell_regrown (k0.cell 11) d os
      have o : ∀ d os, (grow (redrawn wr d) os).cell? ⟨w.heap.size + 1 + 1, 0, none⟩ = some (.int .i64 0) := fun d os => cell_regrown (by rw [k2.cell]; rfl) d os
      refine wp_region_quiet_tail 14 (by kernel_rfl) (by kernel_rfl) ?_
      simp only [List.take_succ_cons, List.take_zero, List.drop_succ_cons, List.drop_zero]
      repeat (go_big_quiet_step (exact HC.out _ _ (by omega) (by omega) _ _ _))
      refine wpQuiet_nil ?_
      intro V hV
      obtain ⟨⟨d, os⟩, rfl⟩ := hV
      have hb := below_regrown wr d os
      have o' := o d os
      replace k0 := k0.below hb k0.lt
      replace k1 := k1.below hb k1.lt
      replace k2 := k2.below hb k2.lt
      replace hB := hB.trans (hb.mono hB.size)
      clear q0 q1 q2 q3 q4 q5 q6 q7 q8 q9 q10 q11 hb o
      generalize grow (redrawn wr d) os = V0 at *
      have nf := k2.frozen 0
      go_wp2
      clear o' nf
      replace k0 := k0.far (p := ⟨w.heap.size + 1 + 1, 0, none⟩) (by simp; omega) (.int .i64 (wrap64 (wrap64 (wrap64 (cofN f 0 0) * f 9))))
      replace k1 := k1.far (p := ⟨w.heap.size + 1 + 1, 0, none⟩) (by simp) (.int .i64 (wrap64 (wrap64 (wrap64 (cofN f 0 0) * f 9))))
      replace k2 := k2.set_ 0 (.int .i64 (wrap64 (wrap64 (wrap64 (cofN f 0 0) * f 9))))
      replace hB := hB.setCell (p := ⟨w.heap.size + 1 + 1, 0, none⟩) (by simp; omega) (.int .i64 (wrap64 (wrap64 (wrap64 (cofN f 0 0) * f 9))))
      generalize V0.setCell ⟨w.heap.size + 1 + 1, 0, none⟩ (.int .i64 (wrap64 (wrap64 (wrap64 (cofN f 0 0) * f 9)))) = U0 at *
      rw [rounds_succ]
      go_wp2
      have q0 : ∀ d os, (grow (redrawn U0 d) os).cell? ⟨w.heap.size, 0, none⟩ = some (.int .i64 (f 0)) := fun d os => cell_regrown (k0.cell 0) d os
      have q1 : ∀ d os, (grow (redrawn U0 d) os).cell? ⟨w.heap.size, 1, none⟩ = some (.int .i64 (f 1)) := fun d os => cell_regrown (k0.cell 1) d os
      have q2 : ∀ d os, (grow (redrawn U0 d) os).cell? ⟨w.heap.size, 2, none⟩ = some (.int .i64 (f 2)) := fun d os => cell_regrown (k0.cell 2) d os
      have q3 : ∀ d os, (grow (redrawn U0 d) os).cell? ⟨w.heap.size, 3, none⟩ = some (.int .i64 (f 3)) := fun d os => cell_regrown (k0.cell 3) d os
      have q4 : ∀ d os, (grow (redrawn U0 d) os).cell? ⟨w.heap.size, 4, none⟩ = some (.int .i64 (f 4)) := fun d os => cell_regrown (k0.cell 4) d os
      have q5 : ∀ d os, (grow (redrawn U0 d) os).cell? ⟨w.heap.size, 5, none⟩ = some (.int .i64 (f 5)) := fun d os => cell_regrown (k0.cell 5) d os
      have q6 : ∀ d os, (grow (redrawn U0 d) os).cell? ⟨w.heap.size, 6, none⟩ = some (.int .i64 (f 6)) := fun d os => cell_regrown (k0.cell 6) d os
      have q7 : ∀ d os, (grow (redrawn U0 d) os).cell? ⟨w.heap.size, 7, none⟩ = some (.int .i64 (f 7)) := fun d os => cell_regrown (k0.cell 7) d os
      have q8 : ∀ d os, (grow (redrawn U0 d) os).cell? ⟨w.heap.size, 8, none⟩ = some (.int .i64 (f 8)) := fun d os => cell_regrown (k0.cell 8) d os
      have q9 : ∀ d os, (grow (redrawn U0 d) os).cell? ⟨w.heap.size, 9, none⟩ = some (.int .i64 (f 9)) := fun d os => cell_regrown (k0.cell 9) d os
      have q10 : ∀ d os, (grow (redrawn U0 d) os).cell? ⟨w.heap.size, 10, none⟩ = some (.int .i64 (f 10)) := fun d os => cell_regrown (k0.cell 10) d os
      have q11 : ∀ d os, (grow (redrawn U0 d) os).cell? ⟨w.heap.size, 11, none⟩ = some (.int .i64 (f 11)) := fun d os => cell_regrown (k0.cell 11) d os
      have o : ∀ d os, (grow (redrawn U0 d) os).cell? ⟨w.heap.size + 1 + 1, 0, none⟩ = some (.int .i64 (wrap64 (wrap64 (wrap64 (cofN f 0 0) * f 9)))) := fun d os => cell_regrown (by rw [k2.cell]; rfl) d os
      refine wp_region_quiet_tail 14 (by kernel_rfl) (by kernel_rfl) ?_
      simp only [List.take_succ_cons, List.take_zero, List.drop_succ_cons, List.drop_zero]
      repeat (go_big_quiet_step (exact HC.out _ _ (by omega) (by omega) _ _ _))
      refine wpQuiet_nil ?_
      intro V hV
      obtain ⟨⟨d, os⟩, rfl⟩ := hV
      have hb := below_regrown U0 d os
      have o' := o d os
      replace k0 := k0.below hb k0.lt
      replace k1 := k1.below hb k1.lt
      replace k2 := k2.below hb k2.lt
      replace hB := hB.trans (hb.mono hB.size)
      clear q0 q1 q2 q3 q4 q5 q6 q7 q8 q9 q10 q11 hb o
      generalize grow (redrawn U0 d) os = V1 at *
      have nf := k2.frozen 0
      go_wp2
      clear o' nf
      replace k0 := k0.far (p := ⟨w.heap.size + 1 + 1, 0, none⟩) (by simp; omega) (.int .i64 (wrap64 ((wrap64 (wrap64 (wrap64 (cofN f 0 0) * f 9))) + wrap64 (wrap64 (cofN f 1 0) * f 10))))
      replace k1 := k1.far (p := ⟨w.heap.size + 1 + 1, 0, none⟩) (by simp) (.int .i64 (wrap64 ((wrap64 (wrap64 (wrap64 (cofN f 0 0) * f 9))) + wrap64 (wrap64 (cofN f 1 0) * f 10))))
      replace k2 := k2.set_ 0 (.int .i64 (wrap64 ((wrap64 (wrap64 (wrap64 (cofN f 0 0) * f 9))) + wrap64 (wrap64 (cofN f 1 0) * f 10))))
      replace hB := hB.setCell (p := ⟨w.heap.size + 1 + 1, 0, none⟩) (by simp; omega) (.int .i64 (wrap64 ((wrap64 (wrap64 (wrap64 (cofN f 0 0) * f 9))) + wrap64 (wrap64 (cofN f 1 0) * f 10))))
      generalize V1.setCell ⟨w.heap.size + 1 + 1, 0, none⟩ (.int .i64 (wrap64 ((wrap64 (wrap64 (wrap64 (cofN f 0 0) * f 9))) + wrap64 (wrap64 (cofN f 1 0) * f 10)))) = U1 at *
      rw [rounds_succ]
      go_wp2
      have q0 : ∀ d os, (grow (redrawn U1 d) os).cell? ⟨w.heap.size, 0, none⟩ = some (.int .i64 (f 0)) := fun d os => cell_regrown (k0.cell 0) d os
      have q1 : ∀ d os, (grow (redrawn U1 d) os).cell? ⟨w.heap.size, 1, none⟩ = some (.int .i64 (f 1)) := fun d os => cell_regrown (k0.cell 1) d os
      have q2 : ∀ d os, (grow (redrawn U1 d) os).cell? ⟨w.heap.size, 2, none⟩ = some (.int .i64 (f 2)) := fun d os => cell_regrown (k0.cell 2) d os
      have q3 : ∀ d os, (grow (redrawn U1 d) os).cell? ⟨w.heap.size, 3, none⟩ = some (.int .i64 (f 3)) := fun d os => cell_regrown (k0.cell 3) d os
      have q4 : ∀ d os, (grow (redrawn U1 d) os).cell? ⟨w.heap.size, 4, none⟩ = some (.int .i64 (f 4)) := fun d os => cell_regrown (k0.cell 4) d os
      have q5 : ∀ d os, (grow (redrawn U1 d) os).cell? ⟨w.heap.size, 5, none⟩ = some (.int .i64 (f 5)) := fun d os => cell_regrown (k0.cell 5) d os
      have q6 : ∀ d os, (grow (redrawn U1 d) os).cell? ⟨w.heap.size, 6, none⟩ = some (.int .i64 (f 6)) := fun d os => cell_regrown (k0.cell 6) d os
      have q7 : ∀ d os, (grow (redrawn U1 d) os).cell? ⟨w.heap.size, 7, none⟩ = some (.int .i64 (f 7)) := fun d os => cell_regrown (k0.cell 7) d os
      have q8 : ∀ d os, (grow (redrawn U1 d) os).cell? ⟨w.heap.size, 8, none⟩ = some (.int .i64 (f 8)) := fun d os => cell_regrown (k0.cell 8) d os
      have q9 : ∀ d os, (grow (redrawn U1 d) os).cell? ⟨w.heap.size, 9, none⟩ = some (.int .i64 (f 9)) := fun d os => cell_regrown (k0.cell 9) d os
      have q10 : ∀ d os, (grow (redrawn U1 d) os).cell? ⟨w.heap.size, 10, none⟩ = some (.int .i64 (f 10)) := fun d os => cell_regrown (k0.cell 10) d os
      have q11 : ∀ d os, (grow (redrawn U1 d) os).cell? ⟨w.heap.size, 11, none⟩ = some (.int .i64 (f 11)) := fun d os => cell_regrown (k0.cell 11) d os
      have o : ∀ d os, (grow (redrawn U1 d) os).cell? ⟨w.heap.size + 1 + 1, 0, none⟩ = some (.int .i64 (wrap64 ((wrap64 (wrap64 (wrap64 (cofN f 0 0) * f 9))) + wrap64 (wrap64 (cofN f 1 0) * f 10)))) := fun d os => cell_regrown (by rw [k2.cell]; rfl) d os
      refine wp_region_quiet_tail 14 (by kernel_rfl) (by kernel_rfl) ?_
      simp only [List.take_succ_cons, List.take_zero, List.drop_succ_cons, List.drop_zero]
      repeat (go_big_quiet_step (exact HC.out _ _ (by omega) (by omega) _ _ _))
      refine wpQuiet_nil ?_
      intro V hV
      obtain ⟨⟨d, os⟩, rfl⟩ := hV
      have hb := below_regrown U1 d os
      have o' := o d os
      replace k0 := k0.below hb k0.lt
      replace k1 := k1.below hb k1.lt
      replace k2 := k2.below hb k2.lt
      replace hB := hB.trans (hb.mono hB.size)
      clear q0 q1 q2 q3 q4 q5 q6 q7 q8 q9 q10 q11 hb o
      generalize grow (redrawn U1 d) os = V2 at *
      have nf := k2.frozen 0
      go_wp2
      clear o' nf
      replace k0 := k0.far (p := ⟨w.heap.size + 1 + 1, 0, none⟩) (by simp; omega) (.int .i64 (wrap64 ((wrap64 ((wrap64 (wrap64 (wrap64 (cofN f 0 0) * f 9))) + wrap64 (wrap64 (cofN f 1 0) * f 10))) + wrap64 (wrap64 (cofN f 2 0) * f 11))))
      replace k1 := k1.far (p := ⟨w.heap.size + 1 + 1, 0, none⟩) (by simp) (.int .i64 (wrap64 ((wrap64 ((wrap64 (wrap64 (wrap64 (cofN f 0 0) * f 9))) + wrap64 (wrap64 (cofN f 1 0) * f 10))) + wrap64 (wrap64 (cofN f 2 0) * f 11))))
      replace k2 := k2.set_ 0 (.int .i64 (wrap64 ((wrap64 ((wrap64 (wrap64 (wrap64 (cofN f 0 0) * f 9))) + wrap64 (wrap64 (cofN f 1 0) * f 10))) + wrap64 (wrap64 (cofN f 2 0) * f 11))))
      replace hB := hB.setCell (p := ⟨w.heap.size + 1 + 1, 0, none⟩) (by simp; omega) (.int .i64 (wrap64 ((wrap64 ((wrap64 (wrap64 (wrap64 (cofN f 0 0) * f 9))) + wrap64 (wrap64 (cofN f 1 0) * f 10))) + wrap64 (wrap64 (cofN f 2 0) * f 11))))
      generalize V2.setCell ⟨w.heap.size + 1 + 1, 0, none⟩ (.int .i64 (wrap64 ((wrap64 ((wrap64 (wrap64 (wrap64 (cofN f 0 0) * f 9))) + wrap64 (wrap64 (cofN f 1 0) * f 10))) + wrap64 (wrap64 (cofN f 2 0) * f 11)))) = U2 at *
      rw [rounds_succ]
      go_wp2
      have k3 : Blk U2 (w.heap.size + 1 + 1) 63 (ints3 (fitAt f 1)) := by
        rw [fit_wraps] at k2
        exact k2
      exact ⟨⟨1, by omega, rfl, hB, k0, k1, k3⟩, by simp [intOf]⟩
    · go_wp2
      have k2 : Blk wr (w.heap.size + 1 + 1) 63 (ints3 (fitAt f 1)) := k2
      refine wp_loop_rounds 4 ?_
      rw [rounds_succ]
      go_wp2
      have q0 : ∀ d os, (grow (redrawn wr d) os).cell? ⟨w.heap.size, 0, none⟩ = some (.int .i64 (f 0)) := fun d os => cell_regrown (k0.cell 0) d os
      have q1 : ∀ d os, (grow (redrawn wr d) os).cell? ⟨w.heap.size, 1, none⟩ = some (.int .i64 (f 1)) := fun d os => cell_regrown (k0.cell 1) d os
      have q2 : ∀ d os, (grow (redrawn wr d) os).cell? ⟨w.heap.size, 2, none⟩ = some (.int .i64 (f 2)) := fun d os => cell_regrown (k0.cell 2) d os
      have q3 : ∀ d os, (grow (redrawn wr d) os).cell? ⟨w.heap.size, 3, none⟩ = some (.int .i64 (f 3)) := fun d os => cell_regrown (k0.cell 3) d os
      have q4 : ∀ d os, (grow (redrawn wr d) os).cell? ⟨w.heap.size, 4, none⟩ = some (.int .i64 (f 4)) := fun d os => cell_regrown (k0.cell 4) d os
      have q5 : ∀ d os, (grow (redrawn wr d) os).cell? ⟨w.heap.size, 5, none⟩ = some (.int .i64 (f 5)) := fun d os => cell_regrown (k0.cell 5) d os
      have q6 : ∀ d os, (grow (redrawn wr d) os).cell? ⟨w.heap.size, 6, none⟩ = some (.int .i64 (f 6)) := fun d os => cell_regrown (k0.cell 6) d os
      have q7 : ∀ d os, (grow (redrawn wr d) os).cell? ⟨w.heap.size, 7, none⟩ = some (.int .i64 (f 7)) := fun d os => cell_regrown (k0.cell 7) d os
      have q8 : ∀ d os, (grow (redrawn wr d) os).cell? ⟨w.heap.size, 8, none⟩ = some (.int .i64 (f 8)) := fun d os => cell_regrown (k0.cell 8) d os
      have q9 : ∀ d os, (grow (redrawn wr d) os).cell? ⟨w.heap.size, 9, none⟩ = some (.int .i64 (f 9)) := fun d os => cell_regrown (k0.cell 9) d os
      have q10 : ∀ d os, (grow (redrawn wr d) os).cell? ⟨w.heap.size, 10, none⟩ = some (.int .i64 (f 10)) := fun d os => cell_regrown (k0.cell 10) d os
      have q11 : ∀ d os, (grow (redrawn wr d) os).cell? ⟨w.heap.size, 11, none⟩ = some (.int .i64 (f 11)) := fun d os => cell_regrown (k0.cell 11) d os
      have o : ∀ d os, (grow (redrawn wr d) os).cell? ⟨w.heap.size + 1 + 1, 1, none⟩ = some (.int .i64 0) := fun d os => cell_regrown (by rw [k2.cell]; rfl) d os
      refine wp_region_quiet_tail 14 (by kernel_rfl) (by kernel_rfl) ?_
      simp only [List.take_succ_cons, List.take_zero, List.drop_succ_cons, List.drop_zero]
      repeat (go_big_quiet_step (exact HC.out _ _ (by omega) (by omega) _ _ _))
      refine wpQuiet_nil ?_
      intro V hV
      obtain ⟨⟨d, os⟩, rfl⟩ := hV
      have hb := below_regrown wr d os
      have o' := o d os
      replace k0 := k0.below hb k0.lt
      replace k1 := k1.below hb k1.lt
      replace k2 := k2.below hb k2.lt
      replace hB := hB.trans (hb.mono hB.size)
      clear q0 q1 q2 q3 q4 q5 q6 q7 q8 q9 q10 q11 hb o
      generalize grow (redrawn wr d) os = V0 at *
      have nf := k2.frozen 1
      go_wp2
      clear o' nf
      replace k0 := k0.far (p := ⟨w.heap.size + 1 + 1, 1, none⟩) (by simp; omega) (.int .i64 (wrap64 (wrap64 (wrap64 (cofN f 0 1) * f 9))))
      replace k1 := k1.far (p := ⟨w.heap.size + 1 + 1, 1, none⟩) (by simp) (.int .i64 (wrap64 (wrap64 (wrap64 (cofN f 0 1) * f 9))))
      replace k2 := k2.set_ 1 (.int .i64 (wrap64 (wrap64 (wrap64 (cofN f 0 1) * f 9))))
      replace hB := hB.setCell (p := ⟨w.heap.size + 1 + 1, 1, none⟩) (by simp; omega) (.int .i64 (wrap64 (wrap64 (wrap64 (cofN f 0 1) * f 9))))
      generalize V0.setCell ⟨w.heap.size + 1 + 1, 1, none⟩ (.int .i64 (wrap64 (wrap64 (wrap64 (cofN f 0 1) * f 9)))) = U0 at *
      rw [rounds_succ]
      go_wp2
      have q0 : ∀ d os, (grow (redrawn U0 d) os).cell? ⟨w.heap.size, 0, none⟩ = some (.int .i64 (f 0)) := fun d os => cell_regrown (k0.cell 0) d os
      have q1 : ∀ d os, (grow (redrawn U0 d) os).cell? ⟨w.heap.size, 1, none⟩ = some (.int .i64 (f 1)) := fun d os => cell_regrown (k0.cell 1) d os
      have q2 : ∀ d os, (grow (redrawn U0 d) os).cell? ⟨w.heap.size, 2, none⟩ = some (.int .i64 (f 2)) := fun d os => cell_regrown (k0.cell 2) d os
      have q3 : ∀ d os, (grow (redrawn U0 d) os).cell? ⟨w.heap.size, 3, none⟩ = some (.int .i64 (f 3)) := fun d os => cell_regrown (k0.cell 3) d os
      have q4 : ∀ d os, (grow (redrawn U0 d) os).cell? ⟨w.heap.size, 4, none⟩ = some (.int .i64 (f 4)) := fun d os => cell_regrown (k0.cell 4) d os
      have q5 : ∀ d os, (grow (redrawn U0 d) os).cell? ⟨w.heap.size, 5, none⟩ = some (.int .i64 (f 5)) := fun d os => cell_regrown (k0.cell 5) d os
      have q6 : ∀ d os, (grow (redrawn U0 d) os).cell? ⟨w.heap.size, 6, none⟩ = some (.int .i64 (f 6)) := fun d os => cell_regrown (k0.cell 6) d os
      have q7 : ∀ d os, (grow (redrawn U0 d) os).cell? ⟨w.heap.size, 7, none⟩ = some (.int .i64 (f 7)) := fun d os => cell_regrown (k0.cell 7) d os
      have q8 : ∀ d os, (grow (redrawn U0 d) os).cell? ⟨w.heap.size, 8, none⟩ = some (.int .i64 (f 8)) := fun d os => cell_regrown (k0.cell 8) d os
      have q9 : ∀ d os, (grow (redrawn U0 d) os).cell? ⟨w.heap.size, 9, none⟩ = some (.int .i64 (f 9)) := fun d os => cell_regrown (k0.cell 9) d os
      have q10 : ∀ d os, (grow (redrawn U0 d) os).cell? ⟨w.heap.size, 10, none⟩ = some (.int .i64 (f 10)) := fun d os => cell_regrown (k0.cell 10) d os
      have q11 : ∀ d os, (grow (redrawn U0 d) os).cell? ⟨w.heap.size, 11, none⟩ = some (.int .i64 (f 11)) := fun d os => cell_regrown (k0.cell 11) d os
      have o : ∀ d os, (grow (redrawn U0 d) os).cell? ⟨w.heap.size + 1 + 1, 1, none⟩ = some (.int .i64 (wrap64 (wrap64 (wrap64 (cofN f 0 1) * f 9)))) := fun d os => cell_regrown (by rw [k2.cell]; rfl) d os
      refine wp_region_quiet_tail 14 (by kernel_rfl) (by kernel_rfl) ?_
      simp only [List.take_succ_cons, List.take_zero, List.drop_succ_cons, List.drop_zero]
      repeat (go_big_quiet_step (exact HC.out _ _ (by omega) (by omega) _ _ _))
      refine wpQuiet_nil ?_
      intro V hV
      obtain ⟨⟨d, os⟩, rfl⟩ := hV
      have hb := below_regrown U0 d os
      have o' := o d os
      replace k0 := k0.below hb k0.lt
      replace k1 := k1.below hb k1.lt
      replace k2 := k2.below hb k2.lt
      replace hB := hB.trans (hb.mono hB.size)
      clear q0 q1 q2 q3 q4 q5 q6 q7 q8 q9 q10 q11 hb o
      generalize grow (redrawn U0 d) os = V1 at *
      have nf := k2.frozen 1
      go_wp2
      clear o' nf
      replace k0 := k0.far (p := ⟨w.heap.size + 1 + 1, 1, none⟩) (by simp; omega) (.int .i64 (wrap64 ((wrap64 (wrap64 (wrap64 (cofN f 0 1) * f 9))) + wrap64 (wrap64 (cofN f 1 1) * f 10))))
      replace k1 := k1.far (p := ⟨w.heap.size + 1 + 1, 1, none⟩) (by simp) (.int .i64 (wrap64 ((wrap64 (wrap64 (wrap64 (cofN f 0 1) * f 9))) + wrap64 (wrap64 (cofN f 1 1) * f 10))))
      replace k2 := k2.set_ 1 (.int .i64 (wrap64 ((wrap64 (wrap64 (wrap64 (cofN f 0 1) * f 9))) + wrap64 (wrap64 (cofN f 1 1) * f 10))))
      replace hB := hB.setCell (p := ⟨w.heap.size + 1 + 1, 1, none⟩) (by simp; omega) (.int .i64 (wrap64 ((wrap64 (wrap64 (wrap64 (cofN f 0 1) * f 9))) + wrap64 (wrap64 (cofN f 1 1) * f 10))))
      generalize V1.setCell ⟨w.heap.size + 1 + 1, 1, none⟩ (.int .i64 (wrap64 ((wrap64 (wrap64 (wrap64 (cofN f 0 1) * f 9))) + wrap64 (wrap64 (cofN f 1 1) * f 10)))) = U1 at *
      rw [rounds_succ]
      go_wp2
      have q0 : ∀ d os, (grow (redrawn U1 d) os).cell? ⟨w.heap.size, 0, none⟩ = some (.int .i64 (f 0)) := fun d os => cell_regrown (k0.cell 0) d os
      have q1 : ∀ d os, (grow (redrawn U1 d) os).cell? ⟨w.heap.size, 1, none⟩ = some (.int .i64 (f 1)) := fun d os => cell_regrown (k0.cell 1) d os
      have q2 : ∀ d os, (grow (redrawn U1 d) os).cell? ⟨w.heap.size, 2, none⟩ = some (.int .i64 (f 2)) := fun d os => cell_regrown (k0.cell 2) d os
      have q3 : ∀ d os, (grow (redrawn U1 d) os).cell? ⟨w.heap.size, 3, none⟩ = some (.int .i64 (f 3)) := fun d os => cell_regrown (k0.cell 3) d os
      have q4 : ∀ d os, (grow (redrawn U1 d) os).cell? ⟨w.heap.size, 4, none⟩ = some (.int .i64 (f 4)) := fun d os => cell_regrown (k0.cell 4) d os
      have q5 : ∀ d os, (grow (redrawn U1 d) os).cell? ⟨w.heap.size, 5, none⟩ = some (.int .i64 (f 5)) := fun d os => cell_regrown (k0.cell 5) d os
      have q6 : ∀ d os, (grow (redrawn U1 d) os).cell? ⟨w.heap.size, 6, none⟩ = some (.int .i64 (f 6)) := fun d os => cell_regrown (k0.cell 6) d os
      have q7 : ∀ d os, (grow (redrawn U1 d) os).cell? ⟨w.heap.size, 7, none⟩ = some (.int .i64 (f 7)) := fun d os => cell_regrown (k0.cell 7) d os
      have q8 : ∀ d os, (grow (redrawn U1 d) os).cell? ⟨w.heap.size, 8, none⟩ = some (.int .i64 (f 8)) := fun d os => cell_regrown (k0.cell 8) d os
      have q9 : ∀ d os, (grow (redrawn U1 d) os).cell? ⟨w.heap.size, 9, none⟩ = some (.int .i64 (f 9)) := fun d os => cell_regrown (k0.cell 9) d os
      have q10 : ∀ d os, (grow (redrawn U1 d) os).cell? ⟨w.heap.size, 10, none⟩ = some (.int .i64 (f 10)) := fun d os => cell_regrown (k0.cell 10) d os
      have q11 : ∀ d os, (grow (redrawn U1 d) os).cell? ⟨w.heap.size, 11, none⟩ = some (.int .i64 (f 11)) := fun d os => cell_regrown (k0.cell 11) d os
      have o : ∀ d os, (grow (redrawn U1 d) os).cell? ⟨w.heap.size + 1 + 1, 1, none⟩ = some (.int .i64 (wrap64 ((wrap64 (wrap64 (wrap64 (cofN f 0 1) * f 9))) + wrap64 (wrap64 (cofN f 1 1) * f 10)))) := fun d os => cell_regrown (by rw [k2.cell]; rfl) d os
      refine wp_region_quiet_tail 14 (by kernel_rfl) (by kernel_rfl) ?_
      simp only [List.take_succ_cons, List.take_zero, List.drop_succ_cons, List.drop_zero]
      repeat (go_big_quiet_step (exact HC.out _ _ (by omega) (by omega) _ _ _))
      refine wpQuiet_nil ?_
      intro V hV
      obtain ⟨⟨d, os⟩, rfl⟩ := hV
      have hb := below_regrown U1 d os
      have o' := o d os
      replace k0 := k0.below hb k0.lt
      replace k1 := k1.below hb k1.lt
      replace k2 := k2.below hb k2.lt
      replace hB := hB.trans (hb.mono hB.size)
      clear q0 q1 q2 q3 q4 q5 q6 q7 q8 q9 q10 q11 hb o
      generalize grow (redrawn U1 d) os = V2 at *
      have nf := k2.frozen 1
      go_wp2
      clear o' nf
      replace k0 := k0.far (p := ⟨w.heap.size + 1 + 1, 1, none⟩) (by simp; omega) (.int .i64 (wrap64 ((wrap64 ((wrap64 (wrap64 (wrap64 (cofN f 0 1) * f 9))) + wrap64 (wrap64 (cofN f 1 1) * f 10))) + wrap64 (wrap64 (cofN f 2 1) * f 11))))
      replace k1 := k1.far (p := ⟨w.heap.size + 1 + 1, 1, none⟩) (by simp) (.int .i64 (wrap64 ((wrap64 ((wrap64 (wrap64 (wrap64 (cofN f 0 1) * f 9))) + wrap64 (wrap64 (cofN f 1 1) * f 10))) + wrap64 (wrap64 (cofN f 2 1) * f 11))))
      replace k2 := k2.set_ 1 (.int .i64 (wrap64 ((wrap64 ((wrap64 (wrap64 (wrap64 (cofN f 0 1) * f 9))) + wrap64 (wrap64 (cofN f 1 1) * f 10))) + wrap64 (wrap64 (cofN f 2 1) * f 11))))
      replace hB := hB.setCell (p := ⟨w.heap.size + 1 + 1, 1, none⟩) (by simp; omega) (.int .i64 (wrap64 ((wrap64 ((wrap64 (wrap64 (wrap64 (cofN f 0 1) * f 9))) + wrap64 (wrap64 (cofN f 1 1) * f 10))) + wrap64 (wrap64 (cofN f 2 1) * f 11))))
      generalize V2.setCell ⟨w.heap.size + 1 + 1, 1, none⟩ (.int .i64 (wrap64 ((wrap64 ((wrap64 (wrap64 (wrap64 (cofN f 0 1) * f 9))) + wrap64 (wrap64 (cofN f 1 1) * f 10))) + wrap64 (wrap64 (cofN f 2 1) * f 11)))) = U2 at *
      rw [rounds_succ]
      go_wp2
      have k3 : Blk U2 (w.heap.size + 1 + 1) 63 (ints3 (fitAt f 2)) := by
        rw [fit_wraps] at k2
        exact k2
      exact ⟨⟨2, by omega, rfl, hB, k0, k1, k3⟩, by simp [intOf]⟩
    · go_wp2
      have k2 : Blk wr (w.heap.size + 1 + 1) 63 (ints3 (fitAt f 2)) := k2
      refine wp_loop_rounds 4 ?_
      rw [rounds_succ]
      go_wp2
      have q0 : ∀ d os, (grow (redrawn wr d) os).cell? ⟨w.heap.size, 0, none⟩ = some (.int .i64 (f 0)) := fun d os => cell_regrown (k0.cell 0) d os
      have q1 : ∀ d os, (grow (redrawn wr d) os).cell? ⟨w.heap.size, 1, none⟩ = some (.int .i64 (f 1)) := fun d os => cell_regrown (k0.cell 1) d os
      have q2 : ∀ d os, (grow (redrawn wr d) os).cell? ⟨w.heap.size, 2, none⟩ = some (.int .i64 (f 2)) := fun d os => cell_regrown (k0.cell 2) d os
      have q3 : ∀ d os, (grow (redrawn wr d) os).cell? ⟨w.heap.size, 3, none⟩ = some (.int .i64 (f 3)) := fun d os => cell_regrown (k0.cell 3) d os
      have q4 : ∀ d os, (grow (redrawn wr d) os).cell? ⟨w.heap.size, 4, none⟩ = some (.int .i64 (f 4)) := fun d os => cell_regrown (k0.cell 4) d os
      have q5 : ∀ d os, (grow (redrawn wr d) os).cell? ⟨w.heap.size, 5, none⟩ = some (.int .i64 (f 5)) := fun d os => cell_regrown (k0.cell 5) d os
      have q6 : ∀ d os, (grow (redrawn wr d) os).cell? ⟨w.heap.size, 6, none⟩ = some (.int .i64 (f 6)) := fun d os => cell_regrown (k0.cell 6) d os
      have q7 : ∀ d os, (grow (redrawn wr d) os).cell? ⟨w.heap.size, 7, none⟩ = some (.int .i64 (f 7)) := fun d os => cell_regrown (k0.cell 7) d os
      have q8 : ∀ d os, (grow (redrawn wr d) os).cell? ⟨w.heap.size, 8, none⟩ = some (.int .i64 (f 8)) := fun d os => cell_regrown (k0.cell 8) d os
      have q9 : ∀ d os, (grow (redrawn wr d) os).cell? ⟨w.heap.size, 9, none⟩ = some (.int .i64 (f 9)) := fun d os => cell_regrown (k0.cell 9) d os
      have q10 : ∀ d os, (grow (redrawn wr d) os).cell? ⟨w.heap.size, 10, none⟩ = some (.int .i64 (f 10)) := fun d os => cell_regrown (k0.cell 10) d os
      have q11 : ∀ d os, (grow (redrawn wr d) os).cell? ⟨w.heap.size, 11, none⟩ = some (.int .i64 (f 11)) := fun d os => cell_regrown (k0.cell 11) d os
      have o : ∀ d os, (grow (redrawn wr d) os).cell? ⟨w.heap.size + 1 + 1, 2, none⟩ = some (.int .i64 0) := fun d os => cell_regrown (by rw [k2.cell]; rfl) d os
      refine wp_region_quiet_tail 14 (by kernel_rfl) (by kernel_rfl) ?_
      simp only [List.take_succ_cons, List.take_zero, List.drop_succ_cons, List.drop_zero]
      repeat (go_big_quiet_step (exact HC.out _ _ (by omega) (by omega) _ _ _))
      refine wpQuiet_nil ?_
      intro V hV
      obtain ⟨⟨d, os⟩, rfl⟩ := hV
      have hb := below_regrown wr d os
      have o' := o d os
      replace k0 := k0.below hb k0.lt
      replace k1 := k1.below hb k1.lt
      replace k2 := k2.below hb k2.lt
      replace hB := hB.trans (hb.mono hB.size)
      clear q0 q1 q2 q3 q4 q5 q6 q7 q8 q9 q10 q11 hb o
      generalize grow (redrawn wr d) os = V0 at *
      have nf := k2.frozen 2
      go_wp2
      clear o' nf
      replace k0 := k0.far (p := ⟨w.heap.size + 1 + 1, 2, none⟩) (by simp; omega) (.int .i64 (wrap64 (wrap64 (wrap64 (cofN f 0 2) * f 9))))
      replace k1 := k1.far (p := ⟨w.heap.size + 1 + 1, 2, none⟩) (by simp) (.int .i64 (wrap64 (wrap64 (wrap64 (cofN f 0 2) * f 9))))
      replace k2 := k2.set_ 2 (.int .i64 (wrap64 (wrap64 (wrap64 (cofN f 0 2) * f 9))))
      replace hB := hB.setCell (p := ⟨w.heap.size + 1 + 1, 2, none⟩) (by simp; omega) (.int .i64 (wrap64 (wrap64 (wrap64 (cofN f 0 2) * f 9))))
      generalize V0.setCell ⟨w.heap.size + 1 + 1, 2, none⟩ (.int .i64 (wrap64 (wrap64 (wrap64 (cofN f 0 2) * f 9)))) = U0 at *
      rw [rounds_succ]
      go_wp2
      have q0 : ∀ d os, (grow (redrawn U0 d) os).cell? ⟨w.heap.size, 0, none⟩ = some (.int .i64 (f 0)) := fun d os => cell_regrown (k0.cell 0) d os
      have q1 : ∀ d os, (grow (redrawn U0 d) os).cell? ⟨w.heap.size, 1, none⟩ = some (.int .i64 (f 1)) := fun d os => cell_regrown (k0.cell 1) d os
      have q2 : ∀ d os, (grow (redrawn U0 d) os).cell? ⟨w.heap.size, 2, none⟩ = some (.int .i64 (f 2)) := fun d os => cell_regrown (k0.cell 2) d os
      have q3 : ∀ d os, (grow (redrawn U0 d) os).cell? ⟨w.heap.size, 3, none⟩ = some (.int .i64 (f 3)) := fun d os => cell_regrown (k0.cell 3) d os
      have q4 : ∀ d os, (grow (redrawn U0 d) os).cell? ⟨w.heap.size, 4, none⟩ = some (.int .i64 (f 4)) := fun d os => cell_regrown (k0.cell 4) d os
      have q5 : ∀ d os, (grow (redrawn U0 d) os).cell? ⟨w.heap.size, 5, none⟩ = some (.int .i64 (f 5)) := fun d os => cell_regrown (k0.cell 5) d os
      have q6 : ∀ d os, (grow (redrawn U0 d) os).cell? ⟨w.heap.size, 6, none⟩ = some (.int .i64 (f 6)) := fun d os => cell_regrown (k0.cell 6) d os
      have q7 : ∀ d os, (grow (redrawn U0 d) os).cell? ⟨w.heap.size, 7, none⟩ = some (.int .i64 (f 7)) := fun d os => cell_regrown (k0.cell 7) d os
      have q8 : ∀ d os, (grow (redrawn U0 d) os).cell? ⟨w.heap.size, 8, none⟩ = some (.int .i64 (f 8)) := fun d os => cell_regrown (k0.cell 8) d os
      have q9 : ∀ d os, (grow (redrawn U0 d) os).cell? ⟨w.heap.size, 9, none⟩ = some (.int .i64 (f 9)) := fun d os => cell_regrown (k0.cell 9) d os
      have q10 : ∀ d os, (grow (redrawn U0 d) os).cell? ⟨w.heap.size, 10, none⟩ = some (.int .i64 (f 10)) := fun d os => cell_regrown (k0.cell 10) d os
      have q11 : ∀ d os, (grow (redrawn U0 d) os).cell? ⟨w.heap.size, 11, none⟩ = some (.int .i64 (f 11)) := fun d os => cell_regrown (k0.cell 11) d os
      have o : ∀ d os, (grow (redrawn U0 d) os).cell? ⟨w.heap.size + 1 + 1, 2, none⟩ = some (.int .i64 (wrap64 (wrap64 (wrap64 (cofN f 0 2) * f 9)))) := fun d os => cell_regrown (by rw [k2.cell]; rfl) d os
      refine wp_region_quiet_tail 14 (by kernel_rfl) (by kernel_rfl) ?_
      simp only [List.take_succ_cons, List.take_zero, List.drop_succ_cons, List.drop_zero]
      repeat (go_big_quiet_step (exact HC.out _ _ (by omega) (by omega) _ _ _))
      refine wpQuiet_nil ?_
      intro V hV
      obtain ⟨⟨d, os⟩, rfl⟩ := hV
      have hb := below_regrown U0 d os
      have o' := o d os
      replace k0 := k0.below hb k0.lt
      replace k1 := k1.below hb k1.lt
      replace k2 := k2.below hb k2.lt
      replace hB := hB.trans (hb.mono hB.size)
      clear q0 q1 q2 q3 q4 q5 q6 q7 q8 q9 q10 q11 hb o
      generalize grow (redrawn U0 d) os = V1 at *
      have nf := k2.frozen 2
      go_wp2
      clear o' nf
      replace k0 := k0.far (p := ⟨w.heap.size + 1 + 1, 2, none⟩) (by simp; omega) (.int .i64 (wrap64 ((wrap64 (wrap64 (wrap64 (cofN f 0 2) * f 9))) + wrap64 (wrap64 (cofN f 1 2) * f 10))))
      replace k1 := k1.far (p := ⟨w.heap.size + 1 + 1, 2, none⟩) (by simp) (.int .i64 (wrap64 ((wrap64 (wrap64 (wrap64 (cofN f 0 2) * f 9))) + wrap64 (wrap64 (cofN f 1 2) * f 10))))
      replace k2 := k2.set_ 2 (.int .i64 (wrap64 ((wrap64 (wrap64 (wrap64 (cofN f 0 2) * f 9))) + wrap64 (wrap64 (cofN f 1 2) * f 10))))
      replace hB := hB.setCell (p := ⟨w.heap.size + 1 + 1, 2, none⟩) (by simp; omega) (.int .i64 (wrap64 ((wrap64 (wrap64 (wrap64 (cofN f 0 2) * f 9))) + wrap64 (wrap64 (cofN f 1 2) * f 10))))
      generalize V1.setCell ⟨w.heap.size + 1 + 1, 2, none⟩ (.int .i64 (wrap64 ((wrap64 (wrap64 (wrap64 (cofN f 0 2) * f 9))) + wrap64 (wrap64 (cofN f 1 2) * f 10)))) = U1 at *
      rw [rounds_succ]
      go_wp2
      have q0 : ∀ d os, (grow (redrawn U1 d) os).cell? ⟨w.heap.size, 0, none⟩ = some (.int .i64 (f 0)) := fun d os => cell_regrown (k0.cell 0) d os
      have q1 : ∀ d os, (grow (redrawn U1 d) os).cell? ⟨w.heap.size, 1, none⟩ = some (.int .i64 (f 1)) := fun d os => cell_regrown (k0.cell 1) d os
      have q2 : ∀ d os, (grow (redrawn U1 d) os).cell? ⟨w.heap.size, 2, none⟩ = some (.int .i64 (f 2)) := fun d os => cell_regrown (k0.cell 2) d os
      have q3 : ∀ d os, (grow (redrawn U1 d) os).cell? ⟨w.heap.size, 3, none⟩ = some (.int .i64 (f 3)) := fun d os => cell_regrown (k0.cell 3) d os
      have q4 : ∀ d os, (grow (redrawn U1 d) os).cell? ⟨w.heap.size, 4, none⟩ = some (.int .i64 (f 4)) := fun d os => cell_regrown (k0.cell 4) d os
      have q5 : ∀ d os, (grow (redrawn U1 d) os).cell? ⟨w.heap.size, 5, none⟩ = some (.int .i64 (f 5)) := fun d os => cell_regrown (k0.cell 5) d os
      have q6 : ∀ d os, (grow (redrawn U1 d) os).cell? ⟨w.heap.size, 6, none⟩ = some (.int .i64 (f 6)) := fun d os => cell_regrown (k0.cell 6) d os
      have q7 : ∀ d os, (grow (redrawn U1 d) os).cell? ⟨w.heap.size, 7, none⟩ = some (.int .i64 (f 7)) := fun d os => cell_regrown (k0.cell 7) d os
      have q8 : ∀ d os, (grow (redrawn U1 d) os).cell? ⟨w.heap.size, 8, none⟩ = some (.int .i64 (f 8)) := fun d os => cell_regrown (k0.cell 8) d os
      have q9 : ∀ d os, (grow (redrawn U1 d) os).cell? ⟨w.heap.size, 9, none⟩ = some (.int .i64 (f 9)) := fun d os => cell_regrown (k0.cell 9) d os
      have q10 : ∀ d os, (grow (redrawn U1 d) os).cell? ⟨w.heap.size, 10, none⟩ = some (.int .i64 (f 10)) := fun d os => cell_regrown (k0.cell 10) d os
      have q11 : ∀ d os, (grow (redrawn U1 d) os).cell? ⟨w.heap.size, 11, none⟩ = some (.int .i64 (f 11)) := fun d os => cell_regrown (k0.cell 11) d os
      have o : ∀ d os, (grow (redrawn U1 d) os).cell? ⟨w.heap.size + 1 + 1, 2, none⟩ = some (.int .i64 (wrap64 ((wrap64 (wrap64 (wrap64 (cofN f 0 2) * f 9))) + wrap64 (wrap64 (cofN f 1 2) * f 10)))) := fun d os => cell_regrown (by rw [k2.cell]; rfl) d os
      refine wp_region_quiet_tail 14 (by kernel_rfl) (by kernel_rfl) ?_
      simp only [List.take_succ_cons, List.take_zero, List.drop_succ_cons, List.drop_zero]
      repeat (go_big_quiet_step (exact HC.out _ _ (by omega) (by omega) _ _ _))
      refine wpQuiet_nil ?_
      intro V hV
      obtain ⟨⟨d, os⟩, rfl⟩ := hV
      have hb := below_regrown U1 d os
      have o' := o d os
      replace k0 := k0.below hb k0.lt
      replace k1 := k1.below hb k1.lt
      replace k2 := k2.below hb k2.lt
      replace hB := hB.trans (hb.mono hB.size)
      clear q0 q1 q2 q3 q4 q5 q6 q7 q8 q9 q10 q11 hb o
      generalize grow (redrawn U1 d) os = V2 at *
      have nf := k2.frozen 2
      go_wp2
      clear o' nf
      replace k0 := k0.far (p := ⟨w.heap.size + 1 + 1, 2, none⟩) (by simp; omega) (.int .i64 (wrap64 ((wrap64 ((wrap64 (wrap64 (wrap64 (cofN f 0 2) * f 9))) + wrap64 (wrap64 (cofN f 1 2) * f 10))) + wrap64 (wrap64 (cofN f 2 2) * f 11))))
      replace k1 := k1.far (p := ⟨w.heap.size + 1 + 1, 2, none⟩) (by simp) (.int .i64 (wrap64 ((wrap64 ((wrap64 (wrap64 (wrap64 (cofN f 0 2) * f 9))) + wrap64 (wrap64 (cofN f 1 2) * f 10))) + wrap64 (wrap64 (cofN f 2 2) * f 11))))
      replace k2 := k2.set_ 2 (.int .i64 (wrap64 ((wrap64 ((wrap64 (wrap64 (wrap64 (cofN f 0 2) * f 9))) + wrap64 (wrap64 (cofN f 1 2) * f 10))) + wrap64 (wrap64 (cofN f 2 2) * f 11))))
      replace hB := hB.setCell (p := ⟨w.heap.size + 1 + 1, 2, none⟩) (by simp; omega) (.int .i64 (wrap64 ((wrap64 ((wrap64 (wrap64 (wrap64 (cofN f 0 2) * f 9))) + wrap64 (wrap64 (cofN f 1 2) * f 10))) + wrap64 (wrap64 (cofN f 2 2) * f 11))))
      generalize V2.setCell ⟨w.heap.size + 1 + 1, 2, none⟩ (.int .i64 (wrap64 ((wrap64 ((wrap64 (wrap64 (wrap64 (cofN f 0 2) * f 9))) + wrap64 (wrap64 (cofN f 1 2) * f 10))) + wrap64 (wrap64 (cofN f 2 2) * f 11)))) = U2 at *
      rw [rounds_succ]
      go_wp2
      have k3 : Blk U2 (w.heap.size + 1 + 1) 63 (ints3 (fitAt f 3)) := by
        rw [fit_wraps] at k2
        exact k2
      exact ⟨⟨3, by omega, rfl, hB, k0, k1, k3⟩, by simp [intOf]⟩
    · have n0 : wr.cell? ⟨w.heap.size + 1 + 1, 0, none⟩ = some (.int .i64 (wrap64 (fitN f 0))) := k2.cell 0
      have n1 : wr.cell? ⟨w.heap.size + 1 + 1, 1, none⟩ = some (.int .i64 (wrap64 (fitN f 1))) := k2.cell 1
      have n2 : wr.cell? ⟨w.heap.size + 1 + 1, 2, none⟩ = some (.int .i64 (wrap64 (fitN f 2))) := k2.cell 2
      have r0 : wr.cell? ⟨w.heap.size + 1, 0, none⟩ = some (.int .i64 0) := k1.cell 0
      have r1 : wr.cell? ⟨w.heap.size + 1, 1, none⟩ = some (.int .i64 0) := k1.cell 1
      have r2 : wr.cell? ⟨w.heap.size + 1, 2, none⟩ = some (.int .i64 0) := k1.cell 2
      have rf : ∀ o, wr.frozen? ⟨w.heap.size + 1, o, none⟩ = false := k1.frozen
      go_wp2
      refine bodyPost_ret (v := .agg (ints3 fun p => wrap64 (fitN f p))) (by simp [results, Try.results20, go_sem, ints3, r0, r1, r2]) rfl ⟨rfl, ?_⟩
      iterate 3 refine Below.setCell ?_ (by simp) _
      exact hB
end Go.Proofs.Ytncmdjhdfhhkjaa
