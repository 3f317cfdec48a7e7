/- Cofactors, determinant and fit of normal equations, each modulo 2^64 (exact where the numbers are small). -/
import Derived.Test.YtncmdjhdfhhkjaaNormal
import Derived.Lib.QuietBelow
namespace Go.Proofs.Ytncmdjhdfhhkjaa
open Go.RowKit Go.Sort

theorem wrap64_mod (a b : Int) (h : (a - b) % 18446744073709551616 = 0) : wrap64 a = wrap64 b := by unfold wrap64; omega
theorem wrap64_sub_self (a : Int) : (wrap64 a - a) % 18446744073709551616 = 0 := by unfold wrap64; omega
theorem wrap64_add (a b : Int) : wrap64 (wrap64 a + wrap64 b) = wrap64 (a + b) := by unfold wrap64; omega
theorem wrap64_add_r (a b : Int) : wrap64 (a + wrap64 b) = wrap64 (a + b) := by unfold wrap64; omega
theorem wrap64_add_l (a b : Int) : wrap64 (wrap64 a + b) = wrap64 (a + b) := by unfold wrap64; omega
theorem wrap64_wrap64 (a : Int) : wrap64 (wrap64 a) = wrap64 a := by unfold wrap64; omega
theorem wrap64_sub (a b : Int) : wrap64 (wrap64 a - wrap64 b) = wrap64 (a - b) := by unfold wrap64; omega
theorem wrap64_mul_r (a b : Int) : wrap64 (a * wrap64 b) = wrap64 (a * b) := by
  apply wrap64_mod
  rw [← Int.mul_sub]
  have h := wrap64_sub_self b
  obtain ⟨c, hc⟩ := Int.dvd_of_emod_eq_zero h
  rw [hc, ← Int.mul_assoc, Int.mul_comm a, Int.mul_assoc]
  exact Int.mul_emod_right _ _
theorem wrap64_mul_l (a b : Int) : wrap64 (wrap64 a * b) = wrap64 (a * b) := by rw [Int.mul_comm, wrap64_mul_r, Int.mul_comm]

set_option maxHeartbeats 400000 in
theorem cof1 (i k a b : Int) (P Q g ga gb : Nat) (v : Int) (w : World) (hi : 0 ≤ i ∧ i ≤ 2) (hk : 0 ≤ k ∧ k ≤ 2) (ha : 0 ≤ a ∧ a ≤ 2) (hb : 0 ≤ b ∧ b ≤ 2)
    (e1 : (a + i) % 3 = P) (e2 : (b + k) % 3 = Q) (hc : w.cell? ⟨g, P * 3 + Q, none⟩ = some (.int .i64 v)) (hca : w.cell? ⟨ga, 0, none⟩ = some (.int .i64 a)) (hcb : w.cell? ⟨gb, 0, none⟩ = some (.int .i64 b)) :
    Calls Try.prog 47 #[.int .i64 i, .int .i64 k, .pointer (some ⟨g, 0, none⟩), .pointer (some ⟨ga, 0, none⟩), .pointer (some ⟨gb, 0, none⟩)] w fun e w' => e = .returned (.int .i64 v) ∧ ∃ n, w' = w.drewN n := by
  obtain ⟨hi1, hi2⟩ := hi
  obtain ⟨hk1, hk2⟩ := hk
  obtain ⟨ha1, ha2⟩ := ha
  obtain ⟨hb1, hb2⟩ := hb
  have p3 : (P : Int) < 3 := by omega
  have q3 : (Q : Int) < 3 := by omega
  have w1 : IntKind.i64.wrap (a + i) = a + i := IntWalk.i64_in _ (by omega)
  have w2 : IntKind.i64.wrap (b + k) = b + k := IntWalk.i64_in _ (by omega)
  have t1 : (a + i).tmod 3 = (P : Int) := by rw [← e1, Int.tmod_eq_emod]; split <;> omega
  have t2 : (b + k).tmod 3 = (Q : Int) := by rw [← e2, Int.tmod_eq_emod]; split <;> omega
  go_enter Try.func47, Try.ntmps47
  go_wp2
  go_quiet (fail)
  go_wp2
  go_ret
  exact ⟨rfl, _, rfl⟩

def matN (f : Nat → Int) (i j : Nat) : Int := f (i % 3 * 3 + j % 3)
def cofN (f : Nat → Int) (a b : Nat) : Int := matN f (a + 1) (b + 1) * matN f (a + 2) (b + 2) - matN f (a + 1) (b + 2) * matN f (a + 2) (b + 1)
theorem mod_cast3 (a : Int) (i : Nat) (h : 0 ≤ a) : (a + (i : Int)) % 3 = (((a.toNat + i) % 3 : Nat) : Int) := by omega

set_option maxHeartbeats 1000000 in
theorem cofactor_any (f : Nat → Int) (a b : Int) (w : World) (ha : 0 ≤ a ∧ a ≤ 2) (hb : 0 ≤ b ∧ b ≤ 2) :
    Calls Try.prog 34 #[.agg (ints12 f), .int .i64 a, .int .i64 b] w fun e w' => e = .returned (.int .i64 (wrap64 (cofN f a.toNat b.toNat))) ∧ Below w.heap.size w w' := by
  unfold ints12
  have hcell : ∀ P Q, P < 3 → Q < 3 → ∀ W : World, Blk W w.heap.size 66 (ints12 f) → W.cell? ⟨w.heap.size, P * 3 + Q, none⟩ = some (.int .i64 (f (P * 3 + Q))) := by
    intro P Q hP hQ W hW
    rw [hW.cell]
    rcases (by omega : P = 0 ∨ P = 1 ∨ P = 2) with rfl | rfl | rfl <;> rcases (by omega : Q = 0 ∨ Q = 1 ∨ Q = 2) with rfl | rfl | rfl <;> rfl
  have hcall : ∀ (i k : Int), (0 ≤ i ∧ i ≤ 2) → (0 ≤ k ∧ k ≤ 2) → ∀ W : World, Blk W w.heap.size 66 (ints12 f) → Blk W (w.heap.size + 1) 3 #[.int .i64 a] → Blk W (w.heap.size + 1 + 1) 3 #[.int .i64 b] →
      Calls Try.prog 47 #[.int .i64 i, .int .i64 k, .pointer (some ⟨w.heap.size, 0, none⟩), .pointer (some ⟨w.heap.size + 1, 0, none⟩), .pointer (some ⟨w.heap.size + 1 + 1, 0, none⟩)] W fun e w' => e = .returned (.int .i64 (matN f (a.toNat + i.toNat) (b.toNat + k.toNat))) ∧ ∃ n, w' = W.drewN n := by
    intro i k hi hk W h0 h1 h2
    exact cof1 i k a b ((a.toNat + i.toNat) % 3) ((b.toNat + k.toNat) % 3) _ _ _ _ W hi hk ha hb (by omega) (by omega) (hcell _ _ (by omega) (by omega) W h0) (h1.cell 0) (h2.cell 0)
  obtain ⟨W0, hW0⟩ : ∃ W0, ((w.alloc (.cells (ints12 f) 66)).alloc (.cells #[.int .i64 a] 3)).alloc (.cells #[.int .i64 b] 3) = W0 := ⟨_, rfl⟩
  have hB : Below w.heap.size w W0 := by rw [← hW0]; exact (((Below.refl _ _).alloc (by simp) _).alloc (by simp) _).alloc (by simp; omega) _
  have k0 : Blk W0 w.heap.size 66 (ints12 f) := by rw [← hW0]; exact ((Blk.new _ _ _).alloc _).alloc _
  have k1 : Blk W0 (w.heap.size + 1) 3 #[.int .i64 a] := by
    have := (Blk.new (w.alloc (.cells (ints12 f) 66)) 3 #[.int .i64 a]).alloc (.cells #[.int .i64 b] 3)
    rw [World.size_alloc] at this; rw [← hW0]; exact this
  have k2 : Blk W0 (w.heap.size + 1 + 1) 3 #[.int .i64 b] := by
    have := Blk.new ((w.alloc (.cells (ints12 f) 66)).alloc (.cells #[.int .i64 a] 3)) 3 #[.int .i64 b]
    rw [World.size_alloc, World.size_alloc] at this; rw [← hW0]; exact this
  have HW := Lib.hid hW0
  have HC := Lib.hid hcall
  clear hcall hcell hW0
  go_enter Try.func34, Try.ntmps34
  go_wp2_with fail
  have hw := HW.out
  unfold ints12 at hw
  rw [hw]
  clear hw
  refine (HC.out 1 1 (by omega) (by omega) _ k0 k1 k2).mono ?_
  rintro e w1 ⟨rfl, n1, rfl⟩
  go_wp2_with fail
  refine (HC.out 2 2 (by omega) (by omega) _ (k0.drewN _) (k1.drewN _) (k2.drewN _)).mono ?_
  rintro e w1 ⟨rfl, n2, rfl⟩
  go_wp2_with fail
  refine (HC.out 1 2 (by omega) (by omega) _ (k0.drewN _) (k1.drewN _) (k2.drewN _)).mono ?_
  rintro e w1 ⟨rfl, n3, rfl⟩
  go_wp2_with fail
  refine (HC.out 2 1 (by omega) (by omega) _ (k0.drewN _) (k1.drewN _) (k2.drewN _)).mono ?_
  rintro e w1 ⟨rfl, n4, rfl⟩
  go_wp2
  go_ret
  exact ⟨ret_int (wrap64_sub _ _), below_drewN hB _⟩

/-- The determinant, by the first row. -/
def detN (f : Nat → Int) : Int := f 0 * cofN f 0 0 + f 1 * cofN f 0 1 + f 2 * cofN f 0 2
theorem det_wraps (a b c x y z : Int) : wrap64 (wrap64 (wrap64 (wrap64 (a * wrap64 x)) + wrap64 (b * wrap64 y)) + wrap64 (c * wrap64 z)) = wrap64 (a * x + b * y + c * z) := by
  simp only [wrap64_mul_r, wrap64_add_l, wrap64_add_r, wrap64_wrap64]

set_option maxRecDepth 100000 in
set_option maxHeartbeats 2000000 in
theorem det_any (f : Nat → Int) (w : World) :
    Calls Try.prog 22 #[.agg (ints12 f)] w fun e w' => e = .returned (.int .i64 (wrap64 (detN f))) ∧ Below w.heap.size w w' := by
  have hcall : ∀ (a b : Int), (0 ≤ a ∧ a ≤ 2) → (0 ≤ b ∧ b ≤ 2) → ∀ (W : World) (d : Nat) (os : Array Obj), Calls Try.prog 34 #[.agg #[.int .i64 (f 0), .int .i64 (f 1), .int .i64 (f 2), .int .i64 (f 3), .int .i64 (f 4), .int .i64 (f 5), .int .i64 (f 6), .int .i64 (f 7), .int .i64 (f 8), .int .i64 (f 9), .int .i64 (f 10), .int .i64 (f 11)], .int .i64 a, .int .i64 b] (grow (redrawn W d) os)
      fun e w'' => e = .returned (.int .i64 (wrap64 (cofN f a.toNat b.toNat))) ∧ ∃ p : Regrown, w'' = grow (redrawn W p.d) p.os :=
    fun a b ha hb W d os => Calls.regrown_of (cofactor_any f a b _ ha hb)
  have HC := Lib.hid hcall
  clear hcall
  unfold ints12
  have hB : Below w.heap.size w (w.alloc (.cells (ints12 f) 66)) := (Below.refl _ _).alloc (by simp) _
  have k0 : Blk (w.alloc (.cells (ints12 f) 66)) w.heap.size 66 (ints12 f) := Blk.new _ _ _
  go_enter Try.func22, Try.ntmps22
  go_wp2
  rw [show w.alloc (.cells #[.int .i64 (f 0), .int .i64 (f 1), .int .i64 (f 2), .int .i64 (f 3), .int .i64 (f 4), .int .i64 (f 5), .int .i64 (f 6), .int .i64 (f 7), .int .i64 (f 8), .int .i64 (f 9), .int .i64 (f 10), .int .i64 (f 11)] 66) = w.alloc (.cells (ints12 f) 66) from rfl]
  generalize w.alloc (.cells (ints12 f) 66) = W0 at *
  refine wp_loop_rounds 4 ?_
  rw [rounds_succ]
  go_wp2
  have q0 : ∀ d os, (grow (redrawn W0 d) os).cell? ⟨w.heap.size, 0, none⟩ = some (.int .i64 (f 0)) := fun d os => cell_regrown (k0.cell 0) d os
  have q1 : ∀ d os, (grow (redrawn W0 d) os).cell? ⟨w.heap.size, 1, none⟩ = some (.int .i64 (f 1)) := fun d os => cell_regrown (k0.cell 1) d os
  have q2 : ∀ d os, (grow (redrawn W0 d) os).cell? ⟨w.heap.size, 2, none⟩ = some (.int .i64 (f 2)) := fun d os => cell_regrown (k0.cell 2) d os
  have q3 : ∀ d os, (grow (redrawn W0 d) os).cell? ⟨w.heap.size, 3, none⟩ = some (.int .i64 (f 3)) := fun d os => cell_regrown (k0.cell 3) d os
  have q4 : ∀ d os, (grow (redrawn W0 d) os).cell? ⟨w.heap.size, 4, none⟩ = some (.int .i64 (f 4)) := fun d os => cell_regrown (k0.cell 4) d os
  have q5 : ∀ d os, (grow (redrawn W0 d) os).cell? ⟨w.heap.size, 5, none⟩ = some (.int .i64 (f 5)) := fun d os => cell_regrown (k0.cell 5) d os
  have q6 : ∀ d os, (grow (redrawn W0 d) os).cell? ⟨w.heap.size, 6, none⟩ = some (.int .i64 (f 6)) := fun d os => cell_regrown (k0.cell 6) d os
  have q7 : ∀ d os, (grow (redrawn W0 d) os).cell? ⟨w.heap.size, 7, none⟩ = some (.int .i64 (f 7)) := fun d os => cell_regrown (k0.cell 7) d os
  have q8 : ∀ d os, (grow (redrawn W0 d) os).cell? ⟨w.heap.size, 8, none⟩ = some (.int .i64 (f 8)) := fun d os => cell_regrown (k0.cell 8) d os
  have q9 : ∀ d os, (grow (redrawn W0 d) os).cell? ⟨w.heap.size, 9, none⟩ = some (.int .i64 (f 9)) := fun d os => cell_regrown (k0.cell 9) d os
  have q10 : ∀ d os, (grow (redrawn W0 d) os).cell? ⟨w.heap.size, 10, none⟩ = some (.int .i64 (f 10)) := fun d os => cell_regrown (k0.cell 10) d os
  have q11 : ∀ d os, (grow (redrawn W0 d) os).cell? ⟨w.heap.size, 11, none⟩ = some (.int .i64 (f 11)) := fun d os => cell_regrown (k0.cell 11) d os
  refine wp_region_quiet_below (by kernel_rfl) (by kernel_rfl) ?_
  repeat (go_big_quiet_step (exact HC.out _ _ (by omega) (by omega) _ _ _))
  refine wpQuiet_nil ?_
  intro V hV
  obtain ⟨⟨d, os⟩, rfl⟩ := hV
  have hb := below_regrown W0 d os
  replace k0 := k0.below hb k0.lt
  replace hB := hB.trans (hb.mono hB.size)
  clear q0 q1 q2 q3 q4 q5 q6 q7 q8 q9 q10 q11 hb
  generalize grow (redrawn W0 d) os = W1 at *
  go_wp2
  rw [rounds_succ]
  go_wp2
  have q0 : ∀ d os, (grow (redrawn W1 d) os).cell? ⟨w.heap.size, 0, none⟩ = some (.int .i64 (f 0)) := fun d os => cell_regrown (k0.cell 0) d os
  have q1 : ∀ d os, (grow (redrawn W1 d) os).cell? ⟨w.heap.size, 1, none⟩ = some (.int .i64 (f 1)) := fun d os => cell_regrown (k0.cell 1) d os
  have q2 : ∀ d os, (grow (redrawn W1 d) os).cell? ⟨w.heap.size, 2, none⟩ = some (.int .i64 (f 2)) := fun d os => cell_regrown (k0.cell 2) d os
  have q3 : ∀ d os, (grow (redrawn W1 d) os).cell? ⟨w.heap.size, 3, none⟩ = some (.int .i64 (f 3)) := fun d os => cell_regrown (k0.cell 3) d os
  have q4 : ∀ d os, (grow (redrawn W1 d) os).cell? ⟨w.heap.size, 4, none⟩ = some (.int .i64 (f 4)) := fun d os => cell_regrown (k0.cell 4) d os
  have q5 : ∀ d os, (grow (redrawn W1 d) os).cell? ⟨w.heap.size, 5, none⟩ = some (.int .i64 (f 5)) := fun d os => cell_regrown (k0.cell 5) d os
  have q6 : ∀ d os, (grow (redrawn W1 d) os).cell? ⟨w.heap.size, 6, none⟩ = some (.int .i64 (f 6)) := fun d os => cell_regrown (k0.cell 6) d os
  have q7 : ∀ d os, (grow (redrawn W1 d) os).cell? ⟨w.heap.size, 7, none⟩ = some (.int .i64 (f 7)) := fun d os => cell_regrown (k0.cell 7) d os
  have q8 : ∀ d os, (grow (redrawn W1 d) os).cell? ⟨w.heap.size, 8, none⟩ = some (.int .i64 (f 8)) := fun d os => cell_regrown (k0.cell 8) d os
  have q9 : ∀ d os, (grow (redrawn W1 d) os).cell? ⟨w.heap.size, 9, none⟩ = some (.int .i64 (f 9)) := fun d os => cell_regrown (k0.cell 9) d os
  have q10 : ∀ d os, (grow (redrawn W1 d) os).cell? ⟨w.heap.size, 10, none⟩ = some (.int .i64 (f 10)) := fun d os => cell_regrown (k0.cell 10) d os
  have q11 : ∀ d os, (grow (redrawn W1 d) os).cell? ⟨w.heap.size, 11, none⟩ = some (.int .i64 (f 11)) := fun d os => cell_regrown (k0.cell 11) d os
  refine wp_region_quiet_below (by kernel_rfl) (by kernel_rfl) ?_
  repeat (go_big_quiet_step (exact HC.out _ _ (by omega) (by omega) _ _ _))
  refine wpQuiet_nil ?_
  intro V hV
  obtain ⟨⟨d, os⟩, rfl⟩ := hV
  have hb := below_regrown W1 d os
  replace k0 := k0.below hb k0.lt
  replace hB := hB.trans (hb.mono hB.size)
  clear q0 q1 q2 q3 q4 q5 q6 q7 q8 q9 q10 q11 hb
  generalize grow (redrawn W1 d) os = W2 at *
  go_wp2
  rw [rounds_succ]
  go_wp2
  have q0 : ∀ d os, (grow (redrawn W2 d) os).cell? ⟨w.heap.size, 0, none⟩ = some (.int .i64 (f 0)) := fun d os => cell_regrown (k0.cell 0) d os
  have q1 : ∀ d os, (grow (redrawn W2 d) os).cell? ⟨w.heap.size, 1, none⟩ = some (.int .i64 (f 1)) := fun d os => cell_regrown (k0.cell 1) d os
  have q2 : ∀ d os, (grow (redrawn W2 d) os).cell? ⟨w.heap.size, 2, none⟩ = some (.int .i64 (f 2)) := fun d os => cell_regrown (k0.cell 2) d os
  have q3 : ∀ d os, (grow (redrawn W2 d) os).cell? ⟨w.heap.size, 3, none⟩ = some (.int .i64 (f 3)) := fun d os => cell_regrown (k0.cell 3) d os
  have q4 : ∀ d os, (grow (redrawn W2 d) os).cell? ⟨w.heap.size, 4, none⟩ = some (.int .i64 (f 4)) := fun d os => cell_regrown (k0.cell 4) d os
  have q5 : ∀ d os, (grow (redrawn W2 d) os).cell? ⟨w.heap.size, 5, none⟩ = some (.int .i64 (f 5)) := fun d os => cell_regrown (k0.cell 5) d os
  have q6 : ∀ d os, (grow (redrawn W2 d) os).cell? ⟨w.heap.size, 6, none⟩ = some (.int .i64 (f 6)) := fun d os => cell_regrown (k0.cell 6) d os
  have q7 : ∀ d os, (grow (redrawn W2 d) os).cell? ⟨w.heap.size, 7, none⟩ = some (.int .i64 (f 7)) := fun d os => cell_regrown (k0.cell 7) d os
  have q8 : ∀ d os, (grow (redrawn W2 d) os).cell? ⟨w.heap.size, 8, none⟩ = some (.int .i64 (f 8)) := fun d os => cell_regrown (k0.cell 8) d os
  have q9 : ∀ d os, (grow (redrawn W2 d) os).cell? ⟨w.heap.size, 9, none⟩ = some (.int .i64 (f 9)) := fun d os => cell_regrown (k0.cell 9) d os
  have q10 : ∀ d os, (grow (redrawn W2 d) os).cell? ⟨w.heap.size, 10, none⟩ = some (.int .i64 (f 10)) := fun d os => cell_regrown (k0.cell 10) d os
  have q11 : ∀ d os, (grow (redrawn W2 d) os).cell? ⟨w.heap.size, 11, none⟩ = some (.int .i64 (f 11)) := fun d os => cell_regrown (k0.cell 11) d os
  refine wp_region_quiet_below (by kernel_rfl) (by kernel_rfl) ?_
  repeat (go_big_quiet_step (exact HC.out _ _ (by omega) (by omega) _ _ _))
  refine wpQuiet_nil ?_
  intro V hV
  obtain ⟨⟨d, os⟩, rfl⟩ := hV
  have hb := below_regrown W2 d os
  replace k0 := k0.below hb k0.lt
  replace hB := hB.trans (hb.mono hB.size)
  clear q0 q1 q2 q3 q4 q5 q6 q7 q8 q9 q10 q11 hb
  generalize grow (redrawn W2 d) os = W3 at *
  go_wp2
  rw [rounds_succ]
  go_wp2
  go_ret
  exact ⟨ret_int (det_wraps _ _ _ _ _ _), hB⟩

/-- The numerator of parameter p of the fit. -/
def fitN (f : Nat → Int) (p : Nat) : Int := cofN f 0 p * f 9 + cofN f 1 p * f 10 + cofN f 2 p * f 11
end Go.Proofs.Ytncmdjhdfhhkjaa
