/- 'fitOf': the fit of other phases in the place of those of a series. -/
import Derived.Test.YtncmdjhdfhhkjaaSolveAll
import Derived.Test.YtncmdjhdfhhkjaaCopy
import Derived.Test.YtncmdjhdfhhkjaaSpreadLaw
namespace Go.Proofs.Ytncmdjhdfhhkjaa
open Go.RowKit Go.Sort

/-- The series with other phases ahead of k. -/
def swapPh (xs : List Epoch) (pv : Nat → Int) (k i : Nat) : Epoch := if i < k then ⟨(nth xs i).day, (nth xs i).base, pv i, (nth xs i).margin⟩ else nth xs i
def withPh (xs : List Epoch) (pv : Nat → Int) : List Epoch := (List.range xs.length).map (swapPh xs pv xs.length)
def swapCell (xs : List Epoch) (pv : Nat → Int) (k i : Nat) : List Value := (swapPh xs pv k i).enc
theorem flatN_setAt {f f' : Nat → List Value} {s k j : Nat} {u : Value} (hf : ∀ i, (f i).length = s) (hj : j < s) (hk' : f' k = (f k).set j u) (hne : ∀ i, i ≠ k → f' i = f i) : ∀ {n : Nat}, k < n → (flatN f n).set (k * s + j) u = flatN f' n
  | 0, h => by omega
  | n + 1, h => by
    have hl := flatN_length (f := f) hf n
    simp only [flatN]
    by_cases e : k = n
    · subst e
      rw [List.set_append_right _ _ (by rw [hl]; omega), hl, Nat.add_sub_cancel_left, hk', flatN_congr (f := f') (g := f) (fun i hi => hne i (by omega))]
    · have hlt : k < n := by omega
      have hb : k * s + j < n * s := by
        have : (k + 1) * s ≤ n * s := Nat.mul_le_mul_right _ (by omega)
        rw [Nat.succ_mul] at this; omega
      rw [List.set_append_left _ _ (by rw [hl]; exact hb), flatN_setAt hf hj hk' hne hlt, hne n (fun e' => e e'.symm)]
theorem swap_store (xs : List Epoch) (pv : Nat → Int) {k n : Nat} (hk : k < n) : (flatN (swapCell xs pv k) n).set (k * 4 + 2) (.int .i64 (pv k)) = flatN (swapCell xs pv (k + 1)) n := by
  refine flatN_setAt (s := 4) (fun i => rfl) (by omega) ?_ (fun i hi => ?_) hk
  · simp [swapCell, swapPh, Epoch.enc]
  · unfold swapCell swapPh
    by_cases h : i < k
    · rw [if_pos h, if_pos (by omega)]
    · rw [if_neg h, if_neg (by omega)]
theorem swap_zero (xs : List Epoch) (pv : Nat → Int) (n : Nat) : flatN (swapCell xs pv 0) n = flatN (epochCell xs) n := flatN_congr fun i _ => by unfold swapCell swapPh epochCell; rw [if_neg (by omega)]
theorem solveV_form (nm : ByteArray) (xs : List Epoch) : ∃ a b c d e f : Int, solveV nm xs = .agg #[.int .i64 a, .int .i64 b, .int .i64 c, .int .i64 d, .int .i64 e, .int .i64 f] := by
  unfold solveV
  split
  · exact ⟨_, _, _, _, _, _, rfl⟩
  · exact ⟨_, _, _, _, _, _, rfl⟩

/-- What 'fitOf' leaves. -/
def FitPost (nm : ByteArray) (ys : List Epoch) (w : World) (e : Ending) (w' : World) : Prop := e = .returned (.tuple #[solveV nm ys, .bool (solveErr nm ys == 0)]) ∧ Below w.heap.size w w'

set_option maxRecDepth 100000 in
set_option maxHeartbeats 2000000 in
theorem fitOf_any (nm : ByteArray) (A : Option Addr) (n c gp cp : Nat) (xs : List Epoch) (pv : Nat → Int) (w : World) (hnm : nm.size ≤ maxLen) (hn : xs.length = n) (h0 : 0 < n) (h8 : n ≤ 8) (hS : SliceAt w A 4 Epoch.enc xs) (hgp : gp < w.heap.size) (hpv : ∀ i, i < n → w.cell? ⟨gp, i, none⟩ = some (.int .i64 (pv i))) :
    Calls Try.prog 12 #[.agg #[.string nm, .slice A n c], .slice (some ⟨gp, 0, none⟩) n cp] w (FitPost nm (withPh xs pv) w) := by
  have hB0 : Below w.heap.size w ((w.alloc (.cells #[.string nm, .slice A n c] 24)).alloc (.cells #[.int .i64 0, .int .i64 0, .int .i64 0, .int .i64 0, .int .i64 0, .int .i64 0] 33)) := ((Below.refl _ _).alloc (Nat.le_refl _) _).alloc (by simp) _
  have HCP := Lib.hid (copy_any nm A n c xs _ hn h0 (by omega) (hS.below hB0))
  have HN := Lib.hid hn
  have HPV := Lib.hid hpv
  clear hS hn hpv
  obtain ⟨k0, k1, _, hz⟩ := blocks2 w #[.string nm, .slice A n c] #[.int .i64 0, .int .i64 0, .int .i64 0, .int .i64 0, .int .i64 0, .int .i64 0] 24 33
  go_enter Try.func12, Try.ntmps12
  go_wp2_with fail
  refine HCP.out.mono ?_
  rintro e w1 ⟨v, rfl, hv, hB1⟩
  obtain ⟨g, cap, rfl, hg, hglt⟩ := hv.form h0
  have b1 := k1.below hB1 (by omega)
  have hB2 := hB0.trans (hB1.mono (by omega))
  have hz1 := hB1.size
  rw [hz] at hz1 hg hv
  clear HCP hB0 hB1 k0 k1 hz
  go_wp2
  have b6 := Blk.new w1 24 #[.string nm, .slice (some ⟨g, 0, none⟩) n cap]
  have b4 := b1.alloc (.cells #[.string nm, .slice (some ⟨g, 0, none⟩) n cap] 24)
  have hB3 := hB2.alloc hB2.size (.cells #[.string nm, .slice (some ⟨g, 0, none⟩) n cap] 24)
  have hv3 := hv.alloc (.cells #[.string nm, .slice (some ⟨g, 0, none⟩) n cap] 24)
  obtain ⟨B6, hB6⟩ : ∃ B6, w1.heap.size = B6 := ⟨_, rfl⟩
  rw [hB6] at b6
  have hv4 : (w1.alloc (.cells #[.string nm, .slice (some ⟨g, 0, none⟩) n cap] 24)).ownsRow (w.heap.size + 1 + 1) 51 4 (.slice (some ⟨g, 0, none⟩) n cap) n (flatN (swapCell xs pv 0) n) := by rw [swap_zero]; exact hv3
  rw [hB6]
  clear hv hv3 hB2 b1
  generalize (w1.alloc (.cells #[.string nm, .slice (some ⟨g, 0, none⟩) n cap] 24)) = W1 at *
  go_loopw [7] (fun i wr => ∃ k : Nat, k ≤ n ∧ i = .int .i64 k ∧ Below w.heap.size w wr ∧ Blk wr (w.heap.size + 1) 33 #[.int .i64 0, .int .i64 0, .int .i64 0, .int .i64 0, .int .i64 0, .int .i64 0] ∧ Blk wr B6 24 #[.string nm, .slice (some ⟨g, 0, none⟩) n cap] ∧
    wr.ownsRow (w.heap.size + 1 + 1) 51 4 (.slice (some ⟨g, 0, none⟩) n cap) n (flatN (swapCell xs pv k) n)) (fun i _ => n - (intOf i).toNat)
  case atStart => exact ⟨0, by omega, rfl, hB3, b4, b6, hv4⟩
  clear hv4 b6 b4 hB3
  case round =>
    obtain ⟨k, hk, rfl, hB, b4, b6, hv⟩ := hrel
    have x0 : wr.cell? ⟨B6, 0, none⟩ = some (.string nm) := b6.cell 0
    have x1 : wr.cell? ⟨B6, 1, none⟩ = some (.slice (some ⟨g, 0, none⟩) n cap) := b6.cell 1
    have z6 := b6.lt
    by_cases hlt : k < n
    · have p0 : wr.cell? ⟨gp, k, none⟩ = some (.int .i64 (pv k)) := (hB.cell (p := ⟨gp, _, none⟩) hgp).trans (HPV.out k hlt)
      have hki : (k : Int) < (n : Int) := by omega
      have hk0 : (0 : Int) ≤ (k : Int) := by omega
      have hgpw : gp < wr.heap.size := by have := hB.size; omega
      have hst := hv.stored (k * 4 + 2) (.int .i64 (pv k))
      rw [swap_store xs pv hlt] at hst
      have f0 := hv.frozenAt (k * 4 + 2)
      have c0 : wr.cell? ⟨g, k * 4 + 2, none⟩ = some (.int .i64 (swapPh xs pv k k).phase) := (hv.cellAt _ (by omega)).trans (flatN_get (f := swapCell xs pv k) (s := 4) (j := 2) (fun _ => rfl) hlt (by omega))
      have hgw : g < wr.heap.size := (hv.lt g rfl).2
      have m4 := own_blk_ne hv b4 (by decide)
      have m6 := own_blk_ne hv b6 (by decide)
      have b4' := b4.grown hst.2 (Ne.symm m4)
      have b6' := b6.grown hst.2 (Ne.symm m6)
      have hB' := hB.grown hst.2 hB.size (fun j e => by injection e with e; omega)
      have HST := Lib.hid hst.1
      clear hst m4 m6 b4 b6 hB hv
      go_wp2
      refine wp_region_tail 9 (by kernel_rfl) (by kernel_rfl) ?_
      simp only [List.take_succ_cons, List.take_zero, List.drop_succ_cons, List.drop_zero]
      repeat still_step
      refine wpStill_nil ?_
      go_wp2
      go_roundw
      case rel => exact ⟨k + 1, by omega, by go_num, hB'.drew, b4'.drew, b6'.drew, HST.out⟩
      case measure => simp [intOf]; omega
    · obtain rfl : n = k := by omega
      obtain ⟨s0, s1, s2, s3, s4, s5, hsv⟩ := solveV_form nm (withPh xs pv)
      have hsl : SliceAt wr (some ⟨g, 0, none⟩) 4 Epoch.enc (withPh xs pv) := by
        refine sliceAt_of_own (n := n) (c := cap) (base := w.heap.size + 1 + 1) (e := 51) (fun _ => rfl) (by simp [withPh, HN.out]) ?_
        rwa [flatN_congr (g := fun j => Epoch.enc (nth (withPh xs pv) j)) (fun j hj => by rw [withPh, nth_range _ (by rw [HN.out]; exact hj), HN.out]; rfl)] at hv
      have hsol := solve_any nm (some ⟨g, 0, none⟩) n cap (withPh xs pv) wr hnm (by simp [withPh, HN.out]) (by unfold maxLen; omega) hsl
      obtain ⟨e0, he0⟩ : ∃ e0, solveErr nm (withPh xs pv) = e0 := ⟨_, rfl⟩
      rw [hsv, he0] at hsol
      have HSV := Lib.hid hsv
      have HE0 := Lib.hid he0
      clear hsl hv hsv he0
      go_wp2_with fail
      refine hsol.mono ?_
      rintro e w5 ⟨rfl, hb5⟩
      have d4 := b4.below hb5 b4.lt
      have hB5 := hB.trans (hb5.mono hB.size)
      have l4 := d4.lt
      have y0 : w5.cell? ⟨w.heap.size + 1, 0, none⟩ = some (.int .i64 0) := d4.cell 0
      have y1 : w5.cell? ⟨w.heap.size + 1, 1, none⟩ = some (.int .i64 0) := d4.cell 1
      have y2 : w5.cell? ⟨w.heap.size + 1, 2, none⟩ = some (.int .i64 0) := d4.cell 2
      have y3 : w5.cell? ⟨w.heap.size + 1, 3, none⟩ = some (.int .i64 0) := d4.cell 3
      have y4 : w5.cell? ⟨w.heap.size + 1, 4, none⟩ = some (.int .i64 0) := d4.cell 4
      have y5 : w5.cell? ⟨w.heap.size + 1, 5, none⟩ = some (.int .i64 0) := d4.cell 5
      have f4 := d4.frozen
      clear hsol hb5 hB b4 b6 x0 x1
      go_wp2
      have cc := (((((((d4.set_ 0 (.int .i64 s0)).set_ 1 (.int .i64 s1)).set_ 2 (.int .i64 s2)).set_ 3 (.int .i64 s3)).set_ 4 (.int .i64 s4)).set_ 5 (.int .i64 s5))).alloc (.cells #[.int .i64 s0, .int .i64 s1, .int .i64 s2, .int .i64 s3, .int .i64 s4, .int .i64 s5] 33)
      have hBB := ((((((hB5.setCell (p := ⟨w.heap.size + 1, 0, none⟩) (by simp) (.int .i64 s0)).setCell (p := ⟨w.heap.size + 1, 1, none⟩) (by simp) (.int .i64 s1)).setCell (p := ⟨w.heap.size + 1, 2, none⟩) (by simp) (.int .i64 s2)).setCell (p := ⟨w.heap.size + 1, 3, none⟩) (by simp) (.int .i64 s3)).setCell (p := ⟨w.heap.size + 1, 4, none⟩) (by simp) (.int .i64 s4)).setCell (p := ⟨w.heap.size + 1, 5, none⟩) (by simp) (.int .i64 s5)).alloc (by simp; exact hB5.size) (.cells #[.int .i64 s0, .int .i64 s1, .int .i64 s2, .int .i64 s3, .int .i64 s4, .int .i64 s5] 33)
      generalize (((((((w5.setCell ⟨w.heap.size + 1, 0, none⟩ (.int .i64 s0)).setCell ⟨w.heap.size + 1, 1, none⟩ (.int .i64 s1)).setCell ⟨w.heap.size + 1, 2, none⟩ (.int .i64 s2)).setCell ⟨w.heap.size + 1, 3, none⟩ (.int .i64 s3)).setCell ⟨w.heap.size + 1, 4, none⟩ (.int .i64 s4)).setCell ⟨w.heap.size + 1, 5, none⟩ (.int .i64 s5)).alloc (.cells #[.int .i64 s0, .int .i64 s1, .int .i64 s2, .int .i64 s3, .int .i64 s4, .int .i64 s5] 33)) = V at *
      have u0 : V.cell? ⟨w.heap.size + 1, 0, none⟩ = some (.int .i64 s0) := cc.cell 0
      have u1 : V.cell? ⟨w.heap.size + 1, 1, none⟩ = some (.int .i64 s1) := cc.cell 1
      have u2 : V.cell? ⟨w.heap.size + 1, 2, none⟩ = some (.int .i64 s2) := cc.cell 2
      have u3 : V.cell? ⟨w.heap.size + 1, 3, none⟩ = some (.int .i64 s3) := cc.cell 3
      have u4 : V.cell? ⟨w.heap.size + 1, 4, none⟩ = some (.int .i64 s4) := cc.cell 4
      have u5 : V.cell? ⟨w.heap.size + 1, 5, none⟩ = some (.int .i64 s5) := cc.cell 5
      exact bodyPost_ret (v := .tuple #[.agg #[.int .i64 s0, .int .i64 s1, .int .i64 s2, .int .i64 s3, .int .i64 s4, .int .i64 s5], .bool (e0 == 0)]) (by simp [results, Try.results12, go_sem, u0, u1, u2, u3, u4, u5]) rfl ⟨by rw [HSV.out, HE0.out], hBB⟩
end Go.Proofs.Ytncmdjhdfhhkjaa
