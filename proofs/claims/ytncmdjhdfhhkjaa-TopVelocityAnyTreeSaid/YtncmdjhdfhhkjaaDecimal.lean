/- The text of a number of one digit. -/
import Derived.Test.YtncmdjhdfhhkjaaNormal
import Derived.Laws.BytesArg
import Derived.Laws.Concat
namespace Go.Proofs.Ytncmdjhdfhhkjaa
open Go.RowKit

set_option maxRecDepth 100000 in
set_option maxHeartbeats 1000000 in
theorem decimal_small (k : Nat) (w : World) (hk : k < 10) :
    Calls Try.prog 23 #[.int .i64 (k : Int)] w fun e w' => (∃ s, e = .returned (.string s) ∧ s.size = 1) ∧ Below w.heap.size w w' := by
  rcases Nat.eq_zero_or_pos k with rfl | h0
  · go_enter Try.func23, Try.ntmps23
    go_wp2
    go_ret
    exact ⟨⟨_, rfl, rfl⟩, Below.refl _ _⟩
  · have h1 : ((k : Int) == 0) = false := by simp; omega
    have h2 : ((k : Int) != 0) = true := by simp; omega
    have h3 : (k : Int) % 10 = (k : Int) := by omega
    have h4 : (k : Int) / 10 = 0 := by omega
    have h5 : (k : Int).tmod 10 = (k : Int) := by rw [Int.tmod_eq_emod_of_nonneg (by omega)]; omega
    have h6 : (k : Int).tdiv 10 = 0 := by rw [Int.tdiv_eq_ediv_of_nonneg (by omega)]; omega
    have h7 : max (k : Int) (-(k : Int)) = (k : Int) := by omega
    have hcv : (convert 91 9 (.slice (some ⟨w.heap.size, 0, none⟩) 1 1)).run Try.prog (w.alloc (.cells #[.int .u8 (48 + (k : Int))] 5)) = .ok (.string (strOfNums [48 + (k : Int)])) (w.alloc (.cells #[.int .u8 (48 + (k : Int))] 5)) :=
      run_convert_bytes_arg _ 91 5 Try.underlying91 Try.underlying5 w.heap.size 0 1 1 [48 + (k : Int)] rfl (fun i hi => by have e : i = 0 := (by omega); subst e; exact (Blk.new w _ _).cell 0) _ Try.underlying9
    go_enter Try.func23, Try.ntmps23
    go_wp2
    refine wp_loop_rounds 2 ?_
    rw [rounds_succ]
    go_wp2_with (go_at_call 36; refine (base_Size _ _ (by omega) (by omega)).mono ?_; rintro e w' ⟨rfl, rfl⟩)
    rw [rounds_succ]
    go_wp2
    go_ret
    exact ⟨⟨_, rfl, by simp [ByteArray.size, strOfNums]⟩, (Below.refl _ _).alloc (Nat.le_refl _) _⟩
end Go.Proofs.Ytncmdjhdfhhkjaa
