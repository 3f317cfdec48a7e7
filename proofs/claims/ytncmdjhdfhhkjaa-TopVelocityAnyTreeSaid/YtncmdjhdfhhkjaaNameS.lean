/- The third of the functions that ask whether a text is a name: it goes over the text's bytes as a slice. -/
import Derived.Test.YtncmdjhdfhhkjaaName
import Derived.Lib.ConvBytes
namespace Go.Proofs.Ytncmdjhdfhhkjaa
open Go.RowKit

theorem conv_bytes (w : World) (s : ByteArray) : ∃ (w1 : World) (c : Nat), (convert 9 91 (.string s)).run Try.prog w = .ok (.slice (some ⟨w.heap.size, 0, none⟩) s.size c) w1 ∧ Below w.heap.size w w1 ∧
    ∀ j (h : j < s.size), w1.cell? ⟨w.heap.size, j, none⟩ = some (.int .u8 (s[j].toNat : Int)) := by
  refine ⟨_, _, Lib.run_convert_string_bytes w 9 91 5 s (u := .string) Try.underlying9 Try.underlying91 Try.underlying5, ⟨rfl, rfl, rfl, by rw [Lib.bytesWorld_size]; omega, fun k hk => Lib.bytesWorld_at_old w _ s k hk⟩, fun j h => ?_⟩
  rw [Lib.bytesWorld_cell w _ s j h]
  congr 3
  have hj : j < s.data.toList.length := by simpa using h
  rw [List.getD_eq_getElem?_getD, List.getElem?_eq_getElem hj]
  rfl

theorem byte_class' (c : UInt8) : (97 ≤ (c.toNat : Int) ∧ (c.toNat : Int) ≤ 122 ∧ ((c.toNat : Int) == 45) = false) ∨ (65 ≤ (c.toNat : Int) ∧ (c.toNat : Int) ≤ 90 ∧ ((c.toNat : Int) == 45) = false) ∨
    (45 ≤ (c.toNat : Int) ∧ (c.toNat : Int) ≤ 45 ∧ ((c.toNat : Int) == 45) = true) ∨ (48 ≤ (c.toNat : Int) ∧ (c.toNat : Int) ≤ 57 ∧ ((c.toNat : Int) == 45) = false) ∨
    (0 ≤ (c.toNat : Int) ∧ (c.toNat : Int) ≤ 44 ∧ ((c.toNat : Int) == 45) = false) ∨ (46 ≤ (c.toNat : Int) ∧ (c.toNat : Int) ≤ 47 ∧ ((c.toNat : Int) == 45) = false) ∨
    (58 ≤ (c.toNat : Int) ∧ (c.toNat : Int) ≤ 64 ∧ ((c.toNat : Int) == 45) = false) ∨ (91 ≤ (c.toNat : Int) ∧ (c.toNat : Int) ≤ 96 ∧ ((c.toNat : Int) == 45) = false) ∨
    (123 ≤ (c.toNat : Int) ∧ (c.toNat : Int) ≤ 255 ∧ ((c.toNat : Int) == 45) = false) := by
  have := c.toNat_lt
  simp only [beq_iff_eq, beq_eq_false_iff_ne, ne_eq]
  omega

set_option maxRecDepth 100000 in
set_option maxHeartbeats 1000000 in
theorem stack_isName (s : ByteArray) (w : World) (hs : s.size ≤ maxLen) :
    Calls Try.prog 59 #[.string s] w fun e w' => e = .returned (.bool (nameB s)) ∧ Below w.heap.size w w' := by
  unfold maxLen at hs
  by_cases h0 : s.size = 0
  · have he : s.toList.isEmpty = true := by rw [toList_nil h0]; rfl
    have h1 : ¬ (1 ≤ s.size ∧ s.size ≤ 12) := by omega
    clear h0
    go_enter Try.func59, Try.ntmps59
    go_wp2
    go_ret
    exact ⟨ret_bool (nameB_len h1), Below.refl _ _⟩
  · have he2 : s.toList.isEmpty = false := by have := toList_ne h0; simpa using this
    by_cases h1 : s.size ≤ 12
    · obtain ⟨w1, c, hcv, hBB, hcell⟩ := conv_bytes w s
      go_enter Try.func59, Try.ntmps59
      go_wp2
      go_loop [15] (fun i => ∃ k : Nat, k ≤ s.size ∧ i = .int .i64 k ∧ ∀ i (h : i < s.size), i < k → okC i (s[i].toNat : Int)) (fun i => s.size - (intOf i).toNat)
      case atStart => exact ⟨0, Nat.zero_le _, rfl, fun i _ h => by omega⟩
      case round =>
        obtain ⟨k, hk, rfl, hr⟩ := hrel
        by_cases hlt : k < s.size
        · have hck := hcell k hlt
          clear hcell
          have hcl := byte_class' s[k]
          rcases hcl with hc | hc | hc | hc | hc | hc | hc | hc | hc
          all_goals
            obtain ⟨hc1, hc2, hc3⟩ := hc
            go_wp2
            all_goals first
              | (go_round
                 case rel => exact ⟨k + 1, by omega, by go_num, upto_snoc hr hlt (by unfold okC; omega)⟩
                 case measure => simp [intOf]; omega)
              | (go_ret; exact ⟨ret_bool (nameB_not k hlt (by unfold okC; omega)), hBB⟩)
              | (exfalso; go_light; simp only [Bool.not_eq_false', decide_eq_true_eq] at *; omega)
        · go_wp2
          go_ret
          exact ⟨ret_bool (nameB_of ⟨by omega, h1, fun i hi => hr i hi (by omega)⟩), hBB⟩
    · have h2 : ¬ (1 ≤ s.size ∧ s.size ≤ 12) := by omega
      go_enter Try.func59, Try.ntmps59
      go_wp2
      go_ret
      exact ⟨ret_bool (nameB_len h2), Below.refl _ _⟩
end Go.Proofs.Ytncmdjhdfhhkjaa
