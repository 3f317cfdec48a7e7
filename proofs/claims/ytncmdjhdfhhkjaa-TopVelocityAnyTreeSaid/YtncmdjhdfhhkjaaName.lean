/- What a name is, and that the three functions of the program that ask it return just that. -/
import Derived.Test.YtncmdjhdfhhkjaaBase
import Derived.Deep.Light
namespace Go.Proofs.Ytncmdjhdfhhkjaa
open Go.RowKit

/-- The byte c may stand at place i of a name. -/
def okC (i : Nat) (c : Int) : Prop := (97 ≤ c ∧ c ≤ 122) ∨ (65 ≤ c ∧ c ≤ 90) ∨ (0 < i ∧ (c = 45 ∨ (48 ≤ c ∧ c ≤ 57)))
instance (i : Nat) (c : Int) : Decidable (okC i c) := by unfold okC; infer_instance
/-- 1 to 12 letters, digits and '-', a letter first. -/
def IsName (s : ByteArray) : Prop := 1 ≤ s.size ∧ s.size ≤ 12 ∧ ∀ i (h : i < s.size), okC i (s[i].toNat : Int)
noncomputable def nameB (s : ByteArray) : Bool := @decide (IsName s) (Classical.propDecidable _)
theorem nameB_true {s : ByteArray} : nameB s = true ↔ IsName s := by simp [nameB]
theorem nameB_false {s : ByteArray} : nameB s = false ↔ ¬ IsName s := by simp [nameB]
theorem nameB_of {s : ByteArray} (h : IsName s) : true = nameB s := (nameB_true.2 h).symm
theorem nameB_not {s : ByteArray} (k : Nat) (hk : k < s.size) (h : ¬ okC k (s[k].toNat : Int)) : false = nameB s := (nameB_false.2 fun hn => h (hn.2.2 k hk)).symm
theorem nameB_len {s : ByteArray} (h : ¬ (1 ≤ s.size ∧ s.size ≤ 12)) : false = nameB s := (nameB_false.2 fun hn => h ⟨hn.1, hn.2.1⟩).symm
theorem upto_snoc {s : ByteArray} {k : Nat} (h : ∀ i (h : i < s.size), i < k → okC i (s[i].toNat : Int)) (hk : k < s.size) (hc : okC k (s[k].toNat : Int)) :
    ∀ i (h : i < s.size), i < k + 1 → okC i (s[i].toNat : Int) := fun i hi hik => by
  by_cases e : i = k
  · subst e; exact hc
  · exact h i hi (by omega)

theorem toList_len (s : ByteArray) : s.toList.length = s.size := by rw [ByteArray.toList_eq]; simp
theorem toList_nil {s : ByteArray} (h : s.size = 0) : s.toList = [] := List.eq_nil_of_length_eq_zero (by rw [toList_len]; exact h)
theorem toList_ne {s : ByteArray} (h : ¬ s.size = 0) : (!s.toList.isEmpty) = true := by
  have h2 := toList_len s
  cases e : s.toList with
  | nil => rw [e] at h2; simp at h2; omega
  | cons x r => rfl
theorem nameB_fin {s : ByteArray} (h0 : ¬ s.size = 0) (hr : ∀ i (h : i < s.size), okC i (s[i].toNat : Int)) : decide ((s.size : Int) ≤ 12) = nameB s := by
  by_cases h : s.size ≤ 12
  · rw [← nameB_of ⟨by omega, h, hr⟩]; simp; omega
  · rw [← nameB_len (by omega)]; simp; omega
/-- The classes of bytes that the tests of a name part; in each every test is decided. -/
theorem byte_class (c : UInt8) : (97 ≤ (c.toNat : Int) ∧ (c.toNat : Int) ≤ 122 ∧ ((c.toNat : Int) != 45) = true) ∨ (65 ≤ (c.toNat : Int) ∧ (c.toNat : Int) ≤ 90 ∧ ((c.toNat : Int) != 45) = true) ∨
    (45 ≤ (c.toNat : Int) ∧ (c.toNat : Int) ≤ 45 ∧ ((c.toNat : Int) != 45) = false) ∨ (48 ≤ (c.toNat : Int) ∧ (c.toNat : Int) ≤ 57 ∧ ((c.toNat : Int) != 45) = true) ∨
    (0 ≤ (c.toNat : Int) ∧ (c.toNat : Int) ≤ 44 ∧ ((c.toNat : Int) != 45) = true) ∨ (46 ≤ (c.toNat : Int) ∧ (c.toNat : Int) ≤ 47 ∧ ((c.toNat : Int) != 45) = true) ∨
    (58 ≤ (c.toNat : Int) ∧ (c.toNat : Int) ≤ 64 ∧ ((c.toNat : Int) != 45) = true) ∨ (91 ≤ (c.toNat : Int) ∧ (c.toNat : Int) ≤ 96 ∧ ((c.toNat : Int) != 45) = true) ∨
    (123 ≤ (c.toNat : Int) ∧ (c.toNat : Int) ≤ 255 ∧ ((c.toNat : Int) != 45) = true) := by
  have := c.toNat_lt
  simp only [bne_iff_ne, ne_eq, bne_eq_false_iff_eq]
  omega

set_option maxRecDepth 100000 in
set_option maxHeartbeats 1000000 in
theorem base_IsName (s : ByteArray) (w : World) (hs : s.size ≤ maxLen) :
    Calls Try.prog 15 #[.string s] w fun e w' => e = .returned (.bool (nameB s)) ∧ w = w' := by
  unfold maxLen at hs
  by_cases hl : 1 ≤ s.size ∧ s.size ≤ 12
  · obtain ⟨h1, h2⟩ := hl
    go_enter Try.func15, Try.ntmps15
    go_wp2
    go_loop [3] (fun i => ∃ k : Nat, k ≤ s.size ∧ i = .int .i64 k ∧ ∀ i (h : i < s.size), i < k → okC i (s[i].toNat : Int)) (fun i => s.size - (intOf i).toNat)
    case atStart => exact ⟨0, Nat.zero_le _, rfl, fun i _ h => by omega⟩
    case round =>
      obtain ⟨k, hk, rfl, hr⟩ := hrel
      by_cases hlt : k < s.size
      · have hcl := byte_class s[k]
        rcases Nat.eq_zero_or_pos k with hk0 | hk0
        · obtain rfl : 0 = k := hk0.symm
          rcases hcl with hc | hc | hc | hc | hc | hc | hc | hc | hc
          all_goals
            obtain ⟨hc1, hc2, hc3⟩ := hc
            go_wp2
            all_goals first
              | (go_round
                 case rel => exact ⟨1, by omega, rfl, upto_snoc hr hlt (by unfold okC; omega)⟩
                 case measure => simp [intOf]; omega)
              | (go_ret; exact ⟨ret_bool (nameB_not 0 hlt (by unfold okC; omega)), rfl⟩)
              | (exfalso; go_light; simp only [Bool.not_eq_false', decide_eq_true_eq] at *; omega)
        · have hk1 : ((k : Int) == 0) = false := by simp; omega
          rcases hcl with hc | hc | hc | hc | hc | hc | hc | hc | hc
          all_goals
            obtain ⟨hc1, hc2, hc3⟩ := hc
            go_wp2
            all_goals first
              | (go_round
                 case rel => exact ⟨k + 1, by omega, by go_num, upto_snoc hr hlt (by unfold okC; omega)⟩
                 case measure => simp [intOf]; omega)
              | (go_ret; exact ⟨ret_bool (nameB_not k hlt (by unfold okC; omega)), rfl⟩)
              | (exfalso; go_light; simp only [Bool.not_eq_false', decide_eq_true_eq] at *; omega)
      · go_wp2
        go_ret
        exact ⟨ret_bool (nameB_of ⟨h1, h2, fun i hi => hr i hi (by omega)⟩), rfl⟩
  · have h3 : s.size < 1 ∨ 12 < s.size := by omega
    rcases h3 with h3 | h3
    all_goals
      go_enter Try.func15, Try.ntmps15
      go_wp2
      go_ret
      exact ⟨ret_bool (nameB_len hl), rfl⟩
set_option maxRecDepth 100000 in
set_option maxHeartbeats 1000000 in
theorem series_isName (s : ByteArray) (w : World) (hs : s.size ≤ maxLen) :
    Calls Try.prog 56 #[.string s] w fun e w' => e = .returned (.bool (nameB s)) ∧ w = w' := by
  unfold maxLen at hs
  go_enter Try.func56, Try.ntmps56
  go_wp2
  go_loop [8] (fun i => ∃ k : Nat, k ≤ s.size ∧ i = .int .i64 k ∧ ∀ i (h : i < s.size), i < k → okC i (s[i].toNat : Int)) (fun i => s.size - (intOf i).toNat)
  case atStart => exact ⟨0, Nat.zero_le _, rfl, fun i _ h => by omega⟩
  case round =>
      obtain ⟨k, hk, rfl, hr⟩ := hrel
      by_cases hlt : k < s.size
      · have hcl := byte_class s[k]
        rcases Nat.eq_zero_or_pos k with hk0 | hk0
        · obtain rfl : 0 = k := hk0.symm
          rcases hcl with hc | hc | hc | hc | hc | hc | hc | hc | hc
          all_goals
            obtain ⟨hc1, hc2, hc3⟩ := hc
            go_wp2
            all_goals first
              | (go_round
                 case rel => exact ⟨1, by omega, rfl, upto_snoc hr hlt (by unfold okC; omega)⟩
                 case measure => simp [intOf]; omega)
              | (go_ret; exact ⟨ret_bool (nameB_not 0 hlt (by unfold okC; omega)), rfl⟩)
              | (exfalso; go_light; simp only [Bool.not_eq_false', decide_eq_true_eq] at *; omega)
        · have hk1 : ((k : Int) == 0) = false := by simp; omega
          rcases hcl with hc | hc | hc | hc | hc | hc | hc | hc | hc
          all_goals
            obtain ⟨hc1, hc2, hc3⟩ := hc
            go_wp2
            all_goals first
              | (go_round
                 case rel => exact ⟨k + 1, by omega, by go_num, upto_snoc hr hlt (by unfold okC; omega)⟩
                 case measure => simp [intOf]; omega)
              | (go_ret; exact ⟨ret_bool (nameB_not k hlt (by unfold okC; omega)), rfl⟩)
              | (exfalso; go_light; simp only [Bool.not_eq_false', decide_eq_true_eq] at *; omega)
      · by_cases h0 : s.size = 0
        · have he : s.toList = [] := toList_nil h0
          have he2 : (!s.toList.isEmpty) = false := by rw [he]; rfl
          have h1 : ¬ (1 ≤ s.size ∧ s.size ≤ 12) := by omega
          clear h0 he
          go_wp2
          go_ret
          exact ⟨ret_bool (nameB_len h1), rfl⟩
        · have he2 : (!s.toList.isEmpty) = true := toList_ne h0
          go_wp2
          go_ret
          exact ⟨ret_bool (nameB_fin h0 fun i hi => hr i hi (by omega)), rfl⟩

end Go.Proofs.Ytncmdjhdfhhkjaa
