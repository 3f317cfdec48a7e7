/- The box of a task that grows: its four rows. -/
import Derived.Test.YtncmdjhdfhhkjaaTask
import Derived.Test.YtncmdjhdfhhkjaaDecimal
import Derived.Test.YtncmdjhdfhhkjaaCopy
import Derived.Test.YtncmdjhdfhhkjaaSpreadLaw
namespace Go.Proofs.Ytncmdjhdfhhkjaa
open Go.RowKit Go.Sort

theorem own_slice2 {w : World} {base : Nat} {e : TypeId} {s n : Nat} {v : Value} {xs : List Value} (h : w.ownsRow base e s v n xs) : ∃ A c, v = .slice A n c ∧ n ≤ c ∧ c ≤ maxLen := by
  rcases h.2 with ⟨rfl, rfl⟩ | ⟨g, cap, cur, rfl, h2, h3, h4, h5, _⟩
  · exact ⟨none, 0, rfl, Nat.le_refl _, Nat.zero_le _⟩
  · exact ⟨_, cap, rfl, h4, h5⟩
theorem apart_symm {u v : Value} (h : u.ownBlock = none ∨ u.ownBlock ≠ v.ownBlock) : v.ownBlock = none ∨ v.ownBlock ≠ u.ownBlock := by
  rcases h with h | h
  · by_cases e : v.ownBlock = none
    · exact .inl e
    · exact .inr (by rw [h]; exact e)
  · exact .inr (Ne.symm h)
theorem own_new_ne {w : World} {base : Nat} {e : TypeId} {s k : Nat} {v v' : Value} {xs : List Value} {g H : Nat} (h2 : w.ownsRow base e s v k xs) (ha : v.ownBlock = none ∨ v.ownBlock ≠ v'.ownBlock) (hat : v'.ownBlock = some g ∨ g = H) (hH : w.heap.size ≤ H) : v.ownBlock = none ∨ v.ownBlock ≠ some g := by
  rcases hat with hat | rfl
  · rw [← hat]; exact ha
  · exact .inr fun e => by have := (h2.lt g e).2; omega
/-- The box of the series, the result's cell, the box of the task with its four rows. -/
structure TaskBox (w wr : World) (nm : ByteArray) (A : Option Addr) (n c : Nat) (v1 : Value) (k1 : Nat) (x1 : List Value) (v2 : Value) (k2 : Nat) (x2 : List Value) (v3 : Value) (k3 : Nat) (x3 : List Value) (v4 : Value) (k4 : Nat) (x4 : List Value) : Prop where
  below : Below w.heap.size w wr
  b2 : Blk wr w.heap.size 24 #[.string nm, .slice A n c]
  b4 : Blk wr (w.heap.size + 1) 45 #[.slice none 0 0, .slice none 0 0, .slice none 0 0, .slice none 0 0]
  b5 : Blk wr (w.heap.size + 1 + 1) 45 #[v1, v2, v3, v4]
  o1 : wr.ownsRow (w.heap.size + 1 + 1 + 1) 76 3 v1 k1 x1
  o2 : wr.ownsRow (w.heap.size + 1 + 1 + 1) 79 2 v2 k2 x2
  o3 : wr.ownsRow (w.heap.size + 1 + 1 + 1) 3 1 v3 k3 x3
  o4 : wr.ownsRow (w.heap.size + 1 + 1 + 1) 3 1 v4 k4 x4
  apart : v3.ownBlock = none ∨ v3.ownBlock ≠ v4.ownBlock
section
variable {w wr wr' : World} {nm : ByteArray} {A : Option Addr} {n c k1 k2 k3 k4 : Nat} {v1 v2 v3 v4 : Value} {x1 x2 x3 x4 : List Value}
theorem TaskBox.later (h : TaskBox w wr nm A n c v1 k1 x1 v2 k2 x2 v3 k3 x3 v4 k4 x4) (hb : Below wr.heap.size wr wr') : TaskBox w wr' nm A n c v1 k1 x1 v2 k2 x2 v3 k3 x3 v4 k4 x4 :=
  ⟨h.below.trans (hb.mono h.below.size), h.b2.below hb h.b2.lt, h.b4.below hb h.b4.lt, h.b5.below hb h.b5.lt, own_below h.o1 hb, own_below h.o2 hb, own_below h.o3 hb, own_below h.o4 hb, h.apart⟩
theorem TaskBox.push2 (h : TaskBox w wr nm A n c v1 k1 x1 v2 k2 x2 v3 k3 x3 v4 k4 x4) {g cap : Nat} {y : List Value} (ho : wr'.ownsRow (w.heap.size + 1 + 1 + 1) 79 2 (.slice (some ⟨g, 0, none⟩) (k2 + 1) cap) (k2 + 1) y) (hg : wr.grownBy wr' v2.ownBlock) :
    TaskBox w (wr'.setCell ⟨w.heap.size + 1 + 1, 1, none⟩ (.slice (some ⟨g, 0, none⟩) (k2 + 1) cap)) nm A n c v1 k1 x1 (.slice (some ⟨g, 0, none⟩) (k2 + 1) cap) (k2 + 1) y v3 k3 x3 v4 k4 x4 := by
  have b2 := h.b2.grown hg (Ne.symm (own_blk_ne h.o2 h.b2 (by decide)))
  have b4 := h.b4.grown hg (Ne.symm (own_blk_ne h.o2 h.b4 (by decide)))
  have b5 := h.b5.grown hg (Ne.symm (own_blk_ne h.o2 h.b5 (by decide)))
  have hB := h.below.grown hg h.below.size (fun j e => by have := (h.o2.lt j e).1; omega)
  have o1 := h.o1.kept hg (own_own_ne h.o1 h.o2 (by decide))
  have o3 := h.o3.kept hg (own_own_ne h.o3 h.o2 (by decide))
  have o4 := h.o4.kept hg (own_own_ne h.o4 h.o2 (by decide))
  exact ⟨hB.setCell (p := ⟨w.heap.size + 1 + 1, 1, none⟩) (by simp; omega) _, b2.far (p := ⟨w.heap.size + 1 + 1, 1, none⟩) (by simp; omega) _, b4.far (p := ⟨w.heap.size + 1 + 1, 1, none⟩) (by simp) _, b5.set_ 1 _,
    ownsRow_setCell_other (a := ⟨w.heap.size + 1 + 1, 1, none⟩) o1 (own_blk_ne o1 b5 (by decide)) _, ownsRow_setCell_other (a := ⟨w.heap.size + 1 + 1, 1, none⟩) ho (own_blk_ne ho b5 (by decide)) _,
    ownsRow_setCell_other (a := ⟨w.heap.size + 1 + 1, 1, none⟩) o3 (own_blk_ne o3 b5 (by decide)) _, ownsRow_setCell_other (a := ⟨w.heap.size + 1 + 1, 1, none⟩) o4 (own_blk_ne o4 b5 (by decide)) _, h.apart⟩
theorem TaskBox.push4 (h : TaskBox w wr nm A n c v1 k1 x1 v2 k2 x2 v3 k3 x3 v4 k4 x4) {g cap H : Nat} {y : List Value} (ho : wr'.ownsRow (w.heap.size + 1 + 1 + 1) 3 1 (.slice (some ⟨g, 0, none⟩) (k4 + 1) cap) (k4 + 1) y) (hg : wr.grownBy wr' v4.ownBlock)
    (hat : v4.ownBlock = some g ∨ g = H) (hH : wr.heap.size ≤ H) :
    TaskBox w (wr'.setCell ⟨w.heap.size + 1 + 1, 3, none⟩ (.slice (some ⟨g, 0, none⟩) (k4 + 1) cap)) nm A n c v1 k1 x1 v2 k2 x2 v3 k3 x3 (.slice (some ⟨g, 0, none⟩) (k4 + 1) cap) (k4 + 1) y := by
  have b2 := h.b2.grown hg (Ne.symm (own_blk_ne h.o4 h.b2 (by decide)))
  have b4 := h.b4.grown hg (Ne.symm (own_blk_ne h.o4 h.b4 (by decide)))
  have b5 := h.b5.grown hg (Ne.symm (own_blk_ne h.o4 h.b5 (by decide)))
  have hB := h.below.grown hg h.below.size (fun j e => by have := (h.o4.lt j e).1; omega)
  have o1 := h.o1.kept hg (own_own_ne h.o1 h.o4 (by decide))
  have o2 := h.o2.kept hg (own_own_ne h.o2 h.o4 (by decide))
  have o3 := h.o3.kept hg h.apart
  exact ⟨hB.setCell (p := ⟨w.heap.size + 1 + 1, 3, none⟩) (by simp; omega) _, b2.far (p := ⟨w.heap.size + 1 + 1, 3, none⟩) (by simp; omega) _, b4.far (p := ⟨w.heap.size + 1 + 1, 3, none⟩) (by simp) _, b5.set_ 3 _,
    ownsRow_setCell_other (a := ⟨w.heap.size + 1 + 1, 3, none⟩) o1 (own_blk_ne o1 b5 (by decide)) _, ownsRow_setCell_other (a := ⟨w.heap.size + 1 + 1, 3, none⟩) o2 (own_blk_ne o2 b5 (by decide)) _,
    ownsRow_setCell_other (a := ⟨w.heap.size + 1 + 1, 3, none⟩) o3 (own_blk_ne o3 b5 (by decide)) _, ownsRow_setCell_other (a := ⟨w.heap.size + 1 + 1, 3, none⟩) ho (own_blk_ne ho b5 (by decide)) _,
    own_new_ne h.o3 h.apart hat hH⟩
theorem TaskBox.push3 (h : TaskBox w wr nm A n c v1 k1 x1 v2 k2 x2 v3 k3 x3 v4 k4 x4) {g cap H : Nat} {y : List Value} (ho : wr'.ownsRow (w.heap.size + 1 + 1 + 1) 3 1 (.slice (some ⟨g, 0, none⟩) (k3 + 1) cap) (k3 + 1) y) (hg : wr.grownBy wr' v3.ownBlock)
    (hat : v3.ownBlock = some g ∨ g = H) (hH : wr.heap.size ≤ H) :
    TaskBox w (wr'.setCell ⟨w.heap.size + 1 + 1, 2, none⟩ (.slice (some ⟨g, 0, none⟩) (k3 + 1) cap)) nm A n c v1 k1 x1 v2 k2 x2 (.slice (some ⟨g, 0, none⟩) (k3 + 1) cap) (k3 + 1) y v4 k4 x4 := by
  have b2 := h.b2.grown hg (Ne.symm (own_blk_ne h.o3 h.b2 (by decide)))
  have b4 := h.b4.grown hg (Ne.symm (own_blk_ne h.o3 h.b4 (by decide)))
  have b5 := h.b5.grown hg (Ne.symm (own_blk_ne h.o3 h.b5 (by decide)))
  have hB := h.below.grown hg h.below.size (fun j e => by have := (h.o3.lt j e).1; omega)
  have o1 := h.o1.kept hg (own_own_ne h.o1 h.o3 (by decide))
  have o2 := h.o2.kept hg (own_own_ne h.o2 h.o3 (by decide))
  have o4 := h.o4.kept hg (apart_symm h.apart)
  exact ⟨hB.setCell (p := ⟨w.heap.size + 1 + 1, 2, none⟩) (by simp; omega) _, b2.far (p := ⟨w.heap.size + 1 + 1, 2, none⟩) (by simp; omega) _, b4.far (p := ⟨w.heap.size + 1 + 1, 2, none⟩) (by simp) _, b5.set_ 2 _,
    ownsRow_setCell_other (a := ⟨w.heap.size + 1 + 1, 2, none⟩) o1 (own_blk_ne o1 b5 (by decide)) _, ownsRow_setCell_other (a := ⟨w.heap.size + 1 + 1, 2, none⟩) o2 (own_blk_ne o2 b5 (by decide)) _,
    ownsRow_setCell_other (a := ⟨w.heap.size + 1 + 1, 2, none⟩) ho (own_blk_ne ho b5 (by decide)) _, ownsRow_setCell_other (a := ⟨w.heap.size + 1 + 1, 2, none⟩) o4 (own_blk_ne o4 b5 (by decide)) _,
    apart_symm (by
      have := own_new_ne h.o4 (apart_symm h.apart) hat hH
      exact this)⟩
end

theorem ownsRow_set4 {w : World} {g base : Nat} {e : TypeId} {s n : Nat} {v : Value} {xs : List Value} (h : w.ownsRow base e s v n xs) (hne : v.ownBlock ≠ some g) (u0 u1 u2 u3 : Value) :
    ((((w.setCell ⟨g, 0, none⟩ u0).setCell ⟨g, 1, none⟩ u1).setCell ⟨g, 2, none⟩ u2).setCell ⟨g, 3, none⟩ u3).ownsRow base e s v n xs :=
  ownsRow_setCell_other (a := ⟨g, 3, none⟩) (ownsRow_setCell_other (a := ⟨g, 2, none⟩) (ownsRow_setCell_other (a := ⟨g, 1, none⟩) (ownsRow_setCell_other (a := ⟨g, 0, none⟩) h hne _) hne _) hne _) hne _
/-- Both ends of a pair are dates. -/
def inDates (n : Nat) (p : SPair) : Bool := withinB p.first 0 ((n : Int) - 1) && withinB p.second 0 ((n : Int) - 1)
/-- The phase of a pair. -/
def phaseOf (xs : List Epoch) (p : SPair) : Int := (nth xs p.second.toNat).phase - (nth xs p.first.toNat).phase
/-- The phases of the first k pairs that are right. -/
def phUpto (xs : List Epoch) (ps : List SPair) : Nat → List Int
  | 0 => []
  | k + 1 => if inDates xs.length (nth ps k) = true then phUpto xs ps k ++ [phaseOf xs (nth ps k)] else phUpto xs ps k
theorem phUpto_len (xs : List Epoch) (ps : List SPair) : ∀ k, (phUpto xs ps k).length ≤ k
  | 0 => Nat.le_refl _
  | k + 1 => by
    have := phUpto_len xs ps k
    unfold phUpto
    split
    · simp; omega
    · omega
theorem phUpto_all {xs : List Epoch} {ps : List SPair} : ∀ {k : Nat}, (∀ i, i < k → inDates xs.length (nth ps i) = true) → (phUpto xs ps k).length = k ∧ ∀ i, i < k → (phUpto xs ps k)[i]? = some (phaseOf xs (nth ps i))
  | 0, _ => ⟨rfl, fun i h => absurd h (Nat.not_lt_zero i)⟩
  | k + 1, h => by
    obtain ⟨h1, h2⟩ := phUpto_all (k := k) (fun i hi => h i (by omega))
    unfold phUpto
    rw [if_pos (h k (by omega))]
    refine ⟨by simp [h1], fun i hi => ?_⟩
    by_cases e : i = k
    · subst e; rw [List.getElem?_append_right (by omega), h1]; simp
    · rw [List.getElem?_append_left (by omega)]; exact h2 i (by omega)
def pairCell (ps : List SPair) (k : Nat) : List Value := (nth ps k).enc
def intsV (l : List Int) : List Value := l.map (Value.int .i64)
theorem intsV_flat (l : List Int) : intsV l = flatN (fun k => encI1 (nth l k)) l.length := by
  rw [flatN_one (f := fun k => encI1 (nth l k)) (u := fun k => .int .i64 (nth l k)) (fun _ => rfl)]
  apply List.ext_getElem
  · simp [intsV]
  · intro i h1 h2
    simp only [intsV, List.getElem_map, List.getElem_range]
    rw [nth_eq (by simpa [intsV] using h1)]
end Go.Proofs.Ytncmdjhdfhhkjaa
