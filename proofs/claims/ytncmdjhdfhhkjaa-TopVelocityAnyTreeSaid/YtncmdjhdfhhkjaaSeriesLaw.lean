/- Series as data: what is checked, and the first error of a list. No program in sight, but for values. -/
import Derived.Test.YtncmdjhdfhhkjaaName
namespace Go.Proofs.Ytncmdjhdfhhkjaa
open Go.RowKit

/-- The first number that is not 0, of f 0, f 1, .. f (n - 1); 0 if all are 0. -/
def firstErr (f : Nat → Int) : Nat → Int
  | 0 => 0
  | n + 1 => if firstErr f n = 0 then f n else firstErr f n
theorem firstErr_zero {f : Nat → Int} : ∀ {n : Nat}, (∀ j, j < n → f j = 0) → firstErr f n = 0
  | 0, _ => rfl
  | n + 1, h => by
    have := firstErr_zero (n := n) (fun j hj => h j (by omega))
    simp [firstErr, this, h n (by omega)]
theorem firstErr_hit {f : Nat → Int} {k : Nat} (h0 : ∀ j, j < k → f j = 0) (hk : f k ≠ 0) : ∀ {n : Nat}, k < n → firstErr f n = f k
  | 0, h => by omega
  | n + 1, h => by
    by_cases e : k = n
    · subst e; simp [firstErr, firstErr_zero h0]
    · have := firstErr_hit h0 hk (n := n) (by omega)
      simp [firstErr, this, hk]
theorem firstErr_all {f : Nat → Int} : ∀ {n : Nat}, firstErr f n = 0 → ∀ j, j < n → f j = 0
  | 0, _ => fun j hj => by omega
  | n + 1, h => fun j hj => by
    unfold firstErr at h
    by_cases e : firstErr f n = 0
    · rw [if_pos e] at h
      by_cases ej : j = n
      · subst ej; exact h
      · exact firstErr_all e j (by omega)
    · rw [if_neg e] at h; exact absurd h e
theorem zeros_snoc {f : Nat → Int} {k : Nat} (h : ∀ j, j < k → f j = 0) (hk : f k = 0) : ∀ j, j < k + 1 → f j = 0 := fun j hj => by
  by_cases e : j = k
  · subst e; exact hk
  · exact h j (by omega)

/-- The k-th of a list, closed to the walk's simp. -/
def nth {α : Type} [Inhabited α] (xs : List α) (k : Nat) : α := xs.getD k default
theorem nth_eq {α : Type} [Inhabited α] {xs : List α} {k : Nat} (h : k < xs.length) : nth xs k = xs[k] := by unfold nth; rw [List.getD_eq_getElem?_getD, List.getElem?_eq_getElem h]; rfl

/-- A slice whose elements, of 'size' cells each, are the data xs. -/
def SliceAt {α : Type} [Inhabited α] (w : World) (A : Option Addr) (size : Nat) (enc : α → List Value) (xs : List α) : Prop :=
  0 < xs.length → ∃ b off, A = some ⟨b, off, none⟩ ∧ b < w.heap.size ∧ ∀ k, k < xs.length → ∀ j u, (enc (nth xs k))[j]? = some u → w.cell? ⟨b, off + k * size + j, none⟩ = some u

theorem SliceAt.below {α : Type} [Inhabited α] {w w' : World} {A : Option Addr} {size : Nat} {enc : α → List Value} {xs : List α} (h : SliceAt w A size enc xs) (hb : Below w.heap.size w w') : SliceAt w' A size enc xs := fun hp => by
  obtain ⟨b, off, hA, hlt, hc⟩ := h hp
  exact ⟨b, off, hA, Nat.lt_of_lt_of_le hlt hb.size, fun k hk j u hu => (hb.cell (p := ⟨b, _, none⟩) hlt).trans (hc k hk j u hu)⟩
theorem SliceAt.alloc {α : Type} [Inhabited α] {w : World} {A : Option Addr} {size : Nat} {enc : α → List Value} {xs : List α} (h : SliceAt w A size enc xs) (o : Obj) : SliceAt (w.alloc o) A size enc xs :=
  h.below ((Below.refl _ _).alloc (Nat.le_refl _) o)
theorem SliceAt.drewN {α : Type} [Inhabited α] {w : World} {A : Option Addr} {size : Nat} {enc : α → List Value} {xs : List α} (h : SliceAt w A size enc xs) (n : Nat) : SliceAt (w.drewN n) A size enc xs := h
theorem SliceAt.nil {α : Type} [Inhabited α] {w : World} {A : Option Addr} {size : Nat} {enc : α → List Value} : SliceAt w A size enc [] := fun h => absurd h (by simp)

/-- A date of a series. -/
structure Epoch where
  day : Int
  base : Int
  phase : Int
  margin : Int
  deriving DecidableEq
def Epoch.enc (x : Epoch) : List Value := [.int .i64 x.day, .int .i64 x.base, .int .i64 x.phase, .int .i64 x.margin]
instance : Inhabited Epoch := ⟨⟨0, 0, 0, 0⟩⟩

/-- The error of date i of a series, behind those ahead of it. -/
def epochErr (xs : List Epoch) (i : Nat) : Int :=
  if (withinB (nth xs (i)).day 0 100000 && withinB (nth xs (i)).base (-100) 100 && withinB (nth xs (i)).phase (-16000) 16000 && withinB (nth xs (i)).margin 0 2048) = false then 2
  else if 0 < i ∧ (nth xs (i)).day ≤ (nth xs (i - 1)).day then 9
  else if 400 < (nth xs (i)).day - (nth xs (0)).day then 8
  else 0
/-- The error of a series. -/
noncomputable def seriesErr (nm : ByteArray) (xs : List Epoch) : Int :=
  if nameB nm = false then 4 else if xs.length = 0 then 10 else if 20 < xs.length then 8 else firstErr (epochErr xs) xs.length
end Go.Proofs.Ytncmdjhdfhhkjaa
