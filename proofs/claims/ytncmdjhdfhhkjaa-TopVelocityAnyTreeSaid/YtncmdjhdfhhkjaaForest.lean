/- Pairs that join all that can be joined: the plain law of it. -/
import Derived.Test.YtncmdjhdfhhkjaaSortB
namespace Go.Proofs.Ytncmdjhdfhhkjaa
open Go.RowKit Go.Sort

/-- Scenes that are joined by the pairs of E. -/
inductive Conn (ps : List SPair) (E : Nat → Prop) : Nat → Nat → Prop
  | refl (a : Nat) : Conn ps E a a
  | edge (k : Nat) : E k → Conn ps E (pa ps k) (pb ps k)
  | symm {a b : Nat} : Conn ps E a b → Conn ps E b a
  | trans {a b c : Nat} : Conn ps E a b → Conn ps E b c → Conn ps E a c
theorem Conn.mono {ps : List SPair} {E E' : Nat → Prop} (h : ∀ k, E k → E' k) {a b : Nat} (hc : Conn ps E a b) : Conn ps E' a b := by
  induction hc with
  | refl a => exact .refl a
  | edge k hk => exact .edge k (h k hk)
  | symm _ ih => exact .symm ih
  | trans _ _ ih1 ih2 => exact .trans ih1 ih2
/-- Number k stands in the first f places of fo. -/
def InL (fo : Nat → Nat) (f k : Nat) : Prop := ∃ i, i < f ∧ fo i = k
/-- The state of the union: equal labels are joined by the forest; the pairs that were asked have equal labels. -/
structure UnionOk (ps : List SPair) (n : Nat) (lab : Nat → Nat) (fo : Nat → Nat) (f : Nat) (done : Nat → Prop) : Prop where
  conn : ∀ a b, a < n → b < n → lab a = lab b → Conn ps (InL fo f) a b
  same : ∀ k, done k → lab (pa ps k) = lab (pb ps k)
  low : ∀ i, i < n → lab i ≤ i
def pushL (fo : Nat → Nat) (f k i : Nat) : Nat := if i = f then k else fo i
theorem pushL_in {fo : Nat → Nat} {f k j : Nat} : InL (pushL fo f k) (f + 1) j ↔ InL fo f j ∨ j = k := by
  constructor
  · rintro ⟨i, hi, rfl⟩
    unfold pushL
    by_cases h : i = f
    · rw [if_pos h]; exact .inr rfl
    · rw [if_neg h]; exact .inl ⟨i, by omega, rfl⟩
  · rintro (⟨i, hi, rfl⟩ | rfl)
    · exact ⟨i, by omega, by unfold pushL; rw [if_neg (by omega)]⟩
    · exact ⟨f, by omega, by unfold pushL; rw [if_pos rfl]⟩
theorem joinU_same {u : Nat → Nat} {p q a b : Nat} (h : u a = u b) : joinU u p q a = joinU u p q b := by unfold joinU; rw [h]
theorem joinU_ends (u : Nat → Nat) (p q : Nat) : joinU u p q p = joinU u p q q := by unfold joinU; simp
theorem joinU_low {u : Nat → Nat} {p q i : Nat} (h : u i ≤ i) : joinU u p q i ≤ i := by
  unfold joinU
  by_cases hh : u i = u p ∨ u i = u q
  · rw [if_pos hh]; rcases hh with hh | hh <;> omega
  · rw [if_neg hh]; exact h
theorem joinU_eq {u : Nat → Nat} {p q a b : Nat} (h : joinU u p q a = joinU u p q b) : u a = u b ∨ ((u a = u p ∨ u a = u q) ∧ (u b = u p ∨ u b = u q)) := by
  unfold joinU at h
  by_cases h1 : u a = u p ∨ u a = u q <;> by_cases h2 : u b = u p ∨ u b = u q
  · exact .inr ⟨h1, h2⟩
  · rw [if_pos h1, if_neg h2] at h
    exact absurd (by omega : u b = u p ∨ u b = u q) h2
  · rw [if_neg h1, if_pos h2] at h
    exact absurd (by omega : u a = u p ∨ u a = u q) h1
  · rw [if_neg h1, if_neg h2] at h; exact .inl h
section
variable {ps : List SPair} {n f : Nat} {lab fo : Nat → Nat} {done : Nat → Prop} {k : Nat}
theorem UnionOk.start : UnionOk ps n id fo 0 (fun _ => False) := ⟨fun a b _ _ h => by obtain rfl : a = b := h; exact .refl a, fun _ h => h.elim, fun i _ => Nat.le_refl i⟩
theorem UnionOk.push (h : UnionOk ps n lab fo f done) (hp : pa ps k < n) (hq : pb ps k < n) :
    UnionOk ps n (joinU lab (pa ps k) (pb ps k)) (pushL fo f k) (f + 1) (fun j => done j ∨ j = k) := by
  have hm : ∀ {a b}, Conn ps (InL fo f) a b → Conn ps (InL (pushL fo f k) (f + 1)) a b := fun hc => hc.mono fun j hj => pushL_in.2 (.inl hj)
  have he : Conn ps (InL (pushL fo f k) (f + 1)) (pa ps k) (pb ps k) := .edge k (pushL_in.2 (.inr rfl))
  refine ⟨fun a b ha hb hab => ?_, fun j hj => ?_, fun i hi => joinU_low (h.low i hi)⟩
  · rcases joinU_eq hab with e | ⟨e1, e2⟩
    · exact hm (h.conn a b ha hb e)
    · have ca : Conn ps (InL (pushL fo f k) (f + 1)) a (pa ps k) := by
        rcases e1 with e1 | e1
        · exact hm (h.conn a _ ha hp e1)
        · exact (hm (h.conn a _ ha hq e1)).trans he.symm
      have cb : Conn ps (InL (pushL fo f k) (f + 1)) b (pa ps k) := by
        rcases e2 with e2 | e2
        · exact hm (h.conn b _ hb hp e2)
        · exact (hm (h.conn b _ hb hq e2)).trans he.symm
      exact ca.trans cb.symm
  · rcases hj with hj | rfl
    · exact joinU_same (h.same j hj)
    · exact joinU_ends _ _ _
theorem UnionOk.skip (h : UnionOk ps n lab fo f done) (hp : pa ps k < n) (hq : pb ps k < n) (he : lab (pa ps k) = lab (pb ps k)) :
    UnionOk ps n (joinU lab (pa ps k) (pb ps k)) fo f (fun j => done j ∨ j = k) := by
  refine ⟨fun a b ha hb hab => ?_, fun j hj => ?_, fun i hi => joinU_low (h.low i hi)⟩
  · rcases joinU_eq hab with e | ⟨e1, e2⟩
    · exact h.conn a b ha hb e
    · exact h.conn a b ha hb (by rcases e1 with e1 | e1 <;> rcases e2 with e2 | e2 <;> omega)
  · rcases hj with hj | rfl
    · exact joinU_same (h.same j hj)
    · exact joinU_ends _ _ _
end
/-- A list of pairs that joins what all pairs join. -/
structure Spans (ps : List SPair) (n m : Nat) (fo : Nat → Nat) (f : Nat) : Prop where
  small : ∀ i, i < f → fo i < m
  conn : ∀ k, k < m → Conn ps (InL fo f) (pa ps k) (pb ps k)
theorem Spans.of_union {ps : List SPair} {n m f : Nat} {lab fo : Nat → Nat} {done : Nat → Prop} (h : UnionOk ps n lab fo f done) (hd : ∀ k, k < m → done k) (hs : ∀ i, i < f → fo i < m) (he : ∀ k, k < m → pa ps k < n ∧ pb ps k < n) : Spans ps n m fo f :=
  ⟨hs, fun k hk => h.conn _ _ (he k hk).1 (he k hk).2 (h.same k (hd k hk))⟩
theorem Spans.sameSet {ps : List SPair} {n m f : Nat} {fo fo' : Nat → Nat} (h : Spans ps n m fo f) (hs : SameSet f fo fo') : Spans ps n m fo' f :=
  ⟨fun i hi => by obtain ⟨j, hj, e⟩ := (hs (fo' i)).1 ⟨i, hi, rfl⟩; rw [← e]; exact h.small j hj,
   fun k hk => (h.conn k hk).mono fun j hj => (hs j).2 hj⟩
end Go.Proofs.Ytncmdjhdfhhkjaa
