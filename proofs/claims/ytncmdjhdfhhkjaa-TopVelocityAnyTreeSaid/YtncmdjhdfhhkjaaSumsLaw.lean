/- The sums of a forest, the plain law: they part as the potential does along all pairs. -/
import Derived.Test.YtncmdjhdfhhkjaaSpreadLaw
namespace Go.Proofs.Ytncmdjhdfhhkjaa
open Go.RowKit Go.Sort

/-- What holds behind some of the scenes. -/
structure SumsInv (S : SpS) (k : Nat) (kn : Nat → Bool) (out : Nat → Int) : Prop where
  all : ∀ i, i < k → kn i = true
  shut : ∀ i, i < S.n → kn i = true → ∀ j, InL S.fo S.f j → (pa S.ps j = i → kn (pb S.ps j) = true) ∧ (pb S.ps j = i → kn (pa S.ps j) = true)
  diff : ∀ j, InL S.fo S.f j → kn (pa S.ps j) = true → kn (pb S.ps j) = true → out (pb S.ps j) - out (pa S.ps j) = S.P (pb S.ps j) - S.P (pa S.ps j)
  near : ∀ i, i < S.n → kn i = true → -100000 ≤ out i - S.P i ∧ out i - S.P i ≤ 100000
  none : ∀ i, kn i = false → out i = 0
theorem SumsInv.start (S : SpS) : SumsInv S 0 (fun _ => false) (fun _ => 0) :=
  ⟨fun i h => absurd h (Nat.not_lt_zero i), fun _ _ h => (by cases h), fun _ _ h => (by cases h), fun _ _ h => (by cases h), fun _ _ => rfl⟩
theorem SumsInv.skip {S : SpS} {k : Nat} {kn : Nat → Bool} {out : Nat → Int} (h : SumsInv S k kn out) (hk : kn k = true) : SumsInv S (k + 1) kn out :=
  ⟨fun i hi => (Nat.lt_succ_iff_lt_or_eq.1 hi).elim (h.all i) (fun e => e ▸ hk), h.shut, h.diff, h.near, h.none⟩
theorem SumsInv.grow {S : SpS} (hS : SpOk S) {k : Nat} {kn kn' : Nat → Bool} {out out' : Nat → Int} (h : SumsInv S k kn out) (hk : k < S.n) (g : Grew S (-S.P k) kn out kn' out') (hk' : kn' k = true) : SumsInv S (k + 1) kn' out' := by
  have hend : ∀ j, InL S.fo S.f j → pa S.ps j < S.n ∧ pb S.ps j < S.n := fun j ⟨i, hi, e⟩ => by
    have h1 := hS.small i hi
    have h2 := hS.ends j (by omega)
    omega
  refine ⟨fun i hi => ?_, fun i hn hi j hj => ?_, fun j hj h1 h2 => ?_, fun i hn hi => ?_, fun i hi => ?_⟩
  · by_cases e : i = k
    · rw [e]; exact hk'
    · exact g.more i (h.all i (by omega))
  · cases e : kn i with
    | true => exact ⟨fun e1 => g.more _ ((h.shut i hn e j hj).1 e1), fun e1 => g.more _ ((h.shut i hn e j hj).2 e1)⟩
    | false => exact g.shut i hn hi e j hj
  · obtain ⟨n1, n2⟩ := hend j hj
    cases e : kn (pa S.ps j) with
    | true =>
      have e2 := (h.shut _ n1 e j hj).1 rfl
      rw [g.old _ e, g.old _ e2]
      exact h.diff j hj e e2
    | false =>
      cases e2 : kn (pb S.ps j) with
      | true => rw [(h.shut _ n2 e2 j hj).2 rfl] at e; cases e
      | false => rw [g.new _ n1 h1 e, g.new _ n2 h2 e2]; omega
  · cases e : kn i with
    | true => rw [g.old i e]; exact h.near i hn e
    | false => rw [g.new i hn hi e]; have := hS.pot k hk; omega
  · rw [g.kept i hi]
    exact h.none i (by cases e : kn i with
      | true => rw [g.more i e] at hi; exact hi
      | false => rfl)
/-- Joined scenes part as the potential does. -/
theorem conn_diff {ps : List SPair} {E : Nat → Prop} {out P : Nat → Int} (h : ∀ j, E j → out (pb ps j) - out (pa ps j) = P (pb ps j) - P (pa ps j)) {a b : Nat} (hc : Conn ps E a b) : out b - out a = P b - P a := by
  induction hc with
  | refl a => omega
  | edge k hk => exact h k hk
  | symm _ ih => omega
  | trans _ _ ih1 ih2 => omega
theorem SumsInv.done {S : SpS} (hS : SpOk S) {kn : Nat → Bool} {out : Nat → Int} (h : SumsInv S S.n kn out) (hp : Spans S.ps S.n S.m S.fo S.f) : ∀ k, k < S.m → out (pb S.ps k) - out (pa S.ps k) = S.P (pb S.ps k) - S.P (pa S.ps k) := fun k hk =>
  conn_diff (fun j hj => by
    obtain ⟨i, hi, e⟩ := hj
    have h1 := hS.small i hi
    have h2 := hS.ends j (by omega)
    exact h.diff j ⟨i, hi, e⟩ (h.all _ (by omega)) (h.all _ (by omega))) (hp.conn k hk)
end Go.Proofs.Ytncmdjhdfhhkjaa
