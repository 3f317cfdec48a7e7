/- A region that draws its order: loads that may be taken first (they yield one value in every world that meets S, and what comes before the tail keeps S), a middle in whatever order, then a tail whose order is forced and which may break S. -/
import Derived.Test.YtncmdjhdfhhkjaaRegion
import Derived.OrdersHeld
namespace Go.Proofs.Ytncmdjhdfhhkjaa
open Go.RowKit Go.Sort
section
variable {P : Program} {ops : Array Oper} {md : Region.Mode} {S : World → Prop} {Q : Exit → Act → World → Prop}

/-- What is listed holds what was listed at the start (l0), and what it waits for; nothing of the tail. -/
structure HeadIn (md : Region.Mode) (ops : Array Oper) (n : Nat) (l0 listed : Array Bool) : Prop where
  base : HeadInv md ops n listed
  from0 : ∀ i, l0.getD i true = true → listed.getD i true = true
def sinkIn (md : Region.Mode) (ops : Array Oper) (n : Nat) (l0 : Array Bool) : Bool :=
  (List.range n).all fun i => l0.getD i true || (List.range (n + 1)).any fun j => decide (i < j) && Region.waitsFor md ops j i
def headInB (md : Region.Mode) (ops : Array Oper) (n : Nat) (l0 : Array Bool) : Bool :=
  l0.size == ops.size && ((List.range ops.size).all fun j => !l0.getD j false || ((ops[j]?).map fun o => o.after.all fun e => !Region.binds md e || l0.getD e.on false).getD true) &&
    (List.range ops.size).all fun t => decide (t < n) || !l0.getD t true
theorem headIn_of {n : Nat} {l0 : Array Bool} (h : headInB md ops n l0 = true) : HeadIn md ops n l0 l0 := by
  simp only [headInB, Bool.and_eq_true, beq_iff_eq, List.all_eq_true, List.mem_range] at h
  obtain ⟨⟨h1, h2⟩, h3⟩ := h
  refine ⟨⟨h1, fun j oj hj hl e he hb => ?_, fun t ht ht' => ?_⟩, fun _ h => h⟩
  · have := h2 j (Array.getElem?_eq_some_iff.1 hj).1
    rw [hl, hj] at this
    simp only [Bool.not_true, Bool.false_or, Option.map_some, Option.getD_some] at this
    have h4 := Array.all_eq_true'.1 this e he
    rw [hb] at h4
    simpa using h4
  · have := h3 t ht'
    simp only [Bool.or_eq_true, decide_eq_true_eq, Bool.not_eq_true'] at this
    rcases this with h | h
    · omega
    · exact h
theorem HeadIn.set {n i : Nat} {l0 listed : Array Bool} (inv : HeadIn md ops n l0 listed) (hi : i ∈ Region.ready md ops listed) (hin : i < n) : HeadIn md ops n l0 (listed.setIfInBounds i true) :=
  ⟨inv.base.set hi hin, fun j hj => by
    by_cases hij : i = j
    · subst hij
      rcases Nat.lt_or_ge i listed.size with h | h
      · simp [h]
      · simp [Array.getElem?_eq_none, h]
    · rw [getD_set_ne true hij]; exact inv.from0 j hj⟩
theorem tail_waitsIn {n : Nat} {l0 listed : Array Bool} (hs : sinkIn md ops n l0 = true) (hc : Region.chainB md ops n = true) (hn : n < ops.size) (inv : HeadIn md ops n l0 listed) :
    ∀ (d i : Nat), n - i = d → i < n → listed.getD i true = false → ∀ t, n ≤ t → t ∉ Region.ready md ops listed := by
  intro d
  induction d using Nat.strongRecOn with
  | _ d ih =>
    intro i hd hi hun t ht hr
    obtain ⟨_, ot, hot, hall⟩ := mem_ready.1 hr
    have htlt : t < ops.size := (Array.getElem?_eq_some_iff.1 hot).1
    by_cases htn : t = n
    · subst htn
      have h1 := List.all_eq_true.1 hs i (List.mem_range.2 hi)
      have hi0 : l0.getD i true = false := by
        cases e : l0.getD i true with
        | false => rfl
        | true => rw [inv.from0 i e] at hun; cases hun
      rw [hi0, Bool.false_or] at h1
      obtain ⟨j, hj, hj2⟩ := List.any_eq_true.1 h1
      simp only [Bool.and_eq_true, decide_eq_true_eq] at hj2
      obtain ⟨oj, hoj, e, he, hb, hon⟩ := Region.waitsFor_spec hj2.2
      have hjle : j ≤ t := by have := List.mem_range.1 hj; omega
      by_cases hjt : j = t
      · subst hjt
        have : oj = ot := Option.some.inj (hoj.symm.trans hot)
        subst this
        have h2 := hall e he hb
        rw [hon, getD_both hun] at h2
        cases h2
      · cases hl : listed.getD j false with
        | true =>
          have h2 := inv.base.closed j oj hoj hl e he hb
          rw [hon, getD_both hun] at h2
          cases h2
        | false =>
          have hjs : j < listed.size := by rw [inv.base.size]; omega
          exact ih (t - j) (by omega) j rfl (by omega) (getD_in hjs hl) t (Nat.le_refl _) hr
    · have h1 := List.all_eq_true.1 hc t (List.mem_range.2 htlt)
      simp only [Bool.or_eq_true, decide_eq_true_eq] at h1
      rcases h1 with h1 | h1
      · omega
      · obtain ⟨o', ho', e, he, hb, hon⟩ := Region.waitsFor_spec h1
        have : o' = ot := Option.some.inj (ho'.symm.trans hot)
        subst this
        have h2 := hall e he hb
        rw [hon, getD_both (inv.base.tail (t - 1) (by omega) (by omega))] at h2
        cases h2

/-- The head in whatever order: behind each of its operations S; behind all of them L. -/
def anyHL (P : Program) (md : Region.Mode) (ops : Array Oper) (Q : Exit → Act → World → Prop) (S : World → Prop) (n : Nat) (L : Array Bool → Act → World → Prop) : Nat → Array Bool → Act → World → Prop
  | 0, listed, a, w => L listed a w
  | f + 1, listed, a, w => Region.ready md ops listed ≠ [] ∧ ∀ i ∈ Region.ready md ops listed, i < n ∧ wpOp P ops Q i (fun a' w' => S w' ∧ anyHL P md ops Q S n L f (listed.setIfInBounds i true) a' w') a w

theorem any_of_HL {n g : Nat} {L : Array Bool → Act → World → Prop} (hL : ∀ listed a w, L listed a w → wpAny P md ops Q g listed a w) :
    ∀ (f : Nat) (listed : Array Bool) (a : Act) (w : World), anyHL P md ops Q S n L f listed a w → wpAny P md ops Q (f + g) listed a w
  | 0, listed, a, w, h => by rw [Nat.zero_add]; exact hL _ _ _ h
  | f + 1, listed, a, w, h => by
    rw [show f + 1 + g = (f + g) + 1 by omega]
    exact ⟨fun h0 => absurd h0 h.1, fun i hi => wpOp_mono (fun a' w' h' => any_of_HL hL f _ a' w' h'.2) (h.2 i hi).2⟩

theorem anyHL_first {n i : Nat} {l0 : Array Bool} {oi : Oper} {v : Value} {L : Array Bool → Act → World → Prop} (hi : ops[i]? = some oi) (hsel : ∀ (j : Nat) (o : Oper) cs b, ops[j]? = some o → o.op ≠ .select cs b)
    (hQ : ∀ c a w, Q (.panic c) (a.put oi.dst v) w → Q (.panic c) a w)
    (hs : sinkIn md ops n l0 = true) (hc : Region.chainB md ops n = true) (hn : n < ops.size) (hin : i < n)
    (hdone : ∀ listed a w, L listed a w → ∀ j ∈ Region.ready md ops listed, n ≤ j) :
    ∀ (f : Nat) (listed : Array Bool) (a : Act) (w : World), HeadIn md ops n l0 listed →
      (∀ j oj, ops[j]? = some oj → j ≠ i → listed.getD j true = false → (∀ e ∈ oj.after, Region.binds md e = true → e.on ≠ i) → oi.apart ops oj = true) →
      i ∈ Region.ready md ops listed → YieldsIf P ops S oi v a → S w →
      anyHL P md ops Q S n L f (listed.setIfInBounds i true) (a.put oi.dst v) w → anyHL P md ops Q S n L (f + 1) listed a w := by
  intro f
  induction f with
  | zero =>
    intro listed a w inv _ hr hy hS H
    have hun := (mem_ready.1 hr).1
    refine ⟨fun h => (by rw [h] at hr; cases hr), fun j hj => ?_⟩
    have hjn : j < n := by
      rcases Nat.lt_or_ge j n with h | h
      · exact h
      · exact absurd hj (tail_waitsIn hs hc hn inv _ i rfl hin hun j h)
    refine ⟨hjn, ?_⟩
    by_cases hji : j = i
    · subst hji; exact hy.wpOp hi hS ⟨hS, H⟩
    · have := hdone _ _ _ H j (ready_mono hj hji)
      omega
  | succ f ih =>
    intro listed a w inv hfree hr hy hS H
    have hun := (mem_ready.1 hr).1
    refine ⟨fun h => (by rw [h] at hr; cases hr), fun j hj => ?_⟩
    have hjn : j < n := by
      rcases Nat.lt_or_ge j n with h | h
      · exact h
      · exact absurd hj (tail_waitsIn hs hc hn inv _ i rfl hin hun j h)
    refine ⟨hjn, ?_⟩
    by_cases hji : j = i
    · subst hji; exact hy.wpOp hi hS ⟨hS, H⟩
    · have h1 := (H.2 j (ready_mono hj hji)).2
      obtain ⟨hjun, oj, hoj, hall⟩ := mem_ready.1 hj
      have hnot : ∀ e ∈ oj.after, Region.binds md e = true → e.on ≠ i := fun e he hb heq => by
        have h1 := hall e he hb
        rw [heq, getD_both hun] at h1
        cases h1
      have h2 := wpOp_putIf hoj (hfree j oj hoj hji hjun hnot) (fun cs b => hsel i oi cs b hi) (fun cs b => hsel j oj cs b hoj) hQ hy h1
      have hfree' : ∀ k ok, ops[k]? = some ok → k ≠ i → (listed.setIfInBounds j true).getD k true = false →
          (∀ e ∈ ok.after, Region.binds md e = true → e.on ≠ i) → oi.apart ops ok = true := fun k ok hk hki hun hno => by
        refine hfree k ok hk hki ?_ hno
        by_cases hjk : j = k
        · subst hjk; exact hjun
        · rw [getD_set_ne true hjk] at hun; exact hun
      refine wpOp_mono (fun a' w' h3 => ⟨h3.2.1, ih (listed.setIfInBounds j true) a' w' (inv.set hj hjn) hfree' (ready_mono hr (Ne.symm hji)) h3.1 h3.2.1 ?_⟩) h2
      rw [Array.setIfInBounds_comm _ _ hji]
      exact h3.2.2

/-- The operations of a list of places, each of which yields one value in every world that meets S. -/
def wpIf (P : Program) (ops : Array Oper) (S : World → Prop) (K : Act → Prop) : List Nat → Act → Prop
  | [], a => K a
  | i :: rest, a => ∃ o v, ops[i]? = some o ∧ YieldsIf P ops S o v a ∧ wpIf P ops S K rest (a.put o.dst v)

theorem wpIf_step {K : Act → Prop} {i : Nat} {rest : List Nat} {a : Act} {o : Oper} {v : Value} (ho : ops[i]? = some o) (hw : Region.wanted o (yielded ops a.tmps) = true)
    (hv : ∀ w, S w → (execOp a.eval o).run P w = .ok (.value v) w) (h : wpIf P ops S K rest (a.put o.dst v)) : wpIf P ops S K (i :: rest) a := ⟨o, v, ho, .inl ⟨hw, hv⟩, h⟩
theorem wpIf_nil {K : Act → Prop} {a : Act} (h : K a) : wpIf P ops S K [] a := h
/-- Those places may be taken first, in that order. -/
def takesB (md : Region.Mode) (ops : Array Oper) (n : Nat) : List Nat → Array Bool → Bool
  | [], _ => true
  | i :: rest, listed => decide (i < n) && (Region.ready md ops listed).contains i && Region.free md ops listed i && takesB md ops n rest (listed.setIfInBounds i true)
def listedOf (qs : List Nat) (listed : Array Bool) : Array Bool := qs.foldl (fun l i => l.setIfInBounds i true) listed

theorem anyHL_list {n : Nat} {l0 : Array Bool} {L : Array Bool → Act → World → Prop} (hsel : Region.noSelect ops = true) (hQ : ∀ c a w d v, Q (.panic c) (Act.put a d v) w → Q (.panic c) a w)
    (hs : sinkIn md ops n l0 = true) (hc : Region.chainB md ops n = true) (hn : n < ops.size) (hdone : ∀ listed a w, L listed a w → ∀ j ∈ Region.ready md ops listed, n ≤ j) {w : World} (hS : S w) :
    ∀ (qs : List Nat) (f : Nat) (listed : Array Bool) (a : Act), HeadIn md ops n l0 listed → takesB md ops n qs listed = true →
      wpIf P ops S (fun a' => anyHL P md ops Q S n L f (listedOf qs listed) a' w) qs a → anyHL P md ops Q S n L (f + qs.length) listed a w
  | [], f, listed, a, _, _, h => h
  | i :: rest, f, listed, a, inv, hB, h => by
    simp only [takesB, Bool.and_eq_true, decide_eq_true_eq] at hB
    obtain ⟨⟨⟨hin, hr⟩, hf⟩, hB'⟩ := hB
    obtain ⟨o, v, ho, hy, hK⟩ := h
    have hr' : i ∈ Region.ready md ops listed := by simpa using hr
    exact anyHL_first ho (Region.noSelect_spec hsel) (fun c a w => hQ c a w _ _) hs hc hn hin hdone (f + rest.length) listed a w inv (Region.free_spec ho hf) hr' hy hS
      (anyHL_list hsel hQ hs hc hn hdone hS rest f _ _ (inv.set hr' hin) hB' hK)

/-- Whichever of those that may come up comes up. -/
theorem anyHL_all {n : Nat} {L : Array Bool → Act → World → Prop} {rs : List Nat} {f : Nat} {listed : Array Bool} {a : Act} {w : World} (hr : Region.ready md ops listed = rs) (hne : rs ≠ []) (hlt : rs.all (· < n) = true)
    (h : ∀ i ∈ rs, wpOp P ops Q i (fun a' w' => S w' ∧ anyHL P md ops Q S n L f (listed.setIfInBounds i true) a' w') a w) : anyHL P md ops Q S n L (f + 1) listed a w := by
  refine ⟨fun h0 => absurd (hr ▸ h0) hne, fun i hi => ⟨?_, h i (hr ▸ hi)⟩⟩
  have := List.all_eq_true.1 hlt i (hr ▸ hi)
  simpa using this
theorem wpOp_lit {i : Nat} {o : Oper} {K : Act → World → Prop} {a : Act} {w : World} (ho : ops[i]? = some o) (hg : o.guard = none) (h : o.wp P a w K Q) : wpOp P ops Q i K a w := by
  unfold wpOp
  simp only [ho, Region.wanted, hg, if_true]
  exact .inl h

/-- The region, the operations of l0 having come up: 'qs' first, 'm' operations in the middle, the tail from n on. -/
theorem any_mid {a : Act} {w : World} {l : List Oper} (n m g : Nat) (l0 : Array Bool) (qs : List Nat) (hsel : Region.noSelect l.toArray = true) (hQ : ∀ c a w d v, Q (.panic c) (Act.put a d v) w → Q (.panic c) a w)
    (hn : decide (n < l.length) = true) (hg : g = m + qs.length + (l.length - n)) (hi : headInB .any l.toArray n l0 = true) (hs : sinkIn .any l.toArray n l0 = true) (hc : Region.chainB .any l.toArray n = true) (ht : takesB .any l.toArray n qs l0 = true) (hS : S w)
    (h : wpIf P l.toArray S (fun a' => anyHL P .any l.toArray Q S n (fun listed' a' w' => Region.seqB .any l.toArray (l.length - n) n listed' = true ∧ wpList P l.toArray Q (l.drop n) a' w') m (listedOf qs l0) a' w) qs a) :
    wpAny P .any l.toArray Q g l0 a w := by
  have hn' : n < l.length := by simpa using hn
  have hdl : (l.drop n).length = l.length - n := by simp
  have H := anyHL_list (md := .any) (n := n) (l0 := l0) (Q := Q) (L := fun listed' a' w' => Region.seqB .any l.toArray (l.length - n) n listed' = true ∧ wpList P l.toArray Q (l.drop n) a' w') hsel hQ hs hc (by simpa using hn')
    (fun listed a w hL => seqB_ready hL.1) hS qs m _ a (headIn_of hi) ht h
  have := any_of_HL (g := l.length - n) (fun listed a' w' hL => by
    have := wpAny_of_seq (md := .any) (Q' := Q) (l.drop n) n listed a' w' (fun j => by simp [List.getElem?_drop]) (by rw [hdl]; exact hL.1) hL.2
    rwa [hdl] at this) _ _ _ _ H
  rw [hg]
  exact this
end
end Go.Proofs.Ytncmdjhdfhhkjaa
