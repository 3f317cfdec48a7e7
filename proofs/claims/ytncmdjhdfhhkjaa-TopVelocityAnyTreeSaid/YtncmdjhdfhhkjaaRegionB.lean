/- Regions that draw their order, piece by piece: a quiet head, then whatever may come. -/
import Derived.Test.YtncmdjhdfhhkjaaHeld
namespace Go.Proofs.Ytncmdjhdfhhkjaa
open Go.RowKit Go.Sort
section
variable {P : Program} {ops : Array Oper} {md : Region.Mode} {C : World → Prop} {Q : Exit → Act → World → Prop}

/-- Every operation behind number n waits for one that is not ahead of n. -/
def chainG (md : Region.Mode) (ops : Array Oper) (n : Nat) : Bool :=
  (List.range ops.size).all fun t => decide (t ≤ n) || ((ops[t]?).map fun o => o.after.any fun e => Region.binds md e && decide (n ≤ e.on) && decide (e.on < ops.size)).getD false
theorem tail_waitsG {n : Nat} {listed : Array Bool} (hs : Region.sinkB md ops n = true) (hc : chainG md ops n = true) (hn : n < ops.size) (inv : HeadInv md ops n listed) :
    ∀ (d i : Nat), n - i = d → i < n → listed.getD i true = false → ∀ t, n ≤ t → t ∉ Region.ready md ops listed := by
  intro d
  induction d using Nat.strongRecOn with
  | _ d ih =>
    intro i hd hi hun t ht hr
    obtain ⟨_, ot, hot, hall⟩ := mem_ready.1 hr
    have htlt : t < ops.size := (Array.getElem?_eq_some_iff.1 hot).1
    by_cases htn : t = n
    · subst htn
      have h1 := List.all_eq_true.1 hs i (List.mem_range.2 hi)
      obtain ⟨j, hj, hj2⟩ := List.any_eq_true.1 h1
      simp only [Bool.and_eq_true, decide_eq_true_eq] at hj2
      obtain ⟨oj, hoj, e, he, hb, hon⟩ := Region.waitsFor_spec hj2.2
      have hjle : j ≤ t := by have := List.mem_range.1 hj; omega
      by_cases hjt : j = t
      · subst hjt
        have : oj = ot := Option.some.inj (hoj.symm.trans hot)
        subst this
        have h2 := hall e he hb
        rw [hon, getD_both hun] at h2
        cases h2
      · cases hl : listed.getD j false with
        | true =>
          have h2 := inv.closed j oj hoj hl e he hb
          rw [hon, getD_both hun] at h2
          cases h2
        | false =>
          have hjs : j < listed.size := by rw [inv.size]; omega
          exact ih (t - j) (by omega) j rfl (by omega) (getD_in hjs hl) t (Nat.le_refl _) hr
    · have h1 := List.all_eq_true.1 hc t (List.mem_range.2 htlt)
      rw [hot] at h1
      simp only [Bool.or_eq_true, decide_eq_true_eq, Option.map_some, Option.getD_some] at h1
      rcases h1 with h1 | h1
      · omega
      · obtain ⟨e, he, hb⟩ := Array.any_eq_true'.1 h1
        simp only [Bool.and_eq_true, decide_eq_true_eq] at hb
        have h2 := hall e he hb.1.1
        rw [getD_both (inv.tail e.on hb.1.2 hb.2)] at h2
        cases h2

theorem headG_first {n i : Nat} {oi : Oper} {v : Value} {L : Array Bool → Act → Prop} (hi : ops[i]? = some oi) (hsel : ∀ (j : Nat) (o : Oper) cs b, ops[j]? = some o → o.op ≠ .select cs b)
    (hs : Region.sinkB md ops n = true) (hc : chainG md ops n = true) (hn : n < ops.size) (hin : i < n)
    (hdone : ∀ listed a, L listed a → ∀ j ∈ Region.ready md ops listed, n ≤ j) :
    ∀ (f : Nat) (listed : Array Bool) (a : Act), HeadInv md ops n listed →
      (∀ j oj, ops[j]? = some oj → j ≠ i → listed.getD j true = false → (∀ e ∈ oj.after, Region.binds md e = true → e.on ≠ i) → oi.apart ops oj = true) →
      i ∈ Region.ready md ops listed → YieldsIn P ops C oi v a →
      headQ P md ops C n L f (listed.setIfInBounds i true) (a.put oi.dst v) → headQ P md ops C n L (f + 1) listed a := by
  intro f
  induction f with
  | zero =>
    intro listed a inv _ hr hy H
    have hun := (mem_ready.1 hr).1
    refine ⟨fun h => (by rw [h] at hr; cases hr), fun j hj => ?_⟩
    have hjn : j < n := by
      rcases Nat.lt_or_ge j n with h | h
      · exact h
      · exact absurd hj (tail_waitsG hs hc hn inv _ i rfl hin hun j h)
    refine ⟨hjn, ?_⟩
    by_cases hji : j = i
    · subst hji; exact hy.qOp hi H
    · have := hdone _ _ H j (ready_mono hj hji)
      omega
  | succ f ih =>
    intro listed a inv hfree hr hy H
    have hun := (mem_ready.1 hr).1
    refine ⟨fun h => (by rw [h] at hr; cases hr), fun j hj => ?_⟩
    have hjn : j < n := by
      rcases Nat.lt_or_ge j n with h | h
      · exact h
      · exact absurd hj (tail_waitsG hs hc hn inv _ i rfl hin hun j h)
    refine ⟨hjn, ?_⟩
    by_cases hji : j = i
    · subst hji; exact hy.qOp hi H
    · have h1 := (H.2 j (ready_mono hj hji)).2
      obtain ⟨hjun, oj, hoj, hall⟩ := mem_ready.1 hj
      have hnot : ∀ e ∈ oj.after, Region.binds md e = true → e.on ≠ i := fun e he hb heq => by
        have h1 := hall e he hb
        rw [heq, getD_both hun] at h1
        cases h1
      have h2 := qOp_put hoj (hfree j oj hoj hji hjun hnot) (fun cs b => hsel i oi cs b hi) (fun cs b => hsel j oj cs b hoj) hy h1
      have hfree' : ∀ k ok, ops[k]? = some ok → k ≠ i → (listed.setIfInBounds j true).getD k true = false →
          (∀ e ∈ ok.after, Region.binds md e = true → e.on ≠ i) → oi.apart ops ok = true := fun k ok hk hki hun hno => by
        refine hfree k ok hk hki ?_ hno
        by_cases hjk : j = k
        · subst hjk; exact hjun
        · rw [getD_set_ne true hjk] at hun; exact hun
      refine qOp_mono (fun a' h3 => ih (listed.setIfInBounds j true) a' (inv.set hj hjn) hfree' (ready_mono hr (Ne.symm hji)) h3.1 ?_) h2
      rw [Array.setIfInBounds_comm _ _ hji]
      exact h3.2

/-- Operations k, k + 1, .. may each be taken first. -/
def takesG (md : Region.Mode) (ops : Array Oper) : Nat → Nat → Array Bool → Bool
  | 0, _, _ => true
  | f + 1, k, listed => (Region.ready md ops listed).contains k && Region.free md ops listed k && takesG md ops f (k + 1) (listed.setIfInBounds k true)
def listedG : Nat → Nat → Array Bool → Array Bool
  | 0, _, listed => listed
  | f + 1, k, listed => listedG f (k + 1) (listed.setIfInBounds k true)

theorem headG_lex {n : Nat} {Lq : Act → Prop} {LL : Array Bool} (hsel : Region.noSelect ops = true) (hs : Region.sinkB md ops n = true) (hc : chainG md ops n = true) (hn : n < ops.size) (hd : (Region.ready md ops LL).all (n ≤ ·) = true) :
    ∀ (l : List Oper) (k : Nat) (listed : Array Bool) (a : Act), (∀ j, j < l.length → l[j]? = ops[k + j]?) → k + l.length = n → HeadInv md ops n listed → listedG l.length k listed = LL →
    takesG md ops l.length k listed = true → wpQuiet P ops C Lq l a →
    headQ P md ops C n (fun listed' a' => listed' = LL ∧ Lq a') l.length listed a
  | [], k, listed, a, _, hk, _, hLL, hB, h => ⟨hLL, h⟩
  | o :: l, k, listed, a, hl, hk, inv, hLL, hB, h => by
    have h0 : ops[k]? = some o := by simpa using (hl 0 (by simp)).symm
    simp only [List.length_cons, takesG, Bool.and_eq_true] at hB
    obtain ⟨⟨hr, hf⟩, hB'⟩ := hB
    have hkn : k < n := by simp only [List.length_cons] at hk; omega
    have hr' : k ∈ Region.ready md ops listed := by simpa using hr
    have hst : qOp P ops C k (wpQuiet P ops C Lq l) a := by unfold qOp; simp only [h0]; exact h
    obtain ⟨v, hy, hK⟩ := yieldsIn_of_qOp h0 hst
    exact headG_first h0 (Region.noSelect_spec hsel) hs hc hn hkn (fun listed' a' hL j hj => by rw [hL.1] at hj; simpa using List.all_eq_true.1 hd j hj) l.length listed a inv (Region.free_spec h0 hf) hr' hy
      (headG_lex hsel hs hc hn hd l (k + 1) _ _ (fun j hj => by have := hl (j + 1) (by simp; omega); simpa [Nat.add_assoc, Nat.add_comm 1 j] using this) (by simp only [List.length_cons] at hk; omega) (inv.set hr' hkn) hLL hB' hK)

/-- The first n operations are quiet in the class C; what comes behind them, in whatever order, is asked of every world of the class. -/
theorem region_headC {id : Nat} {a : Act} {w : World} {l : List Oper} (n : Nat) (hm : P.follows .mixedOrders = true)
    (hB : (Region.noSelect l.toArray && decide (n < l.length) && Region.sinkB .any l.toArray n && chainG .any l.toArray n && takesG .any l.toArray n 0 (Array.replicate l.toArray.size false) && (Region.ready .any l.toArray (listedG n 0 (Array.replicate l.toArray.size false))).all (n ≤ ·)) = true)
    (hC : C { w with drawn := w.drawn + 1 })
    (h : wpQuiet P l.toArray C (fun a' => ∀ w', C w' → wpAny P .any l.toArray Q (l.length - n) (listedG n 0 (Array.replicate l.toArray.size false)) a' w') (l.take n) a) : (Code.region id l.toArray true).wp P Q a w := by
  simp only [Bool.and_eq_true, decide_eq_true_eq] at hB
  obtain ⟨⟨⟨⟨⟨hsel, hn'⟩, hs⟩, hc⟩, ht⟩, hd⟩ := hB
  have hn : n < l.toArray.size := by simpa using hn'
  have htl : (l.take n).length = n := by simp; omega
  have inv0 : HeadInv .any l.toArray n (Array.replicate l.toArray.size false) :=
    ⟨by simp, fun j oj _ hl => (by rw [getD_replicate_false] at hl; cases hl), fun t _ ht => getD_in (by simpa using ht) (getD_replicate_false _ _)⟩
  have H := headG_lex (C := C) (md := .any) hsel hs hc hn hd (l.take n) 0 _ a (fun j hj => by
    have hj' : j < n := by rw [htl] at hj; exact hj
    simp [hj']) (by simpa using htl) inv0 (by rw [htl]) (by rw [htl]; exact ht) h
  refine wp_region_any hm ?_
  have := any_of_headQ (Q' := Q) (g := l.length - n) (fun listed a' w' hw' hL => by rw [hL.1]; exact hL.2 w' hw') _ _ _ _ hC H
  rw [htl, show n + (l.length - n) = l.toArray.size by simp; omega] at this
  exact this
/-- .. at the class 'w, but for draws and new blocks'. -/
theorem region_head {id : Nat} {a : Act} {w : World} {l : List Oper} (n : Nat) (hm : P.follows .mixedOrders = true)
    (hB : (Region.noSelect l.toArray && decide (n < l.length) && Region.sinkB .any l.toArray n && chainG .any l.toArray n && takesG .any l.toArray n 0 (Array.replicate l.toArray.size false) && (Region.ready .any l.toArray (listedG n 0 (Array.replicate l.toArray.size false))).all (n ≤ ·)) = true)
    (h : wpQuiet P l.toArray (fun w' => ∃ p : Regrown, w' = grow (redrawn w p.d) p.os) (fun a' => ∀ w', (∃ p : Regrown, w' = grow (redrawn w p.d) p.os) → wpAny P .any l.toArray Q (l.length - n) (listedG n 0 (Array.replicate l.toArray.size false)) a' w') (l.take n) a) : (Code.region id l.toArray true).wp P Q a w :=
  region_headC (C := fun w' => ∃ p : Regrown, w' = grow (redrawn w p.d) p.os) n hm hB ⟨⟨w.drawn + 1, #[]⟩, by rw [grow_empty]; rfl⟩ h

/-- One operation alone may come up. -/
theorem any_one {g i : Nat} {o : Oper} {listed : Array Bool} {a : Act} {w : World} (hr : Region.ready md ops listed = [i]) (ho : ops[i]? = some o) (hg : o.guard = none)
    (h : ∀ K : Act → World → Prop, (∀ a' w', wpAny P md ops Q g (listed.setIfInBounds i true) a' w' → K a' w') → o.wp P a w K Q) : wpAny P md ops Q (g + 1) listed a w :=
  ⟨fun h0 => absurd (hr ▸ h0) (by simp), fun j hj => by
    rw [hr] at hj
    obtain rfl : j = i := by simpa using hj
    exact wpOp_lit ho hg (h _ fun _ _ h => h)⟩
/-- The rest is quiet. -/
theorem any_quiet {l : List Oper} {g n : Nat} {listed : Array Bool} {a : Act} {w : World} (hB : (Region.noSelect l.toArray && (l.drop n).length == g && Region.lexFrom .any l.toArray g n listed) = true)
    (h : wpQuiet P l.toArray (fun w' => ∃ m, w' = w.drewN m) (fun a' => ∀ w', (∃ m, w' = w.drewN m) → Q .normal a' w') (l.drop n) a) : wpAny P .any l.toArray Q g listed a w := by
  simp only [Bool.and_eq_true, beq_iff_eq] at hB
  obtain ⟨⟨hsel, hl⟩, hlex⟩ := hB
  have := wpAnyQ_lex (P := P) (C := fun w' => ∃ m, w' = w.drewN m) (md := .any) (Q := fun a' => ∀ w', (∃ m, w' = w.drewN m) → Q .normal a' w') hsel (l.drop n) n listed a (fun j => by simp [List.getElem?_drop]) (by rw [hl]; exact hlex) h
  rw [hl] at this
  exact wpAny_of_quiet (C := fun w' => ∃ m, w' = w.drewN m) (fun _ w' hw' h => h w' hw') _ _ _ w ⟨0, rfl⟩ this
/-- The rest comes in one order. -/
theorem any_seq {l : List Oper} {g n : Nat} {listed : Array Bool} {a : Act} {w : World} (hB : ((l.drop n).length == g && Region.seqB .any l.toArray g n listed) = true) (h : wpList P l.toArray Q (l.drop n) a w) : wpAny P .any l.toArray Q g listed a w := by
  simp only [Bool.and_eq_true, beq_iff_eq] at hB
  obtain ⟨hl, hs⟩ := hB
  have := wpAny_of_seq (md := .any) (Q' := Q) (l.drop n) n listed a w (fun j => by simp [List.getElem?_drop]) (by rw [hl]; exact hs) h
  rwa [hl] at this
end
end Go.Proofs.Ytncmdjhdfhhkjaa
