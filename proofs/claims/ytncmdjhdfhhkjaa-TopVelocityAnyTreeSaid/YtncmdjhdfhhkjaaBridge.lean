/- A region of a round that draws its order: by the rules for plain regions. -/
import Derived.OrdersIn
import Derived.RangeFuncCalls
import Derived.Test.YtncmdjhdfhhkjaaRegion
namespace Go.Proofs.Ytncmdjhdfhhkjaa
open Go.RowKit Go.Sort
section
variable {P : Program} {ops : Array Oper} {md : Region.Mode} {Q : Exit → Act → World → Prop} {l n : Nat}

theorem rows_wide {row : String} {args : Array Value} {w : World} {R : Value → World → Prop} (h : Rows P row args w R) : RowsIn (Fence.wide.inRound l) n P row args w R :=
  fun c cs _ => let ⟨v, w', r, s⟩ := h c cs; ⟨v, w', r, stepsIn_wide.2 s⟩

theorem operIn_of_oper {o : Oper} {a : Act} {w : World} {K K' : Act → World → Prop} (hd : ∀ c, o.op ≠ .defer c) (hK : ∀ a w, K a w → K' a w) (h : o.wp P a w K Q) : o.wpIn (Fence.wide.inRound l) n P a w K' Q := by
  unfold Oper.wp at h
  unfold Oper.wpIn
  refine ⟨fun _ _ => trivial, ?_⟩
  rw [Oper.semAt_eq _ _ _ hd]
  generalize (execOp a.eval o).run P w = r at *
  cases r with
  | ok x w' =>
    cases x <;> simp only [Oper.upon, Oper.uponIn] at h ⊢ <;>
      first
        | exact hK _ _ h
        | exact h.elim
        | exact ⟨fun e => by simp [Fence.wide] at e, (callsIn_wide.2 (Calls.mono h (fun e w'' he => by cases e <;> first | exact hK _ _ he | exact he))).inRound l⟩
        | exact ⟨fun e => by simp [Fence.wide] at e, rows_wide (h.mono (fun _ _ he => hK _ _ he))⟩
  | halt x w' => cases x <;> simp only [Oper.upon, Oper.uponIn] at h ⊢ <;> exact h

theorem anyIn_of_any (hQ : ¬ LetsOut Q) (hd : ∀ o ∈ ops.toList, ∀ c, o.op ≠ .defer c) : ∀ (fuel : Nat) (listed : Array Bool) (a : Act) (w : World), wpAny P md ops Q fuel listed a w → wpAnyIn (Fence.wide.inRound l) n P md ops Q fuel listed a w
  | 0, _, _, _, h => h
  | fuel + 1, listed, a, w, h => by
    refine ⟨h.1, fun i hi => ?_⟩
    have h2 := h.2 i hi
    unfold wpOp at h2
    unfold wpOpIn
    cases ho : ops[i]? with
    | none => simp only [ho] at h2 ⊢; exact anyIn_of_any hQ hd fuel _ _ _ h2
    | some o =>
      simp only [ho] at h2 ⊢
      have hdo : ∀ c, o.op ≠ .defer c := hd o (by obtain ⟨h1, e⟩ := Array.getElem?_eq_some_iff.1 ho; rw [← e]; simp)
      split at h2
      · rename_i hw
        rw [if_pos hw]
        rcases h2 with h2 | h2
        · exact operIn_of_oper hdo (fun a w => anyIn_of_any hQ hd fuel _ a w) h2
        · exact absurd h2.2 hQ
      · rename_i hw
        rw [if_neg hw]
        exact ⟨fun _ _ => trivial, anyIn_of_any hQ hd fuel _ _ _ h2⟩
/-- A region of a round, by a rule for regions: whatever shows the region's 'wp' shows its 'wpIn' in a round, where nothing is let out. -/
theorem wpIn_region_of_any {id : Nat} {a : Act} {w : World} (hm : P.follows .mixedOrders = true) (hQ : ¬ LetsOut Q) (hd : ∀ o ∈ ops.toList, ∀ c, o.op ≠ .defer c)
    (h : wpAny P .any ops Q ops.size (Array.replicate ops.size false) a { w with drawn := w.drawn + 1 }) : (Code.region id ops true).wpIn (Fence.wide.inRound l) n P Q a w :=
  wpIn_region_any hm (anyIn_of_any hQ hd _ _ _ _ h)

/-- .. a head that leaves the world alone, then a forced tail. -/
theorem wpIn_region_tail {id : Nat} {a : Act} {w : World} {q : List Oper} (k : Nat) (hm : P.follows .mixedOrders = true) (hB : Region.lexTailB .any q.toArray k = true) (hQ : ¬ LetsOut Q) (hd : ∀ o ∈ q, ∀ c, o.op ≠ .defer c)
    (h : wpStill P q.toArray w.drew (fun a' => wpList P q.toArray Q (q.drop k) a' w.drew) (q.take k) a) : (Code.region id q.toArray true).wpIn (Fence.wide.inRound l) n P Q a w := by
  simp only [Region.lexTailB, Bool.and_eq_true, decide_eq_true_eq] at hB
  obtain ⟨⟨⟨⟨hsel, hn⟩, hs⟩, hc⟩, hlex⟩ := hB
  have hn' : k < q.length := by simpa using hn
  have htl : (q.take k).length = k := by simp; omega
  have hdl : (q.drop k).length = q.toArray.size - k := by simp
  have inv0 : HeadInv .any q.toArray k (Array.replicate q.toArray.size false) :=
    ⟨by simp, fun j oj _ hl => (by rw [getD_replicate_false] at hl; cases hl), fun t _ ht => getD_in (by simpa using ht) (getD_replicate_false _ _)⟩
  have H := wpAnyL_lex (md := .any) (g := q.toArray.size - k) hsel hs hc hn (q.take k) 0 _ a (fun j hj => by
    have hj' : j < k := by rw [htl] at hj; exact hj
    simp [hj']) (by simpa using htl) inv0 (by rw [htl]; exact hlex) h
  refine wpIn_region_of_any hm hQ (by simpa using hd) ?_
  have := wpAny_of_head (Q' := Q) (g := q.toArray.size - k) (fun listed a' hL => by
    have := wpAny_of_seq (md := .any) (Q' := Q) (q.drop k) k listed a' w.drew (fun j => by simp [List.getElem?_drop]) (by rw [hdl]; exact hL.1) hL.2
    rwa [hdl] at this) _ _ _ H
  rw [htl, show k + (q.toArray.size - k) = q.toArray.size by omega] at this
  exact this
end
end Go.Proofs.Ytncmdjhdfhhkjaa
