/- Pairs of scenes as keys of a map; a map of bools that the call makes. -/
import Derived.Test.YtncmdjhdfhhkjaaScenesB
import Derived.WideKeyArgs
import Derived.DeepKeys4
import Derived.Maps.OwnOps
import Derived.Maps.Views
namespace Go.Proofs.Ytncmdjhdfhhkjaa
open Go.RowKit Go.Sort Go.Maps

theorem laidOut : laidOutB Try.prog = true := by kernel_rfl
theorem pairRow : (79 : TypeId) < Try.prog.types.size := of_decide_eq_true (by kernel_rfl)
theorem pairCells : Try.prog.cellsOf 79 = 2 := by kernel_rfl
theorem intCells : Try.prog.cellsOf 3 = 1 := by kernel_rfl
theorem pairWide : (match Try.prog.underlying 79 with | some (.array _ _) | some (.struct _) => true | _ => false) = true := by rw [Try.underlying79]
set_option maxRecDepth 100000 in
theorem pairKeyed : Keyed Try.prog 79 := Keyed.of_law (deep_law_laid laidOut (m := 2) (by omega) pairRow (by kernel_rfl) pairWide)
theorem pairKeyType : Try.prog.keyType 79 = true := by kernel_rfl
theorem pairKey (a b : Int) (ha : (Lit.int .i64 a).wf = true) (hb : (Lit.int .i64 b).wf = true) : ∃ l, keyOf Try.prog 79 (.agg #[.int .i64 a, .int .i64 b]) = some l := by
  have hs : 0 < Try.prog.types.size := of_decide_eq_true (by kernel_rfl)
  obtain ⟨d, hd⟩ : ∃ d, Try.prog.types.size = d + 1 := ⟨Try.prog.types.size - 1, by omega⟩
  have h3 : ∀ v : Int, (Lit.int .i64 v).wf = true → Try.prog.keyLits (d + 1) 3 [.int .i64 v] = some [.int .i64 v] := fun v hv => by simp [Program.keyLits, Try.underlying3, hv]
  have hf : (Value.agg #[.int .i64 a, .int .i64 b]).formed Try.prog 79 = true := by simp [Value.formed, Try.underlying79, pairCells]
  refine ⟨.string (keyBytes [.int .i64 a, .int .i64 b]), ?_⟩
  unfold keyOf
  rw [Try.underlying79]
  simp only [pairKeyType, hf, Bool.and_self, if_true, hd]
  unfold Program.keyLits
  rw [Try.underlying79]
  simp [Value.cells, pairCells, intCells, h3 a ha, h3 b hb]

theorem plainElem_bool_inv {H : Type} {P : Program} {e : TypeId} (he : P.underlying e = some .bool) {v : Value} {z : DataW H × List MemPlace} (h : plainElem P e v = some z) : ∃ x, v = .bool x ∧ z = (.lit (.bool x), []) := by
  unfold plainElem at h
  rw [he] at h
  cases v <;> simp at h
  exact ⟨_, rfl, h.symm⟩
theorem boolZero (w : World) : (zeroValue 4).run Try.prog w = .ok (.bool false) w := by kernel_rfl

/-- The pair stands among the first t. -/
def pairAhead (ps : List SPair) (t : Nat) (a b : Int) : Bool := (ps.take t).any (fun q => decide (q.first = a ∧ q.second = b))
theorem pairAhead_succ {ps : List SPair} {t : Nat} (ht : t < ps.length) (a b : Int) : pairAhead ps (t + 1) a b = (pairAhead ps t a b || decide ((nth ps t).first = a ∧ (nth ps t).second = b)) := by
  unfold pairAhead
  rw [List.take_succ_eq_append_getElem ht, List.any_append, nth_eq ht]
  simp
/-- Block b is the map of the pairs that are known. -/
def KnownAt (w : World) (b t : Nat) (ps : List SPair) : Prop :=
  ∃ D : DataW Unit, w.ownsMap Try.prog 79 (plainElem Try.prog 4) b t D ∧ IsMap D ∧
    ∀ (x y : Int) l, keyOf Try.prog 79 (.agg #[.int .i64 x, .int .i64 y]) = some l → D.atKey l (.lit (.bool false)) = .lit (.bool (pairAhead ps t x y))
theorem KnownAt.start (w : World) (ps : List SPair) : KnownAt (w.alloc (.map #[] 0)) w.heap.size 0 ps :=
  ⟨.map [], World.ownsMap_made _ _ _ _, isMap_empty, fun x y l _ => by rw [atKey_of_not_has rfl]; simp [pairAhead]⟩
theorem KnownAt.kept {w w' : World} {b t : Nat} {ps : List SPair} {row : Option Nat} (h : KnownAt w b t ps) (hg : w.grownBy w' row) (hne : some b ≠ row) : KnownAt w' b t ps := by
  obtain ⟨D, h1, h2, h3⟩ := h
  exact ⟨D, h1.kept hg hne, h2, h3⟩
theorem KnownAt.lt {w : World} {b t : Nat} {ps : List SPair} (h : KnownAt w b t ps) : b < w.heap.size := h.elim fun _ h => h.1.lt
theorem KnownAt.look {w : World} {b t : Nat} {ps : List SPair} (h : KnownAt w b t ps) {x y : Int} (hx : (Lit.int .i64 x).wf = true) (hy : (Lit.int .i64 y).wf = true) :
    (Instr.lookup 107 (.map (some b)) (.agg #[.int .i64 x, .int .i64 y]) false).run Try.prog w = .ok (.bool (pairAhead ps t x y)) w := by
  obtain ⟨D, h1, h2, h3⟩ := h
  obtain ⟨l, hl⟩ := pairKey x y hx hy
  obtain ⟨v, q, hrun, hv⟩ := h1.lookup pairKeyed Try.underlying107 (boolZero w) (plainElem_bool Try.underlying4 false) hl
  rw [h3 x y l hl] at hv
  obtain ⟨u, rfl, hz⟩ := plainElem_bool_inv Try.underlying4 hv
  simp only [Prod.mk.injEq, DataW.lit.injEq, Lit.bool.injEq] at hz
  rw [hrun, hz.1]
theorem KnownAt.put {w : World} {b t : Nat} {ps : List SPair} (h : KnownAt w b t ps) (ht : t < ps.length) (ht' : t < 1000) (hx : (Lit.int .i64 (nth ps t).first).wf = true) (hy : (Lit.int .i64 (nth ps t).second).wf = true) :
    ∃ w', (Instr.mapUpdate 107 (.map (some b)) (.agg #[.int .i64 (nth ps t).first, .int .i64 (nth ps t).second]) (.bool true)).run Try.prog w = .ok () w' ∧ KnownAt w' b (t + 1) ps ∧ w.grownBy w' (some b) := by
  obtain ⟨D, h1, h2, h3⟩ := h
  obtain ⟨l, hl⟩ := pairKey _ _ hx hy
  obtain ⟨w', hrun, ho, hg⟩ := h1.update pairKeyed Try.underlying107 (by unfold maxLen; omega) hl (plainElem_bool Try.underlying4 true)
  refine ⟨w', hrun, ⟨_, ho, h2.put _ _, fun x y l' hl' => ?_⟩, hg⟩
  rw [pairAhead_succ ht]
  by_cases e : l' = l
  · subst e
    have := pairKeyed.inj hl hl'
    have := Value.agg.inj this
    simp only [Array.mk.injEq, List.cons.injEq, Value.int.injEq, and_true, true_and] at this
    rw [atKey_put_same h2 (pairKeyed.key hl)]
    simp [this.1, this.2]
  · rw [atKey_put_other e, h3 x y l' hl']
    have : ¬ ((nth ps t).first = x ∧ (nth ps t).second = y) := fun ⟨e1, e2⟩ => e (by
      rw [e1, e2] at hl
      exact Option.some.inj (hl'.symm.trans hl))
    simp [this]
end Go.Proofs.Ytncmdjhdfhhkjaa
