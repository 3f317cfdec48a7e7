/- Arguments of a statement, read: slices as lists of data; and what is left to say of a row behind a walk that only made new memory. -/
import Derived.Test.YtncmdjhdfhhkjaaSeriesLaw
import Derived.ProofKit
import Derived.Deep.Slices
import Derived.Deep.Fields
import Derived.Lib.SmallJoins
import Derived.OpenShut
import Derived.Carry
namespace Go.Proofs.Ytncmdjhdfhhkjaa
open Go.RowKit Go.WideShapes Go.ChangeShapes Go.ChangeAt

theorem addr_of_cell {w : World} {a : Addr} {v : Value} (h : w.cell? a = some v) : a.spot = none ∧ a.block < w.heap.size := by
  unfold World.cell? at h
  split at h
  · rename_i c t f he
    refine ⟨?_, (Array.getElem?_eq_some_iff.1 he).1⟩
    cases hs : a.spot with
    | none => rfl
    | some s => rw [hs] at h; simp at h
  · cases h
theorem add_plain {a : Addr} (h : a.spot = none) (j : Nat) : a.add j = ⟨a.block, a.off + j, none⟩ := by
  obtain ⟨b, o, s⟩ := a
  subst h
  unfold Addr.add
  split
  · rename_i h0; subst h0; simp
  · rfl

section
variable {H : Type} {enc : TypeId × Value → H} {P : Program} {w : World} {base : Nat} {spare : Nat → Bool} {held : Bool}
/-- A slice whose elements read as data of some kind. -/
theorem slice_reads {α : Type} [Inhabited α] (cells : α → List Value) (good : α → Prop) (size : Nat) {t e : TypeId} {fuel : Nat} {v : Value} {x : DataW H × List MemPlace} (ht : P.underlying t = some (.slice e)) (hC : P.cellsOf e = size) (hsz : 0 < size)
    (hel : ∀ n cs y, DataW.trod enc P w base spare held n e cs = some y → ∃ z, cs = cells z ∧ good z) (h : DataW.trod enc P w base spare held fuel t [v] = some x) :
    ∃ A n c xs, v = .slice A n c ∧ xs.length = n ∧ n ≤ c ∧ c ≤ maxLen ∧ SliceAt w A size cells xs ∧ ∀ k, k < n → good (nth xs k) := by
  rcases Go.Deep.open_slice ht h with ⟨hcs, _⟩ | ⟨a, len, cap, m, n, D, Pl, hcs, _, hl, hm, hmm, _, hi⟩
  · have : v = .slice none 0 0 := by simpa using hcs
    exact ⟨none, 0, 0, [], this, rfl, Nat.le_refl _, Nat.zero_le _, fun h => absurd h (by simp), fun k hk => by omega⟩
  · have hv : v = .slice (some a) len cap := by simpa using hcs
    have hlm : len ≤ m := by rw [hmm]; split <;> omega
    rw [hC] at hi
    obtain ⟨f, hf⟩ := Go.Deep.choose_lt (α := α) (n := len) (p := fun i z => good z ∧ ∀ j u, (cells z)[j]? = some u → w.cell? ((a.add (i * size)).add j) = some u ∧ j < size) (fun i hil => by
      obtain ⟨cs', h1, h2⟩ := hi i (by omega)
      obtain ⟨z, rfl, hg⟩ := hel _ _ _ h2
      obtain ⟨_, hlen, hat⟩ := World.cells?_some h1
      exact ⟨z, hg, fun j u hu => by
        have hj : j < size := by rw [← hlen]; exact (List.getElem?_eq_some_iff.1 hu).1
        exact ⟨(hat j hj).trans hu, hj⟩⟩)
    have hnth : ∀ k, k < len → nth ((List.range len).map f) k = f k := fun k hk => by rw [nth_eq (by simpa using hk)]; simp
    refine ⟨some a, len, cap, (List.range len).map f, hv, by simp, hl, hm, fun hp => ?_, fun k hk => by rw [hnth k hk]; exact (hf k hk).1⟩
    have hp' : 0 < len := by simpa using hp
    obtain ⟨cs0, h1, h2⟩ := hi 0 (by omega)
    obtain ⟨_, hlen, hat⟩ := World.cells?_some h1
    have h0 := hat 0 hsz
    have hcs0 : cs0[0]? = some (cs0[0]'(by omega)) := List.getElem?_eq_getElem (by omega)
    rw [hcs0, Nat.zero_mul] at h0
    have ha0 : (a.add 0).add 0 = a := by simp [Addr.add]
    rw [ha0] at h0
    obtain ⟨hsp, hlt⟩ := addr_of_cell h0
    obtain ⟨b, off, s⟩ := a
    simp only at hsp hlt
    subst hsp
    refine ⟨b, off, rfl, hlt, fun k hk j u hu => ?_⟩
    have hk' : k < len := by simpa using hk
    rw [hnth k hk'] at hu
    have := ((hf k hk').2 j u hu).1
    rw [add_plain (a := ⟨b, off, none⟩) rfl (k * size), add_plain rfl] at this
    exact this
/-- A value of an integer type. -/
theorem int_reads {k : IntKind} {t : TypeId} {fuel : Nat} {cs : List Value} {x : DataW H × List MemPlace} (ht : P.underlying t = some (.int k)) (h : DataW.trod enc P w base spare held fuel t cs = some x) : ∃ n, cs = [.int k n] ∧ (Lit.int k n).wf = true := by
  obtain ⟨n, h1, _, h2⟩ := DataW.trod_int ht h
  exact ⟨n, h1, h2⟩
/-- Cells that stand one behind the other. -/
theorem cells_split {cs : List Value} {n : Nat} (hl : cs.length = n) {f : Nat → Value} (h : ∀ i, i < n → (cs.drop i).take 1 = [f i]) : cs = (List.range n).map f := by
  apply List.ext_getElem
  · simp [hl]
  · intro i h1 h2
    have := h i (by omega)
    rw [List.drop_eq_getElem_cons h1, List.take_succ_cons, List.take_zero] at this
    simp only [List.cons.injEq, and_true] at this
    simpa using this
theorem below_trodAll (hl : laidOutB P = true) {W W' : World} (hb : Below W.heap.size W W') : ∀ {ts : List TypeId} {vs : List Value} {ds : List (DataW H)} {ps : List MemPlace}, (∀ t ∈ ts, P.readableRec t = true ∧ t < P.types.size) → DataW.TrodAll enc P W 0 (fun _ => true) true ts vs ds ps →
    (∀ x ∈ ps, x.block < W.heap.size) → DataW.TrodAll enc P W' 0 (fun b => decide (b < W.heap.size)) true ts vs ds ps
  | [], vs, ds, ps, _, h, _ => by
    obtain ⟨rfl, rfl, rfl⟩ := trodAll_nil h
    exact trodAll_mk0
  | t :: ts, vs, ds, ps, ht, h, hlt => by
    obtain ⟨v, vs', d, ds', p, q, rfl, rfl, rfl, h1, h2⟩ := trodAll_cons h
    exact trodAll_cons_mk (Below.trod hl (ht t (by simp)).1 (ht t (by simp)).2 h1 hb (fun x hx => hlt x (by simp [hx]))) (below_trodAll hl hb (fun t' ht' => ht t' (by simp [ht'])) h2 (fun x hx => hlt x (by simp [hx])))
/-- What is left to say of a statement's row: it returned true, nothing that lay has turned. -/
theorem law_post (hl : laidOutB P = true) {f : Func} {s : ChangeSpec} {W W' : World} {args : Array Value} {ds : List (DataW H)} {before ps : List MemPlace} {tb : TypeId} (hb : P.underlying tb = some .bool)
    (hW : DataW.Whole enc P f.params.toList s.vars false W args.toList ds [] before) (hA : DataW.TrodAll enc P W 0 (fun _ => true) true f.params.toList args.toList ds ps) (hread : ∀ t ∈ f.params.toList, P.readableRec t = true ∧ t < P.types.size)
    (hps : before = ps) (hvars : s.vars = []) (hres : f.resultTypes = #[tb]) (hfn : (s.fn H (ds ++ [])).results = [.lit (.bool true)]) (hargs : (s.fn H (ds ++ [])).args = ds) (hvs : (s.fn H (ds ++ [])).vars = []) (hB : Below W.heap.size W W') :
    s.post enc P f false true false false W args (.bool true) W' := by
  have hlt : ∀ x ∈ ps, x.block < W.heap.size := fun x hx => hA.lt x hx
  refine ⟨ds, [], before, [], ps, [], hW, ?_, ?_, ?_, World.keptBut_mono (fun p hp => ⟨hp, .inr (.inl (hps ▸ hp))⟩) (hB.frame (· ∈ before)), fun h => by cases h⟩
  · rw [hfn, hres]
    exact trodAll_mk1 ⟨1, by simp [DataW.trod, Value.cells, hb]⟩
  · rw [hargs]
    exact below_trodAll hl hB hread hA hlt
  · rw [hvars, hvs]
    rfl
end
end Go.Proofs.Ytncmdjhdfhhkjaa
