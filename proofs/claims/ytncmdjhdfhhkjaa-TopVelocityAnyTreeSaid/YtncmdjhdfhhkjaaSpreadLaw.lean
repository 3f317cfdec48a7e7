/- What 'spread' reads and writes, and the plain law of it. -/
import Derived.Test.YtncmdjhdfhhkjaaFrom
import Derived.Test.YtncmdjhdfhhkjaaBridge
namespace Go.Proofs.Ytncmdjhdfhhkjaa
open Go.RowKit Go.Sort

def boolCell (kn : Nat → Bool) (i : Nat) : List Value := [.bool (kn i)]
def intCell (out : Nat → Int) (i : Nat) : List Value := [.int .i64 (out i)]
def setF {α : Type} (f : Nat → α) (k : Nat) (v : α) (i : Nat) : α := if i = k then v else f i
theorem setF_same {α : Type} (f : Nat → α) (k : Nat) (v : α) : setF f k v k = v := by unfold setF; rw [if_pos rfl]
theorem setF_ne {α : Type} (f : Nat → α) {k i : Nat} (v : α) (h : i ≠ k) : setF f k v i = f i := by unfold setF; rw [if_neg h]
theorem flatN_one {f : Nat → List Value} {u : Nat → Value} (h : ∀ i, f i = [u i]) : ∀ n, flatN f n = (List.range n).map u
  | 0 => rfl
  | n + 1 => by rw [flatN, flatN_one h n, h, List.range_succ, List.map_append]; rfl
theorem flatN_oneGet {f : Nat → List Value} {u : Nat → Value} (h : ∀ i, f i = [u i]) {n k : Nat} (hk : k < n) : (flatN f n)[k]? = some (u k) := by rw [flatN_one h]; simp [hk]
theorem flatN_set {f f' : Nat → List Value} {u u' : Nat → Value} (h : ∀ i, f i = [u i]) (h' : ∀ i, f' i = [u' i]) {n k : Nat} {v : Value} (hv : u' k = v) (hne : ∀ i, i ≠ k → u' i = u i) : (flatN f n).set k v = flatN f' n := by
  rw [flatN_one h, flatN_one h']
  apply List.ext_getElem
  · simp
  · intro i h1 h2
    simp only [List.getElem_set, List.getElem_map, List.getElem_range]
    by_cases e : k = i
    · subst e; rw [if_pos rfl, hv]
    · rw [if_neg e, hne i (fun e' => e e'.symm)]

/-- The numbers of a spreading. -/
structure SpS where
  (B bk bg bf bo bh bs gk go gp op gf gh oh n m f c1 c2 cf ck co ch : Nat)
  (A1 A2 Af Ah : Option Addr)
  ps : List SPair
  fo : Nat → Nat
  P : Nat → Int
structure SpOk (S : SpS) : Prop where
  few : S.n ≤ 60
  fewM : S.m ≤ 200
  fewF : S.f ≤ S.m
  small : ∀ i, i < S.f → S.fo i < S.m
  ends : ∀ k, k < S.m → pa S.ps k < pb S.ps k ∧ pb S.ps k < S.n
  row : 0 < S.f → S.Af = some ⟨S.gf, 0, none⟩
  rowP : 0 < S.m → S.A2 = some ⟨S.gp, S.op, none⟩
  rowH : 0 < S.m → S.Ah = some ⟨S.gh, S.oh, none⟩
  b1 : S.bk < S.B ∧ S.bk ≠ S.gk ∧ S.bk ≠ S.go
  b2 : S.bg < S.B ∧ S.bg ≠ S.gk ∧ S.bg ≠ S.go
  b3 : S.bf < S.B ∧ S.bf ≠ S.gk ∧ S.bf ≠ S.go
  b4 : S.bo < S.B ∧ S.bo ≠ S.gk ∧ S.bo ≠ S.go
  b5 : S.bh < S.B ∧ S.bh ≠ S.gk ∧ S.bh ≠ S.go
  b6 : S.bs < S.B ∧ S.bs ≠ S.gk ∧ S.bs ≠ S.go
  b7 : 0 < S.m → S.gp < S.B ∧ S.gp ≠ S.gk ∧ S.gp ≠ S.go
  b8 : 0 < S.f → S.gf < S.B ∧ S.gf ≠ S.gk ∧ S.gf ≠ S.go
  b9 : 0 < S.m → S.gh < S.B ∧ S.gh ≠ S.gk ∧ S.gh ≠ S.go
  kB : S.gk < S.B
  oB : S.go < S.B
  ne : S.gk ≠ S.go
  pot : ∀ i, i < S.n → -100000 ≤ S.P i ∧ S.P i ≤ 100000
def spreadFn (S : SpS) : Value := .func (.func 40) #[] #[.pointer (some ⟨S.bk, 0, none⟩), .pointer (some ⟨S.bg, 0, none⟩), .pointer (some ⟨S.bf, 0, none⟩), .pointer (some ⟨S.bo, 0, none⟩), .pointer (some ⟨S.bh, 0, none⟩), .pointer (some ⟨S.bs, 0, none⟩)]
structure SpreadAt (S : SpS) (W : World) (kn : Nat → Bool) (out : Nat → Int) : Prop where
  ck : Blk W S.bk 95 #[.slice (some ⟨S.gk, 0, none⟩) S.n S.ck]
  cg : Blk W S.bg 84 #[.slice S.A1 S.n S.c1, .slice S.A2 S.m S.c2]
  cf : Blk W S.bf 43 #[.slice S.Af S.f S.cf]
  co : Blk W S.bo 43 #[.slice (some ⟨S.go, 0, none⟩) S.n S.co]
  ch : Blk W S.bh 43 #[.slice S.Ah S.m S.ch]
  cs : Blk W S.bs 97 #[spreadFn S]
  rk : W.ownsRow 0 4 1 (.slice (some ⟨S.gk, 0, none⟩) S.n S.ck) S.n (flatN (boolCell kn) S.n)
  ro : W.ownsRow 0 3 1 (.slice (some ⟨S.go, 0, none⟩) S.n S.co) S.n (flatN (intCell out) S.n)
  fo : ∀ i, i < S.f → W.cell? ⟨S.gf, i, none⟩ = some (.int .i64 (S.fo i : Int))
  ea : ∀ k, k < S.m → W.cell? ⟨S.gp, S.op + k * 2, none⟩ = some (.int .i64 (pa S.ps k : Int))
  eb : ∀ k, k < S.m → W.cell? ⟨S.gp, S.op + k * 2 + 1, none⟩ = some (.int .i64 (pb S.ps k : Int))
  ph : ∀ k, k < S.m → W.cell? ⟨S.gh, S.oh + k, none⟩ = some (.int .i64 (S.P (pb S.ps k) - S.P (pa S.ps k)))
  size : S.B ≤ W.heap.size
section
variable {S : SpS} {W W' : World} {kn : Nat → Bool} {out : Nat → Int} {row : Option Nat}
theorem SpreadAt.keep (h : SpreadAt S W kn out) (hS : SpOk S) (k : Keeps2 S.B S.gk S.go W W') {kn' : Nat → Bool} {out' : Nat → Int} (rk : W'.ownsRow 0 4 1 (.slice (some ⟨S.gk, 0, none⟩) S.n S.ck) S.n (flatN (boolCell kn') S.n))
    (ro : W'.ownsRow 0 3 1 (.slice (some ⟨S.go, 0, none⟩) S.n S.co) S.n (flatN (intCell out') S.n)) : SpreadAt S W' kn' out' :=
  have blk : ∀ {b : Nat} {t : TypeId} {c : Array Value}, b < S.B ∧ b ≠ S.gk ∧ b ≠ S.go → Blk W b t c → Blk W' b t c := fun hb h => (k.block _ hb.1 hb.2.1 hb.2.2).trans h
  ⟨blk hS.b1 h.ck, blk hS.b2 h.cg, blk hS.b3 h.cf, blk hS.b4 h.co, blk hS.b5 h.ch, blk hS.b6 h.cs, rk, ro,
    fun i hi => (k.cell (p := ⟨S.gf, i, none⟩) (hS.b8 (by omega))).trans (h.fo i hi), fun i hi => (k.cell (p := ⟨S.gp, _, none⟩) (hS.b7 (by omega))).trans (h.ea i hi), fun i hi => (k.cell (p := ⟨S.gp, _, none⟩) (hS.b7 (by omega))).trans (h.eb i hi),
    fun i hi => (k.cell (p := ⟨S.gh, _, none⟩) (hS.b9 (by omega))).trans (h.ph i hi), Nat.le_trans h.size k.size⟩
theorem SpreadAt.grown (h : SpreadAt S W kn out) (hS : SpOk S) (hg : W.grownBy W' row) (hr : ∀ r, row = some r → S.B ≤ r) : SpreadAt S W' kn out :=
  h.keep hS (Keeps2.of_grown hg h.size (fun r e => .inl (hr r e)))
    (h.rk.kept hg (.inr (fun e => by have h1 := hr S.gk e.symm; have h2 := hS.kB; omega)))
    (h.ro.kept hg (.inr (fun e => by have h1 := hr S.go e.symm; have h2 := hS.oB; omega)))
theorem SpreadAt.known (h : SpreadAt S W kn out) (hS : SpOk S) (i : Nat) : SpreadAt S (W.setCell ⟨S.gk, i, none⟩ (.bool true)) (setF kn i true) out := by
  have hst := h.rk.stored i (.bool true)
  refine h.keep hS (Keeps2.of_grown hst.2 h.size (fun r e => .inr (.inl (by injection e with e; exact e.symm)))) ?_ (h.ro.kept hst.2 (.inr (fun e => hS.ne (by injection e with e; exact e.symm))))
  have := hst.1
  rwa [flatN_set (f := boolCell kn) (f' := boolCell (setF kn i true)) (fun _ => rfl) (fun _ => rfl) (by rw [setF_same]) (fun j hj => by rw [setF_ne _ _ hj])] at this
theorem SpreadAt.stored (h : SpreadAt S W kn out) (hS : SpOk S) (i : Nat) (v : Int) : SpreadAt S (W.setCell ⟨S.go, i, none⟩ (.int .i64 v)) kn (setF out i v) := by
  have hst := h.ro.stored i (.int .i64 v)
  refine h.keep hS (Keeps2.of_grown hst.2 h.size (fun r e => .inr (.inr (by injection e with e; exact e.symm)))) (h.rk.kept hst.2 (.inr (fun e => hS.ne (by injection e)))) ?_
  have := hst.1
  rwa [flatN_set (f := intCell out) (f' := intCell (setF out i v)) (fun _ => rfl) (fun _ => rfl) (by rw [setF_same]) (fun j hj => by rw [setF_ne _ _ hj])] at this
theorem SpreadAt.knownAt (h : SpreadAt S W kn out) {i : Nat} (hi : i < S.n) : W.cell? ⟨S.gk, i, none⟩ = some (.bool (kn i)) := (h.rk.cellAt i (by omega)).trans (flatN_oneGet (f := boolCell kn) (fun _ => rfl) hi)
theorem SpreadAt.outAt (h : SpreadAt S W kn out) {i : Nat} (hi : i < S.n) : W.cell? ⟨S.go, i, none⟩ = some (.int .i64 (out i)) := (h.ro.cellAt i (by omega)).trans (flatN_oneGet (f := intCell out) (fun _ => rfl) hi)
end

/-- What a spreading adds. -/
structure Grew (S : SpS) (c : Int) (kn : Nat → Bool) (out : Nat → Int) (kn' : Nat → Bool) (out' : Nat → Int) : Prop where
  more : ∀ i, kn i = true → kn' i = true
  old : ∀ i, kn i = true → out' i = out i
  new : ∀ i, i < S.n → kn' i = true → kn i = false → out' i = S.P i + c
  kept : ∀ i, kn' i = false → out' i = out i
  shut : ∀ i, i < S.n → kn' i = true → kn i = false → ∀ k, InL S.fo S.f k → (pa S.ps k = i → kn' (pb S.ps k) = true) ∧ (pb S.ps k = i → kn' (pa S.ps k) = true)
section
variable {S : SpS} {c : Int} {kn kn' kn'' : Nat → Bool} {out out' out'' : Nat → Int}
theorem Grew.refl : Grew S c kn out kn out := ⟨fun _ h => h, fun _ _ => rfl, fun i _ h1 h2 => (by rw [h1] at h2; cases h2), fun _ _ => rfl, fun i _ h1 h2 => (by rw [h1] at h2; cases h2)⟩
theorem Grew.trans (h : Grew S c kn out kn' out') (k : Grew S c kn' out' kn'' out'') : Grew S c kn out kn'' out'' :=
  ⟨fun i hi => k.more i (h.more i hi), fun i hi => (k.old i (h.more i hi)).trans (h.old i hi),
   fun i hn h1 h2 => by
    cases e : kn' i with
    | true => rw [k.old i e]; exact h.new i hn e h2
    | false => exact k.new i hn h1 e,
   fun i hi => (k.kept i hi).trans (h.kept i (by cases e : kn' i with
     | true => rw [k.more i e] at hi; exact hi
     | false => rfl)),
   fun i hn h1 h2 j hj => by
    cases e : kn' i with
    | true => have := h.shut i hn e h2 j hj; exact ⟨fun e1 => k.more _ (this.1 e1), fun e1 => k.more _ (this.2 e1)⟩
    | false => exact k.shut i hn h1 e j hj⟩
/-- Numbers of scenes that are not known do not matter. -/
theorem Grew.of_store {t : Nat} {v : Int} (h : Grew S c kn (setF out t v) kn' out') (ht : kn t = false) (ht' : kn' t = true) : Grew S c kn out kn' out' :=
  ⟨h.more, fun i hi => (by rw [h.old i hi, setF_ne]; intro e; rw [e, ht] at hi; cases hi), h.new, fun i hi => (by rw [h.kept i hi, setF_ne]; intro e; rw [e, ht'] at hi; cases hi), h.shut⟩
/-- A scene and all that its steps lead to. -/
theorem Grew.first {s : Nat} (h : Grew S c (setF kn s true) out kn' out') (ho : out s = S.P s + c) (hs : ∀ k, InL S.fo S.f k → (pa S.ps k = s → kn' (pb S.ps k) = true) ∧ (pb S.ps k = s → kn' (pa S.ps k) = true)) (hkn : kn s = false) :
    Grew S c kn out kn' out' ∧ kn' s = true :=
  have hss : setF kn s true s = true := setF_same _ _ _
  ⟨⟨fun i hi => h.more i (by unfold setF; by_cases e : i = s; · rw [if_pos e]
                             · rw [if_neg e]; exact hi),
    fun i hi => h.old i (by unfold setF; by_cases e : i = s; · rw [if_pos e]
                            · rw [if_neg e]; exact hi),
    fun i hn h1 h2 => by
      by_cases e : i = s
      · rw [e, h.old s hss]; exact ho
      · exact h.new i hn h1 (by rw [setF_ne _ _ e]; exact h2),
    h.kept,
    fun i hn h1 h2 => by
      by_cases e : i = s
      · rw [e]; exact hs
      · exact h.shut i hn h1 (by rw [setF_ne _ _ e]; exact h2)⟩, h.more s hss⟩
end
/-- How many of n scenes are not known. -/
def unknown (kn : Nat → Bool) (n : Nat) : Nat := ((List.range n).filter (fun i => !kn i)).length
theorem unknown_mono {kn kn' : Nat → Bool} (n : Nat) (h : ∀ i, kn i = true → kn' i = true) : unknown kn' n ≤ unknown kn n := by
  unfold unknown
  induction n with
  | zero => simp
  | succ n ih =>
    rw [List.range_succ, List.filter_append, List.filter_append, List.length_append, List.length_append]
    have : (List.filter (fun i => !kn' i) [n]).length ≤ (List.filter (fun i => !kn i) [n]).length := by
      cases e : kn n with
      | true => simp [h n e]
      | false => cases e' : kn' n <;> simp [e, e']
    omega
theorem unknown_set {kn : Nat → Bool} {n s : Nat} (hs : s < n) (h : kn s = false) : unknown (setF kn s true) n < unknown kn n := by
  unfold unknown
  induction n with
  | zero => omega
  | succ n ih =>
    rw [List.range_succ, List.filter_append, List.filter_append, List.length_append, List.length_append]
    by_cases e : s = n
    · subst e
      have h1 := unknown_mono (kn := kn) (kn' := setF kn s true) s (fun i hi => by unfold setF; by_cases e : i = s; · rw [if_pos e]
                                                                                   · rw [if_neg e]; exact hi)
      unfold unknown at h1
      simp [setF_same, h]
      omega
    · have h1 := ih (by omega)
      have h2 : (List.filter (fun i => !setF kn s true i) [n]).length = (List.filter (fun i => !kn i) [n]).length := by
        have := setF_ne kn true (show n ≠ s from fun e' => e e'.symm)
        simp only [List.filter_cons, List.filter_nil, this]
      omega
end Go.Proofs.Ytncmdjhdfhhkjaa
