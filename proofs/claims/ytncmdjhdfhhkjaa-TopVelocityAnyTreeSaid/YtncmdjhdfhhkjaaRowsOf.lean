/- The observations of a series. -/
import Derived.Test.YtncmdjhdfhhkjaaAdd
namespace Go.Proofs.Ytncmdjhdfhhkjaa
open Go.RowKit Go.Sort

/-- Row k of a series, and all the rows and phases. -/
def rowAt (xs : List Epoch) (k : Nat) : Row3 := ⟨(nth xs k).day - (nth xs 0).day, (nth xs k).base, 1⟩
def rowsL (xs : List Epoch) : List Row3 := (List.range xs.length).map (rowAt xs)
def phasesL (xs : List Epoch) : List Int := (List.range xs.length).map fun k => (nth xs k).phase
theorem nth_range {α : Type} [Inhabited α] (f : Nat → α) {n k : Nat} (h : k < n) : nth ((List.range n).map f) k = f k := by
  rw [nth_eq (by simpa using h)]; simp
/-- The cells of the first k elements, one behind the other. -/
def flatN (f : Nat → List Value) : Nat → List Value
  | 0 => []
  | k + 1 => flatN f k ++ f k
theorem flatN_length {f : Nat → List Value} {s : Nat} (hf : ∀ k, (f k).length = s) : ∀ n, (flatN f n).length = n * s
  | 0 => by simp [flatN]
  | n + 1 => by simp [flatN, flatN_length hf n, hf, Nat.succ_mul]
theorem flatN_get {f : Nat → List Value} {s : Nat} (hf : ∀ k, (f k).length = s) : ∀ {n k j : Nat}, k < n → j < s → (flatN f n)[k * s + j]? = (f k)[j]?
  | 0, k, j, h, _ => by omega
  | n + 1, k, j, h, hj => by
    simp only [flatN]
    by_cases e : k = n
    · subst e
      rw [List.getElem?_append_right (by rw [flatN_length hf]; omega), flatN_length hf]
      congr 1; omega
    · have hlt : k * s + j < n * s := by
        have : (k + 1) * s ≤ n * s := Nat.mul_le_mul_right _ (by omega)
        rw [Nat.succ_mul] at this
        omega
      rw [List.getElem?_append_left (by rw [flatN_length hf]; exact hlt), flatN_get hf (by omega) hj]
/-- A row of the call's own reads as a list. -/
theorem sliceAt_of_own {α : Type} [Inhabited α] {w : World} {base : Nat} {e : TypeId} {s : Nat} {A : Option Addr} {n c : Nat} {enc : α → List Value} {xs : List α} (hs : ∀ x, (enc x).length = s)
    (hn : xs.length = n) (h : w.ownsRow base e s (.slice A n c) n (flatN (fun k => enc (nth xs k)) n)) : SliceAt w A s enc xs := fun hp => by
  obtain ⟨g, cap, hv, _, hlt⟩ := h.form (by omega)
  injection hv with hA hn' hc
  subst hA
  subst hc
  refine ⟨g, 0, rfl, hlt, fun k hk j u hu => ?_⟩
  have hj : j < s := by
    have := (List.getElem?_eq_some_iff.1 hu).1
    rw [hs] at this; exact this
  rw [Nat.zero_add, h.cellAt _ (by
    have : (k + 1) * s ≤ n * s := Nat.mul_le_mul_right _ (by omega)
    rw [Nat.succ_mul] at this; omega), flatN_get (f := fun k => enc (nth xs k)) (fun k => hs _) (by omega) hj]
  exact hu
theorem flatN_congr {f g : Nat → List Value} : ∀ {n : Nat}, (∀ k, k < n → f k = g k) → flatN f n = flatN g n
  | 0, _ => rfl
  | n + 1, h => by simp only [flatN]; rw [flatN_congr (fun k hk => h k (by omega)), h n (by omega)]

def rowCell (xs : List Epoch) (k : Nat) : List Value := [.int .i64 ((nth xs k).day - (nth xs 0).day), .int .i64 (nth xs k).base, .int .i64 1]
def phCell (xs : List Epoch) (k : Nat) : List Value := [.int .i64 (nth xs k).phase]

/-- What 'rowsOf' returns. -/
def RowsPost (xs : List Epoch) (n : Nat) (w : World) (e : Ending) (w' : World) : Prop :=
  ∃ A1 c1 A2 c2, e = .returned (.agg #[.slice A1 n c1, .slice A2 n c2]) ∧ SliceAt w' A1 3 Row3.enc (rowsL xs) ∧ SliceAt w' A2 1 encI (phasesL xs) ∧ Below w.heap.size w w'

theorem slice_form {w : World} {base : Nat} {e : TypeId} {s n : Nat} {v : Value} {xs : List Value} (h : w.ownsRow base e s v n xs) : ∃ A c, v = .slice A n c := by
  rcases h.2 with ⟨rfl, rfl⟩ | ⟨g, cap, _, rfl, _⟩
  · exact ⟨none, 0, rfl⟩
  · exact ⟨_, _, rfl⟩

set_option maxRecDepth 100000 in
set_option maxHeartbeats 2000000 in
theorem rowsOf_any (nm : ByteArray) (A : Option Addr) (n c : Nat) (xs : List Epoch) (w : World) (hn : xs.length = n) (hm : n ≤ 20) (hd : ∀ k, k < n → 0 ≤ (nth xs k).day ∧ (nth xs k).day ≤ 100000) (hS : SliceAt w A 4 Epoch.enc xs) :
    Calls Try.prog 45 #[.agg #[.string nm, .slice A n c]] w (RowsPost xs n w) := by
  have HN := Lib.hid hn
  clear hn
  go_enter Try.func45, Try.ntmps45
  go_wp2
  go_loopw [9] (fun i wr => ∃ k : Nat, ∃ v1 v2 : Value, k ≤ n ∧ i = .int .i64 k ∧ Below w.heap.size w wr ∧ Blk wr w.heap.size 24 #[.string nm, .slice A n c] ∧ Blk wr (w.heap.size + 1) 62 #[.slice none 0 0, .slice none 0 0] ∧ Blk wr (w.heap.size + 1 + 1) 62 #[v1, v2] ∧
      wr.ownsRow (w.heap.size + 1 + 1 + 1) 63 3 v1 k (flatN (rowCell xs) k) ∧ wr.ownsRow (w.heap.size + 1 + 1 + 1) 3 1 v2 k (flatN (phCell xs) k)) (fun i _ => n - (intOf i).toNat)
  case atStart =>
    refine ⟨0, .slice none 0 0, .slice none 0 0, by omega, rfl, ((((Below.refl _ _).alloc (by simp) _).alloc (by simp) _).alloc (by simp; omega) _), ((Blk.new _ _ _).alloc _).alloc _, ?_, ?_, World.ownsRow_nil _ _ _ _, World.ownsRow_nil _ _ _ _⟩
    · have := (Blk.new (w.alloc (.cells #[.string nm, .slice A n c] 24)) 62 #[.slice none 0 0, .slice none 0 0]).alloc (.cells #[.slice none 0 0, .slice none 0 0] 62)
      rw [World.size_alloc] at this; exact this
    · have := Blk.new ((w.alloc (.cells #[.string nm, .slice A n c] 24)).alloc (.cells #[.slice none 0 0, .slice none 0 0] 62)) 62 #[.slice none 0 0, .slice none 0 0]
      rw [World.size_alloc, World.size_alloc] at this; exact this
  case round =>
    obtain ⟨k, v1, v2, hk, rfl, hB, b0, b1, b2, o1, o2⟩ := hrel
    have hs2 := b2.lt
    by_cases hlt : k < n
    · obtain ⟨b, off, rfl, hb, hcell⟩ := hS (by rw [HN.out]; omega)
      have hbw : b < wr.heap.size := by omega
      have hck := hcell k (by rw [HN.out]; exact hlt)
      have d0 : wr.cell? ⟨b, off + k * 4, none⟩ = some (.int .i64 (nth xs k).day) := (hB.cell (p := ⟨b, _, none⟩) hb).trans (hck 0 _ rfl)
      have d1 : wr.cell? ⟨b, off + k * 4 + 1, none⟩ = some (.int .i64 (nth xs k).base) := (hB.cell (p := ⟨b, _, none⟩) hb).trans (hck 1 _ rfl)
      have d2 : wr.cell? ⟨b, off + k * 4 + 2, none⟩ = some (.int .i64 (nth xs k).phase) := (hB.cell (p := ⟨b, _, none⟩) hb).trans (hck 2 _ rfl)
      have d3 : wr.cell? ⟨b, off + k * 4 + 3, none⟩ = some (.int .i64 (nth xs k).margin) := (hB.cell (p := ⟨b, _, none⟩) hb).trans (hck 3 _ rfl)
      have f0 : wr.cell? ⟨b, off, none⟩ = some (.int .i64 (nth xs 0).day) := (hB.cell (p := ⟨b, _, none⟩) hb).trans (by have := hcell 0 (by rw [HN.out]; omega) 0 _ rfl; simpa using this)
      have e1 : wr.cell? ⟨w.heap.size, 1, none⟩ = some (.slice (some ⟨b, off, none⟩) n c) := b0.cell 1
      have hbk := hd k hlt
      have hb0 := hd 0 (by omega)
      have hn1 : (0 : Int) < (n : Int) := by omega
      have hn2 : 0 < n := by omega
      have hww : IntKind.i64.wrap ((nth xs k).day - (nth xs 0).day) = (nth xs k).day - (nth xs 0).day := IntWalk.i64_in _ (by omega)
      have hw0 : w.heap.size < wr.heap.size := by omega
      clear hck hcell
      have b2' := b2
      have o1' := o1
      go_wp2
      obtain ⟨W0, hW0⟩ : ∃ W0, wr.alloc (Obj.cells #[.int .i64 (nth xs k).day, .int .i64 (nth xs k).base, .int .i64 (nth xs k).phase, .int .i64 (nth xs k).margin] 51) = W0 := ⟨_, rfl⟩
      have hB0 : Below w.heap.size w W0 := by rw [← hW0]; exact hB.alloc hB.size _
      have hx : Blk W0 wr.heap.size 51 #[.int .i64 (nth xs k).day, .int .i64 (nth xs k).base, .int .i64 (nth xs k).phase, .int .i64 (nth xs k).margin] := by rw [← hW0]; exact Blk.new _ _ _
      have x0 : Blk W0 w.heap.size 24 #[.string nm, .slice (some ⟨b, off, none⟩) n c] := by rw [← hW0]; exact b0.alloc _
      have x1 : Blk W0 (w.heap.size + 1) 62 #[.slice none 0 0, .slice none 0 0] := by rw [← hW0]; exact b1.alloc _
      have x2 : Blk W0 (w.heap.size + 1 + 1) 62 #[v1, v2] := by rw [← hW0]; exact b2.alloc _
      have xo1 : W0.ownsRow (w.heap.size + 1 + 1 + 1) 63 3 v1 k (flatN (rowCell xs) k) := by rw [← hW0]; exact o1.alloc _
      have xo2 : W0.ownsRow (w.heap.size + 1 + 1 + 1) 3 1 v2 k (flatN (phCell xs) k) := by rw [← hW0]; exact o2.alloc _
      have xf0 : W0.cell? ⟨b, off, none⟩ = some (.int .i64 (nth xs 0).day) := by rw [← hW0]; exact (World.cell?_alloc_lt _ _ _ hbw).trans f0
      rw [hW0]
      have hz := hx.lt
      generalize wr.heap.size = X at *
      clear hW0 d0 d1 d2 d3 f0 e1 b0 b1 b2 o1 o2 hB b2' o1'
      have hw0' : w.heap.size < W0.heap.size := by omega
      have hbW : b < W0.heap.size := by omega
      have hS0 : W0.drew.cell? ⟨X, 0, none⟩ = some (.int .i64 (nth xs k).day) ∧ W0.drew.cell? ⟨X, 1, none⟩ = some (.int .i64 (nth xs k).base) ∧ W0.drew.cell? ⟨X, 2, none⟩ = some (.int .i64 (nth xs k).phase) ∧
          W0.drew.cell? ⟨w.heap.size, 1, none⟩ = some (.slice (some ⟨b, off, none⟩) n c) ∧ W0.drew.cell? ⟨b, off, none⟩ = some (.int .i64 (nth xs 0).day) := ⟨hx.cell 0, hx.cell 1, hx.cell 2, x0.cell 1, xf0⟩
      refine wp_region_any (by kernel_rfl) ?_
      refine any_mid (S := fun w' => w'.cell? ⟨X, 0, none⟩ = some (.int .i64 (nth xs k).day) ∧ w'.cell? ⟨X, 1, none⟩ = some (.int .i64 (nth xs k).base) ∧ w'.cell? ⟨X, 2, none⟩ = some (.int .i64 (nth xs k).phase) ∧
          w'.cell? ⟨w.heap.size, 1, none⟩ = some (.slice (some ⟨b, off, none⟩) n c) ∧ w'.cell? ⟨b, off, none⟩ = some (.int .i64 (nth xs 0).day))
        13 1 _ _ [0, 1, 2, 3, 4, 5, 6, 7, 8, 9, 10, 11] (by kernel_rfl) (by intro c a w d v h; cases d <;> exact h) (by kernel_rfl) (by kernel_rfl) (by kernel_rfl) (by kernel_rfl) (by kernel_rfl) (by kernel_rfl) hS0 ?_
      iterate 12
        refine wpIf_step (v := ?_) rfl rfl (fun W hS => ?_) ?_
        rotate_left
        · obtain ⟨s0, s1, s2, s3, s4⟩ := hS
          go_simp
          rfl
      refine wpIf_nil ?_
      clear hww
      obtain ⟨s0, s1, s2, s3, s4⟩ := hS0
      refine anyHL_all (rs := [12]) (by kernel_rfl) (by decide) (by decide) ?_
      intro i hi
      obtain rfl : i = 12 := by simpa using hi
      refine wpOp_lit rfl rfl ?_
      go_simp
      refine ⟨⟨s0, s1, s2, s3⟩, by kernel_rfl, ?_⟩
      go_wp2_with fail
      have hgb : Blk (W0.alloc (.cells #[.int .i64 ((nth xs k).day - (nth xs 0).day), .int .i64 (nth xs k).base, .int .i64 1] 3)) W0.heap.size 3 #[.int .i64 ((nth xs k).day - (nth xs 0).day), .int .i64 (nth xs k).base, .int .i64 1] := Blk.new _ _ _
      have hadd := add_any (w.heap.size + 1 + 1) (w.heap.size + 1 + 1 + 1) (w.heap.size + 1 + 1) W0.heap.size k v1 v2 _ _ ((nth xs k).day - (nth xs 0).day) (nth xs k).base 1 (nth xs k).phase (W0.alloc (.cells #[.int .i64 ((nth xs k).day - (nth xs 0).day), .int .i64 (nth xs k).base, .int .i64 1] 3)).drew
        (x2.alloc _).drew (by omega) (by omega) hgb.drew (by simp; omega) (xo1.alloc _).drew (xo2.alloc _).drew (by omega) (fun e => by have := (xo2.lt _ e).2; omega)
      refine hadd.mono ?_
      rintro e W2 ⟨rfl, hB2, g1, q1, g2, q2, y2, yo1, yo2⟩
      have y0 := (x0.alloc (.cells #[.int .i64 ((nth xs k).day - (nth xs 0).day), .int .i64 (nth xs k).base, .int .i64 1] 3)).drew.below hB2 (by omega)
      have y1 := (x1.alloc (.cells #[.int .i64 ((nth xs k).day - (nth xs 0).day), .int .i64 (nth xs k).base, .int .i64 1] 3)).drew.below hB2 (by omega)
      have yB := (hB0.alloc hB0.size (.cells #[.int .i64 ((nth xs k).day - (nth xs 0).day), .int .i64 (nth xs k).base, .int .i64 1] 3)).drew.trans (hB2.mono (by omega))
      clear hadd hgb
      go_wp2
      go_roundw
      case rel => exact ⟨k + 1, _, _, by omega, by go_num, yB, y0, y1, y2, yo1, yo2⟩
      case measure => simp [intOf]; omega
    · have hk2 : n = k := by omega
      have HK := Lib.hid hk2
      clear hk2
      obtain ⟨A1, q1, e1⟩ := slice_form o1
      obtain ⟨A2, q2, e2⟩ := slice_form o2
      subst e1 e2
      have r0 : wr.cell? ⟨w.heap.size + 1 + 1, 0, none⟩ = some (.slice A1 k q1) := b2.cell 0
      have r1 : wr.cell? ⟨w.heap.size + 1 + 1, 1, none⟩ = some (.slice A2 k q2) := b2.cell 1
      have t0 : wr.cell? ⟨w.heap.size + 1, 0, none⟩ = some (.slice none 0 0) := b1.cell 0
      have t1 : wr.cell? ⟨w.heap.size + 1, 1, none⟩ = some (.slice none 0 0) := b1.cell 1
      have tf := b1.frozen
      go_wp2
      refine bodyPost_ret (v := .agg #[.slice A1 k q1, .slice A2 k q2]) (by simp [results, Try.results45, go_sem, t0, t1]) rfl ?_
      have n1 := own_blk_ne o1 b1 (by decide)
      have n2 := own_blk_ne o2 b1 (by decide)
      refine ⟨A1, q1, A2, q2, by rw [HK.out], ?_, ?_, (hB.setCell (p := ⟨w.heap.size + 1, 0, none⟩) (by simp) _).setCell (p := ⟨w.heap.size + 1, 1, none⟩) (by simp) _⟩
      · refine sliceAt_of_own (n := k) (c := q1) (base := w.heap.size + 1 + 1 + 1) (e := 63) (fun _ => rfl) (by simp [rowsL, HN.out, HK.out]) ?_
        have := ownsRow_setCell_other (a := ⟨w.heap.size + 1, 1, none⟩) (ownsRow_setCell_other (a := ⟨w.heap.size + 1, 0, none⟩) o1 n1 (.slice A1 k q1)) n1 (.slice A2 k q2)
        rwa [flatN_congr (g := fun j => Row3.enc (nth (rowsL xs) j)) (fun j hj => by rw [rowsL, nth_range _ (by rw [HN.out, HK.out]; exact hj)]; rfl)] at this
      · refine sliceAt_of_own (n := k) (c := q2) (base := w.heap.size + 1 + 1 + 1) (e := 3) (fun _ => rfl) (by simp [phasesL, HN.out, HK.out]) ?_
        have := ownsRow_setCell_other (a := ⟨w.heap.size + 1, 1, none⟩) (ownsRow_setCell_other (a := ⟨w.heap.size + 1, 0, none⟩) o2 n2 (.slice A1 k q1)) n2 (.slice A2 k q2)
        rwa [flatN_congr (g := fun j => encI (nth (phasesL xs) j)) (fun j hj => by rw [phasesL, nth_range _ (by rw [HN.out, HK.out]; exact hj)]; rfl)] at this
end Go.Proofs.Ytncmdjhdfhhkjaa
