/- The normal equations of observations. -/
import Derived.Test.YtncmdjhdfhhkjaaSeriesLaw
import Derived.StillTailTactics
import Derived.Deep.Light
namespace Go.Proofs.Ytncmdjhdfhhkjaa
open Go.RowKit

structure Row3 where
  a : Int
  b : Int
  c : Int
instance : Inhabited Row3 := ⟨⟨0, 0, 0⟩⟩
def Row3.enc (x : Row3) : List Value := [.int .i64 x.a, .int .i64 x.b, .int .i64 x.c]
def encI (x : Int) : List Value := [.int .i64 x]

def Blk (w : World) (g : Nat) (t : TypeId) (cs : Array Value) : Prop := w.heap[g]? = some (.cells cs t (0, 0))
section
variable {w w' : World} {g : Nat} {t : TypeId} {cs : Array Value}
theorem Blk.lt (h : Blk w g t cs) : g < w.heap.size := by
  rcases Nat.lt_or_ge g w.heap.size with hlt | hge
  · exact hlt
  · unfold Blk at h; rw [Array.getElem?_eq_none hge] at h; cases h
theorem Blk.cell (h : Blk w g t cs) (i : Nat) : w.cell? ⟨g, i, none⟩ = cs[i]? := cell_of_row w g i cs t (0, 0) h
theorem Blk.frozen (h : Blk w g t cs) (i : Nat) : w.frozen? ⟨g, i, none⟩ = false := by
  unfold Blk at h
  simp [World.frozen?, h]
theorem Blk.new (w : World) (t : TypeId) (cs : Array Value) : Blk (w.alloc (.cells cs t)) w.heap.size t cs := heap_alloc_new w _
theorem Blk.drewN (h : Blk w g t cs) (n : Nat) : Blk (w.drewN n) g t cs := h
theorem Blk.drew (h : Blk w g t cs) : Blk w.drew g t cs := h
theorem Blk.alloc (h : Blk w g t cs) (o : Obj) : Blk (w.alloc o) g t cs := (Below.heap_alloc w o g h.lt).trans h
theorem Blk.set_ (h : Blk w g t cs) (i : Nat) (u : Value) : Blk (w.setCell ⟨g, i, none⟩ u) g t (cs.setIfInBounds i u) := by
  unfold Blk at h ⊢
  simp [World.setCell, Array.getElem?_modify, h]
theorem Blk.far (h : Blk w g t cs) {p : Addr} (hp : g ≠ p.block) (u : Value) : Blk (w.setCell p u) g t cs := (Below.heap_setCell w p u g hp).trans h
theorem Blk.below {B : Nat} (h : Blk w g t cs) (hb : Below B w w') (hg : g < B) : Blk w' g t cs := (hb.block g hg).trans h
theorem Blk.grown {row : Option Nat} (h : Blk w g t cs) (hb : w.grownBy w' row) (hg : some g ≠ row) : Blk w' g t cs := (hb.block g h.lt hg).trans h
end

/-- A region that draws its order: the operations ahead of the tail leave the world alone, the tail's order is forced. -/
theorem wp_region_tail {P : Program} {id : Nat} {Q : Exit → Act → World → Prop} {a : Act} {w : World} {l : List Oper} (n : Nat) (hm : P.follows .mixedOrders = true) (hB : Region.lexTailB .any l.toArray n = true)
    (h : wpStill P l.toArray w.drew (fun a' => wpList P l.toArray Q (l.drop n) a' w.drew) (l.take n) a) : (Code.region id l.toArray true).wp P Q a w :=
  wp_region_still_tail n hm hB h
def ints12 (f : Nat → Int) : Array Value := #[.int .i64 (f 0), .int .i64 (f 1), .int .i64 (f 2), .int .i64 (f 3), .int .i64 (f 4), .int .i64 (f 5), .int .i64 (f 6), .int .i64 (f 7), .int .i64 (f 8), .int .i64 (f 9), .int .i64 (f 10), .int .i64 (f 11)]
/-- What observation i adds to number j of the normal equations: the matrix's nine, then the three of the right side. -/
def termN (f : Row3) (v : Int) : Nat → Int
  | 0 => f.a * f.a | 1 => f.a * f.b | 2 => f.a * f.c
  | 3 => f.b * f.a | 4 => f.b * f.b | 5 => f.b * f.c
  | 6 => f.c * f.a | 7 => f.c * f.b | 8 => f.c * f.c
  | 9 => f.a * v | 10 => f.b * v | 11 => f.c * v
  | _ => 0
/-- Number j of the normal equations of the first k observations. -/
def stN (fs : List Row3) (vs : List Int) : Nat → Nat → Int
  | 0, _ => 0
  | k + 1, j => stN fs vs k j + termN (nth fs k) (nth vs k) j
/-- .. where the rows below a have observation k too. -/
def mixN (fs : List Row3) (vs : List Int) (k a j : Nat) : Int := if (if j < 9 then j / 3 else j - 9) < a then stN fs vs (k + 1) j else stN fs vs k j
/-- The numbers of an observation are small. -/
def SmallRow (f : Row3) (v : Int) : Prop := (-400 ≤ f.a ∧ f.a ≤ 400) ∧ (-400 ≤ f.b ∧ f.b ≤ 400) ∧ (-400 ≤ f.c ∧ f.c ≤ 400) ∧ -16000 ≤ v ∧ v ≤ 16000
theorem mul_small {x y X Y : Int} (hX : 0 ≤ X) (h1 : -X ≤ x ∧ x ≤ X) (h2 : -Y ≤ y ∧ y ≤ Y) : -(X * Y) ≤ x * y ∧ x * y ≤ X * Y := by
  have e := Int.natAbs_mul x y
  have a1 : (x.natAbs : Int) ≤ X := by omega
  have a2 : (y.natAbs : Int) ≤ Y := by omega
  have := Int.mul_le_mul a1 a2 (by omega) hX
  have e' : ((x * y).natAbs : Int) = (x.natAbs : Int) * (y.natAbs : Int) := by rw [e]; simp
  omega
theorem termN_small {f : Row3} {v : Int} (h : SmallRow f v) (j : Nat) : -6400000 ≤ termN f v j ∧ termN f v j ≤ 6400000 := by
  obtain ⟨ha, hb, hc, hv⟩ := h
  have hv' : -(16000 : Int) ≤ v ∧ v ≤ 16000 := hv
  have maa := mul_small (by omega) ha ha
  have mab := mul_small (by omega) ha hb
  have mac := mul_small (by omega) ha hc
  have mba := mul_small (by omega) hb ha
  have mbb := mul_small (by omega) hb hb
  have mbc := mul_small (by omega) hb hc
  have mca := mul_small (by omega) hc ha
  have mcb := mul_small (by omega) hc hb
  have mcc := mul_small (by omega) hc hc
  have mav := mul_small (by omega) ha hv'
  have mbv := mul_small (by omega) hb hv'
  have mcv := mul_small (by omega) hc hv'
  unfold termN
  split <;> omega
theorem stN_small {fs : List Row3} {vs : List Int} : ∀ {k : Nat}, (∀ i, i < k → SmallRow (nth fs i) (nth vs i)) → ∀ j, -(6400000 * k) ≤ stN fs vs k j ∧ stN fs vs k j ≤ 6400000 * k
  | 0, _, j => by simp [stN]
  | k + 1, h, j => by
    have h1 := stN_small (k := k) (fun i hi => h i (by omega)) j
    have h2 := termN_small (h k (by omega)) j
    simp only [stN]
    omega
theorem wrap64_in (n : Int) (h : -9223372036854775808 ≤ n ∧ n ≤ 9223372036854775807) : wrap64 n = n := by
  have := IntWalk.i64_in n h
  first | exact this | (unfold wrap64; omega)
theorem wrap_term {f : Row3} {v : Int} (h : SmallRow f v) (j : Nat) : wrap64 (termN f v j) = termN f v j := wrap64_in _ (by have := termN_small h j; omega)
/-- What is stored is the next number. -/
theorem stepN {fs : List Row3} {vs : List Int} {k : Nat} (hk : k < 20) (h : ∀ i, i < k + 1 → SmallRow (nth fs i) (nth vs i)) (j : Nat) :
    wrap64 (stN fs vs k j + wrap64 (termN (nth fs k) (nth vs k) j)) = stN fs vs (k + 1) j := by
  rw [wrap_term (h k (by omega))]
  have h1 := stN_small h j
  exact wrap64_in _ (by show -9223372036854775808 ≤ stN fs vs (k + 1) j ∧ stN fs vs (k + 1) j ≤ 9223372036854775807; omega)
section
variable {fs : List Row3} {vs : List Int} {k : Nat}
theorem mix_row0 (hk : k < 20) (h : ∀ i, i < k + 1 → SmallRow (nth fs i) (nth vs i)) :
    ((((ints12 (mixN fs vs k 0)).setIfInBounds 0 (.int .i64 (wrap64 (mixN fs vs k 0 0 + wrap64 ((nth fs k).a * (nth fs k).a))))).setIfInBounds 1 (.int .i64 (wrap64 (mixN fs vs k 0 1 + wrap64 ((nth fs k).a * (nth fs k).b))))).setIfInBounds 2
      (.int .i64 (wrap64 (mixN fs vs k 0 2 + wrap64 ((nth fs k).a * (nth fs k).c))))).setIfInBounds 9 (.int .i64 (wrap64 (mixN fs vs k 0 9 + wrap64 ((nth fs k).a * nth vs k)))) = ints12 (mixN fs vs k 1) := by
  have s0 := stepN hk h 0
  have s1 := stepN hk h 1
  have s2 := stepN hk h 2
  have s9 := stepN hk h 9
  simp only [termN] at s0 s1 s2 s9
  simp [ints12, mixN, s0, s1, s2, s9]
theorem mix_row1 (hk : k < 20) (h : ∀ i, i < k + 1 → SmallRow (nth fs i) (nth vs i)) :
    ((((ints12 (mixN fs vs k 1)).setIfInBounds 3 (.int .i64 (wrap64 (mixN fs vs k 1 3 + wrap64 ((nth fs k).b * (nth fs k).a))))).setIfInBounds 4 (.int .i64 (wrap64 (mixN fs vs k 1 4 + wrap64 ((nth fs k).b * (nth fs k).b))))).setIfInBounds 5
      (.int .i64 (wrap64 (mixN fs vs k 1 5 + wrap64 ((nth fs k).b * (nth fs k).c))))).setIfInBounds 10 (.int .i64 (wrap64 (mixN fs vs k 1 10 + wrap64 ((nth fs k).b * nth vs k)))) = ints12 (mixN fs vs k 2) := by
  have s0 := stepN hk h 3
  have s1 := stepN hk h 4
  have s2 := stepN hk h 5
  have s9 := stepN hk h 10
  simp only [termN] at s0 s1 s2 s9
  simp [ints12, mixN, s0, s1, s2, s9]
theorem mix_row2 (hk : k < 20) (h : ∀ i, i < k + 1 → SmallRow (nth fs i) (nth vs i)) :
    ((((ints12 (mixN fs vs k 2)).setIfInBounds 6 (.int .i64 (wrap64 (mixN fs vs k 2 6 + wrap64 ((nth fs k).c * (nth fs k).a))))).setIfInBounds 7 (.int .i64 (wrap64 (mixN fs vs k 2 7 + wrap64 ((nth fs k).c * (nth fs k).b))))).setIfInBounds 8
      (.int .i64 (wrap64 (mixN fs vs k 2 8 + wrap64 ((nth fs k).c * (nth fs k).c))))).setIfInBounds 11 (.int .i64 (wrap64 (mixN fs vs k 2 11 + wrap64 ((nth fs k).c * nth vs k)))) = ints12 (mixN fs vs k 3) := by
  have s0 := stepN hk h 6
  have s1 := stepN hk h 7
  have s2 := stepN hk h 8
  have s9 := stepN hk h 11
  simp only [termN] at s0 s1 s2 s9
  simp [ints12, mixN, s0, s1, s2, s9]
theorem mix_all : ints12 (mixN fs vs k 3) = ints12 (stN fs vs (k + 1)) := by simp [ints12, mixN]
theorem mix_none : ints12 (stN fs vs k) = ints12 (mixN fs vs k 0) := by simp [ints12, mixN]
end

theorem row_end {w wr : World} {B G g0 g1 g3 : Nat} {t t0 t1 t3 : TypeId} {c0 c1 c3 : Array Value} {f f' : Nat → Int} {j0 j1 j2 j3 : Nat} {u0 u1 u2 u3 : Value}
    (iB : Below B w wr) (hG : B ≤ G) (i0 : Blk wr g0 t0 c0) (h0 : g0 ≠ G) (i1 : Blk wr g1 t1 c1) (h1 : g1 ≠ G) (i2 : Blk wr G t (ints12 f)) (i3 : Blk wr g3 t3 c3) (h3 : g3 ≠ G)
    (he : ((((ints12 f).setIfInBounds j0 u0).setIfInBounds j1 u1).setIfInBounds j2 u2).setIfInBounds j3 u3 = ints12 f') :
    Below B w ((((wr.setCell ⟨G, j0, none⟩ u0).setCell ⟨G, j1, none⟩ u1).setCell ⟨G, j2, none⟩ u2).setCell ⟨G, j3, none⟩ u3).drew.drew.drew.drew ∧
    Blk ((((wr.setCell ⟨G, j0, none⟩ u0).setCell ⟨G, j1, none⟩ u1).setCell ⟨G, j2, none⟩ u2).setCell ⟨G, j3, none⟩ u3).drew.drew.drew.drew g0 t0 c0 ∧
    Blk ((((wr.setCell ⟨G, j0, none⟩ u0).setCell ⟨G, j1, none⟩ u1).setCell ⟨G, j2, none⟩ u2).setCell ⟨G, j3, none⟩ u3).drew.drew.drew.drew g1 t1 c1 ∧
    Blk ((((wr.setCell ⟨G, j0, none⟩ u0).setCell ⟨G, j1, none⟩ u1).setCell ⟨G, j2, none⟩ u2).setCell ⟨G, j3, none⟩ u3).drew.drew.drew.drew G t (ints12 f') ∧
    Blk ((((wr.setCell ⟨G, j0, none⟩ u0).setCell ⟨G, j1, none⟩ u1).setCell ⟨G, j2, none⟩ u2).setCell ⟨G, j3, none⟩ u3).drew.drew.drew.drew g3 t3 c3 := by
  have far : ∀ {g : Nat} {t : TypeId} {c : Array Value}, Blk wr g t c → g ≠ G → Blk ((((wr.setCell ⟨G, j0, none⟩ u0).setCell ⟨G, j1, none⟩ u1).setCell ⟨G, j2, none⟩ u2).setCell ⟨G, j3, none⟩ u3).drew.drew.drew.drew g t c :=
    fun h hg => (((((h.far (p := ⟨G, j0, none⟩) hg u0).far (p := ⟨G, j1, none⟩) hg u1).far (p := ⟨G, j2, none⟩) hg u2).far (p := ⟨G, j3, none⟩) hg u3).drew.drew.drew.drew)
  refine ⟨(((((iB.setCell (p := ⟨G, j0, none⟩) hG u0).setCell (p := ⟨G, j1, none⟩) hG u1).setCell (p := ⟨G, j2, none⟩) hG u2).setCell (p := ⟨G, j3, none⟩) hG u3).drew.drew.drew.drew), far i0 h0, far i1 h1, ?_, far i3 h3⟩
  rw [← he]
  exact ((((i2.set_ j0 u0).set_ j1 u1).set_ j2 u2).set_ j3 u3).drew.drew.drew.drew

set_option maxRecDepth 100000 in
set_option maxHeartbeats 10000000 in
theorem series_normal (A1 A2 : Option Addr) (n c1 c2 : Nat) (fs : List Row3) (vs : List Int) (w : World) (hf : fs.length = n) (hv : vs.length = n) (hm : n ≤ 20) (hsm : ∀ i, i < n → SmallRow (nth fs i) (nth vs i)) (h1 : SliceAt w A1 3 Row3.enc fs) (h2 : SliceAt w A2 1 encI vs) :
    Calls Try.prog 46 #[.agg #[.slice A1 n c1, .slice A2 n c2]] w fun e w' => e = .returned (.agg (ints12 (stN fs vs n))) ∧ Below w.heap.size w w' := by
  have HF := Lib.hid hf
  have HV := Lib.hid hv
  clear hf hv
  go_enter Try.func46, Try.ntmps46
  go_wp2
  go_loopw [11] (fun i wr => ∃ k : Nat, k ≤ n ∧ i = .int .i64 k ∧ Below w.heap.size w wr ∧ Blk wr w.heap.size 62 #[.slice A1 n c1, .slice A2 n c2] ∧ Blk wr (w.heap.size + 1) 66 (ints12 fun _ => 0) ∧ Blk wr (w.heap.size + 1 + 1) 66 (ints12 (stN fs vs k))) (fun i _ => n - (intOf i).toNat)
  case atStart =>
    refine ⟨0, by omega, rfl, ((((Below.refl _ _).alloc (by simp) _).alloc (by simp) _).alloc (by simp; omega) _), ?_, ?_, ?_⟩
    · exact ((Blk.new _ _ _).alloc _).alloc _
    · have := (Blk.new (w.alloc (Obj.cells #[Value.slice A1 n c1, Value.slice A2 n c2] 62)) 66 (ints12 fun _ => 0)).alloc (.cells (ints12 fun _ => 0) 66)
      rw [World.size_alloc] at this; exact this
    · have := Blk.new ((w.alloc (Obj.cells #[Value.slice A1 n c1, Value.slice A2 n c2] 62)).alloc (.cells (ints12 fun _ => 0) 66)) 66 (ints12 (stN fs vs 0))
      rw [World.size_alloc, World.size_alloc] at this; exact this
  case round =>
    obtain ⟨k, hk, rfl, hB, b0, b1, b2⟩ := hrel
    have hs2 := b2.lt
    by_cases hlt : k < n
    · obtain ⟨g1, o1, rfl, hg1, hc1⟩ := h1 (by rw [HF.out]; omega)
      obtain ⟨g2, o2, rfl, hg2, hc2⟩ := h2 (by rw [HV.out]; omega)
      have hc1k := hc1 k (by rw [HF.out]; exact hlt)
      have d0 : wr.cell? ⟨g1, o1 + k * 3, none⟩ = some (.int .i64 (nth fs k).a) := (hB.cell (p := ⟨g1, _, none⟩) hg1).trans (hc1k 0 _ rfl)
      have d1 : wr.cell? ⟨g1, o1 + k * 3 + 1, none⟩ = some (.int .i64 (nth fs k).b) := (hB.cell (p := ⟨g1, _, none⟩) hg1).trans (hc1k 1 _ rfl)
      have d2 : wr.cell? ⟨g1, o1 + k * 3 + 2, none⟩ = some (.int .i64 (nth fs k).c) := (hB.cell (p := ⟨g1, _, none⟩) hg1).trans (hc1k 2 _ rfl)
      have d3 : wr.cell? ⟨g2, o2 + k, none⟩ = some (.int .i64 (nth vs k)) := (hB.cell (p := ⟨g2, _, none⟩) hg2).trans (by have := hc2 k (by rw [HV.out]; exact hlt) 0 _ rfl; simpa using this)
      have d3w : w.cell? ⟨g2, o2 + k, none⟩ = some (.int .i64 (nth vs k)) := by have := hc2 k (by rw [HV.out]; exact hlt) 0 _ rfl; simpa using this
      have e0 : wr.cell? ⟨w.heap.size, 0, none⟩ = some (.slice (some ⟨g1, o1, none⟩) n c1) := b0.cell 0
      have e1 : wr.cell? ⟨w.heap.size, 1, none⟩ = some (.slice (some ⟨g2, o2, none⟩) n c2) := b0.cell 1
      clear hc1k hc1 hc2
      have hg1s : g1 < wr.heap.size := by omega
      have hg2s : g2 < wr.heap.size := by omega
      have hw0s : w.heap.size < wr.heap.size := by omega
      have HSM := Lib.hid (fun i (hi : i < k + 1) => hsm i (by omega))
      go_wp2
      obtain ⟨W0, hW0⟩ : ∃ W0, wr.alloc (Obj.cells #[.int .i64 (nth fs k).a, .int .i64 (nth fs k).b, .int .i64 (nth fs k).c] 63) = W0 := ⟨_, rfl⟩
      have hB0 : Below w.heap.size w W0 := by rw [← hW0]; exact hB.alloc hB.size _
      have x0 : Blk W0 w.heap.size 62 #[.slice (some ⟨g1, o1, none⟩) n c1, .slice (some ⟨g2, o2, none⟩) n c2] := by rw [← hW0]; exact b0.alloc _
      have x1 : Blk W0 (w.heap.size + 1) 66 (ints12 fun _ => 0) := by rw [← hW0]; exact b1.alloc _
      have x2 : Blk W0 (w.heap.size + 1 + 1) 66 (ints12 (stN fs vs k)) := by rw [← hW0]; exact b2.alloc _
      have x3 : Blk W0 wr.heap.size 63 #[.int .i64 (nth fs k).a, .int .i64 (nth fs k).b, .int .i64 (nth fs k).c] := by rw [← hW0]; exact Blk.new _ _ _
      rw [hW0]
      have HW0 := Lib.hid hW0
      clear hW0
      have hz0 : w.heap.size + 1 + 1 < wr.heap.size := hs2
      generalize wr.heap.size = X at *
      go_loopw [16] (fun i wi => ∃ a : Nat, a ≤ 3 ∧ i = .int .i64 a ∧ Below w.heap.size w wi ∧ Blk wi w.heap.size 62 #[.slice (some ⟨g1, o1, none⟩) n c1, .slice (some ⟨g2, o2, none⟩) n c2] ∧ Blk wi (w.heap.size + 1) 66 (ints12 fun _ => 0) ∧
          Blk wi (w.heap.size + 1 + 1) 66 (ints12 (mixN fs vs k a)) ∧ Blk wi X 63 #[.int .i64 (nth fs k).a, .int .i64 (nth fs k).b, .int .i64 (nth fs k).c]) (fun i _ => 3 - (intOf i).toNat)
      case atStart => exact ⟨0, by omega, rfl, hB0, x0, x1, mix_none ▸ x2, x3⟩
      case round =>
        obtain ⟨a, ha, rfl, iB, i0, i1, i2, i3⟩ := hrel
        have hs3 := i3.lt
        have hs4 := i2.lt
        have d3' : wr.cell? ⟨g2, o2 + k, none⟩ = some (.int .i64 (nth vs k)) := (iB.cell (p := ⟨g2, _, none⟩) hg2).trans d3w
        have e1' : wr.cell? ⟨w.heap.size, 1, none⟩ = some (.slice (some ⟨g2, o2, none⟩) n c2) := i0.cell 1
        have y0 : wr.cell? ⟨X, 0, none⟩ = some (.int .i64 (nth fs k).a) := i3.cell 0
        have y1 : wr.cell? ⟨X, 1, none⟩ = some (.int .i64 (nth fs k).b) := i3.cell 1
        have y2 : wr.cell? ⟨X, 2, none⟩ = some (.int .i64 (nth fs k).c) := i3.cell 2
        have nf : ∀ o, wr.frozen? ⟨w.heap.size + 1 + 1, o, none⟩ = false := i2.frozen
        rcases (by omega : a = 0 ∨ a = 1 ∨ a = 2 ∨ a = 3) with rfl | rfl | rfl | rfl
        · 
          have n0 : wr.cell? ⟨w.heap.size + 1 + 1, 0, none⟩ = some (.int .i64 (mixN fs vs k 0 0)) := i2.cell 0
          have n1 : wr.cell? ⟨w.heap.size + 1 + 1, 1, none⟩ = some (.int .i64 (mixN fs vs k 0 1)) := i2.cell 1
          have n2 : wr.cell? ⟨w.heap.size + 1 + 1, 2, none⟩ = some (.int .i64 (mixN fs vs k 0 2)) := i2.cell 2
          have n3 : wr.cell? ⟨w.heap.size + 1 + 1, 3, none⟩ = some (.int .i64 (mixN fs vs k 0 3)) := i2.cell 3
          have n4 : wr.cell? ⟨w.heap.size + 1 + 1, 4, none⟩ = some (.int .i64 (mixN fs vs k 0 4)) := i2.cell 4
          have n5 : wr.cell? ⟨w.heap.size + 1 + 1, 5, none⟩ = some (.int .i64 (mixN fs vs k 0 5)) := i2.cell 5
          have n6 : wr.cell? ⟨w.heap.size + 1 + 1, 6, none⟩ = some (.int .i64 (mixN fs vs k 0 6)) := i2.cell 6
          have n7 : wr.cell? ⟨w.heap.size + 1 + 1, 7, none⟩ = some (.int .i64 (mixN fs vs k 0 7)) := i2.cell 7
          have n8 : wr.cell? ⟨w.heap.size + 1 + 1, 8, none⟩ = some (.int .i64 (mixN fs vs k 0 8)) := i2.cell 8
          have n9 : wr.cell? ⟨w.heap.size + 1 + 1, 9, none⟩ = some (.int .i64 (mixN fs vs k 0 9)) := i2.cell 9
          have n10 : wr.cell? ⟨w.heap.size + 1 + 1, 10, none⟩ = some (.int .i64 (mixN fs vs k 0 10)) := i2.cell 10
          have n11 : wr.cell? ⟨w.heap.size + 1 + 1, 11, none⟩ = some (.int .i64 (mixN fs vs k 0 11)) := i2.cell 11
          go_wp2
          refine wp_loop_rounds 4 ?_
          rw [rounds_succ]
          go_wp2
          refine wp_region_tail 17 (by kernel_rfl) (by kernel_rfl) ?_
          simp only [List.take_succ_cons, List.take_zero, List.drop_succ_cons, List.drop_zero]
          repeat still_step
          refine wpStill_nil ?_
          go_wp2
          rw [rounds_succ]
          go_wp2
          refine wp_region_tail 17 (by kernel_rfl) (by kernel_rfl) ?_
          simp only [List.take_succ_cons, List.take_zero, List.drop_succ_cons, List.drop_zero]
          repeat still_step
          refine wpStill_nil ?_
          go_wp2
          rw [rounds_succ]
          go_wp2
          refine wp_region_tail 17 (by kernel_rfl) (by kernel_rfl) ?_
          simp only [List.take_succ_cons, List.take_zero, List.drop_succ_cons, List.drop_zero]
          repeat still_step
          refine wpStill_nil ?_
          go_wp2
          rw [rounds_succ]
          go_wp2
          refine wp_region_tail 16 (by kernel_rfl) (by kernel_rfl) ?_
          simp only [List.take_succ_cons, List.take_zero, List.drop_succ_cons, List.drop_zero]
          repeat still_step
          refine wpStill_nil ?_
          go_wp2
          exact ⟨⟨1, by omega, rfl, row_end iB (by omega) i0 (by omega) i1 (by omega) i2 i3 (by omega) (mix_row0 (by omega) HSM.out)⟩, by simp [intOf]⟩
        · 
          have n0 : wr.cell? ⟨w.heap.size + 1 + 1, 0, none⟩ = some (.int .i64 (mixN fs vs k 1 0)) := i2.cell 0
          have n1 : wr.cell? ⟨w.heap.size + 1 + 1, 1, none⟩ = some (.int .i64 (mixN fs vs k 1 1)) := i2.cell 1
          have n2 : wr.cell? ⟨w.heap.size + 1 + 1, 2, none⟩ = some (.int .i64 (mixN fs vs k 1 2)) := i2.cell 2
          have n3 : wr.cell? ⟨w.heap.size + 1 + 1, 3, none⟩ = some (.int .i64 (mixN fs vs k 1 3)) := i2.cell 3
          have n4 : wr.cell? ⟨w.heap.size + 1 + 1, 4, none⟩ = some (.int .i64 (mixN fs vs k 1 4)) := i2.cell 4
          have n5 : wr.cell? ⟨w.heap.size + 1 + 1, 5, none⟩ = some (.int .i64 (mixN fs vs k 1 5)) := i2.cell 5
          have n6 : wr.cell? ⟨w.heap.size + 1 + 1, 6, none⟩ = some (.int .i64 (mixN fs vs k 1 6)) := i2.cell 6
          have n7 : wr.cell? ⟨w.heap.size + 1 + 1, 7, none⟩ = some (.int .i64 (mixN fs vs k 1 7)) := i2.cell 7
          have n8 : wr.cell? ⟨w.heap.size + 1 + 1, 8, none⟩ = some (.int .i64 (mixN fs vs k 1 8)) := i2.cell 8
          have n9 : wr.cell? ⟨w.heap.size + 1 + 1, 9, none⟩ = some (.int .i64 (mixN fs vs k 1 9)) := i2.cell 9
          have n10 : wr.cell? ⟨w.heap.size + 1 + 1, 10, none⟩ = some (.int .i64 (mixN fs vs k 1 10)) := i2.cell 10
          have n11 : wr.cell? ⟨w.heap.size + 1 + 1, 11, none⟩ = some (.int .i64 (mixN fs vs k 1 11)) := i2.cell 11
          go_wp2
          refine wp_loop_rounds 4 ?_
          rw [rounds_succ]
          go_wp2
          refine wp_region_tail 17 (by kernel_rfl) (by kernel_rfl) ?_
          simp only [List.take_succ_cons, List.take_zero, List.drop_succ_cons, List.drop_zero]
          repeat still_step
          refine wpStill_nil ?_
          go_wp2
          rw [rounds_succ]
          go_wp2
          refine wp_region_tail 17 (by kernel_rfl) (by kernel_rfl) ?_
          simp only [List.take_succ_cons, List.take_zero, List.drop_succ_cons, List.drop_zero]
          repeat still_step
          refine wpStill_nil ?_
          go_wp2
          rw [rounds_succ]
          go_wp2
          refine wp_region_tail 17 (by kernel_rfl) (by kernel_rfl) ?_
          simp only [List.take_succ_cons, List.take_zero, List.drop_succ_cons, List.drop_zero]
          repeat still_step
          refine wpStill_nil ?_
          go_wp2
          rw [rounds_succ]
          go_wp2
          refine wp_region_tail 16 (by kernel_rfl) (by kernel_rfl) ?_
          simp only [List.take_succ_cons, List.take_zero, List.drop_succ_cons, List.drop_zero]
          repeat still_step
          refine wpStill_nil ?_
          go_wp2
          exact ⟨⟨2, by omega, rfl, row_end iB (by omega) i0 (by omega) i1 (by omega) i2 i3 (by omega) (mix_row1 (by omega) HSM.out)⟩, by simp [intOf]⟩
        · 
          have n0 : wr.cell? ⟨w.heap.size + 1 + 1, 0, none⟩ = some (.int .i64 (mixN fs vs k 2 0)) := i2.cell 0
          have n1 : wr.cell? ⟨w.heap.size + 1 + 1, 1, none⟩ = some (.int .i64 (mixN fs vs k 2 1)) := i2.cell 1
          have n2 : wr.cell? ⟨w.heap.size + 1 + 1, 2, none⟩ = some (.int .i64 (mixN fs vs k 2 2)) := i2.cell 2
          have n3 : wr.cell? ⟨w.heap.size + 1 + 1, 3, none⟩ = some (.int .i64 (mixN fs vs k 2 3)) := i2.cell 3
          have n4 : wr.cell? ⟨w.heap.size + 1 + 1, 4, none⟩ = some (.int .i64 (mixN fs vs k 2 4)) := i2.cell 4
          have n5 : wr.cell? ⟨w.heap.size + 1 + 1, 5, none⟩ = some (.int .i64 (mixN fs vs k 2 5)) := i2.cell 5
          have n6 : wr.cell? ⟨w.heap.size + 1 + 1, 6, none⟩ = some (.int .i64 (mixN fs vs k 2 6)) := i2.cell 6
          have n7 : wr.cell? ⟨w.heap.size + 1 + 1, 7, none⟩ = some (.int .i64 (mixN fs vs k 2 7)) := i2.cell 7
          have n8 : wr.cell? ⟨w.heap.size + 1 + 1, 8, none⟩ = some (.int .i64 (mixN fs vs k 2 8)) := i2.cell 8
          have n9 : wr.cell? ⟨w.heap.size + 1 + 1, 9, none⟩ = some (.int .i64 (mixN fs vs k 2 9)) := i2.cell 9
          have n10 : wr.cell? ⟨w.heap.size + 1 + 1, 10, none⟩ = some (.int .i64 (mixN fs vs k 2 10)) := i2.cell 10
          have n11 : wr.cell? ⟨w.heap.size + 1 + 1, 11, none⟩ = some (.int .i64 (mixN fs vs k 2 11)) := i2.cell 11
          go_wp2
          refine wp_loop_rounds 4 ?_
          rw [rounds_succ]
          go_wp2
          refine wp_region_tail 17 (by kernel_rfl) (by kernel_rfl) ?_
          simp only [List.take_succ_cons, List.take_zero, List.drop_succ_cons, List.drop_zero]
          repeat still_step
          refine wpStill_nil ?_
          go_wp2
          rw [rounds_succ]
          go_wp2
          refine wp_region_tail 17 (by kernel_rfl) (by kernel_rfl) ?_
          simp only [List.take_succ_cons, List.take_zero, List.drop_succ_cons, List.drop_zero]
          repeat still_step
          refine wpStill_nil ?_
          go_wp2
          rw [rounds_succ]
          go_wp2
          refine wp_region_tail 17 (by kernel_rfl) (by kernel_rfl) ?_
          simp only [List.take_succ_cons, List.take_zero, List.drop_succ_cons, List.drop_zero]
          repeat still_step
          refine wpStill_nil ?_
          go_wp2
          rw [rounds_succ]
          go_wp2
          refine wp_region_tail 16 (by kernel_rfl) (by kernel_rfl) ?_
          simp only [List.take_succ_cons, List.take_zero, List.drop_succ_cons, List.drop_zero]
          repeat still_step
          refine wpStill_nil ?_
          go_wp2
          exact ⟨⟨3, by omega, rfl, row_end iB (by omega) i0 (by omega) i1 (by omega) i2 i3 (by omega) (mix_row2 (by omega) HSM.out)⟩, by simp [intOf]⟩
        · have i2' := i2
          rw [mix_all] at i2'
          go_wp2
          go_roundw
          case rel => exact ⟨k + 1, by omega, by go_num, iB, i0, i1, i2'⟩
          case measure => simp [intOf]; omega
    · have hk2 : n = k := by omega
      have HK := Lib.hid hk2
      clear hk2
      have n0 : wr.cell? ⟨w.heap.size + 1 + 1, 0, none⟩ = some (.int .i64 (stN fs vs k 0)) := b2.cell 0
      have n1 : wr.cell? ⟨w.heap.size + 1 + 1, 1, none⟩ = some (.int .i64 (stN fs vs k 1)) := b2.cell 1
      have n2 : wr.cell? ⟨w.heap.size + 1 + 1, 2, none⟩ = some (.int .i64 (stN fs vs k 2)) := b2.cell 2
      have n3 : wr.cell? ⟨w.heap.size + 1 + 1, 3, none⟩ = some (.int .i64 (stN fs vs k 3)) := b2.cell 3
      have n4 : wr.cell? ⟨w.heap.size + 1 + 1, 4, none⟩ = some (.int .i64 (stN fs vs k 4)) := b2.cell 4
      have n5 : wr.cell? ⟨w.heap.size + 1 + 1, 5, none⟩ = some (.int .i64 (stN fs vs k 5)) := b2.cell 5
      have n6 : wr.cell? ⟨w.heap.size + 1 + 1, 6, none⟩ = some (.int .i64 (stN fs vs k 6)) := b2.cell 6
      have n7 : wr.cell? ⟨w.heap.size + 1 + 1, 7, none⟩ = some (.int .i64 (stN fs vs k 7)) := b2.cell 7
      have n8 : wr.cell? ⟨w.heap.size + 1 + 1, 8, none⟩ = some (.int .i64 (stN fs vs k 8)) := b2.cell 8
      have n9 : wr.cell? ⟨w.heap.size + 1 + 1, 9, none⟩ = some (.int .i64 (stN fs vs k 9)) := b2.cell 9
      have n10 : wr.cell? ⟨w.heap.size + 1 + 1, 10, none⟩ = some (.int .i64 (stN fs vs k 10)) := b2.cell 10
      have n11 : wr.cell? ⟨w.heap.size + 1 + 1, 11, none⟩ = some (.int .i64 (stN fs vs k 11)) := b2.cell 11
      have r0 : wr.cell? ⟨w.heap.size + 1, 0, none⟩ = some (.int .i64 0) := b1.cell 0
      have r1 : wr.cell? ⟨w.heap.size + 1, 1, none⟩ = some (.int .i64 0) := b1.cell 1
      have r2 : wr.cell? ⟨w.heap.size + 1, 2, none⟩ = some (.int .i64 0) := b1.cell 2
      have r3 : wr.cell? ⟨w.heap.size + 1, 3, none⟩ = some (.int .i64 0) := b1.cell 3
      have r4 : wr.cell? ⟨w.heap.size + 1, 4, none⟩ = some (.int .i64 0) := b1.cell 4
      have r5 : wr.cell? ⟨w.heap.size + 1, 5, none⟩ = some (.int .i64 0) := b1.cell 5
      have r6 : wr.cell? ⟨w.heap.size + 1, 6, none⟩ = some (.int .i64 0) := b1.cell 6
      have r7 : wr.cell? ⟨w.heap.size + 1, 7, none⟩ = some (.int .i64 0) := b1.cell 7
      have r8 : wr.cell? ⟨w.heap.size + 1, 8, none⟩ = some (.int .i64 0) := b1.cell 8
      have r9 : wr.cell? ⟨w.heap.size + 1, 9, none⟩ = some (.int .i64 0) := b1.cell 9
      have r10 : wr.cell? ⟨w.heap.size + 1, 10, none⟩ = some (.int .i64 0) := b1.cell 10
      have r11 : wr.cell? ⟨w.heap.size + 1, 11, none⟩ = some (.int .i64 0) := b1.cell 11
      have rf : ∀ o, wr.frozen? ⟨w.heap.size + 1, o, none⟩ = false := b1.frozen
      go_wp2
      refine bodyPost_ret (v := .agg (ints12 (stN fs vs k))) (by simp [results, Try.results46, go_sem, ints12, r0, r1, r2, r3, r4, r5, r6, r7, r8, r9, r10, r11]) rfl ⟨by rw [HK.out], ?_⟩
      iterate 12 refine Below.setCell ?_ (by simp) _
      exact hB
end Go.Proofs.Ytncmdjhdfhhkjaa
