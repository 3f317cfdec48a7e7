/- 'sums': the sums of the lightest forest. -/
import Derived.Test.YtncmdjhdfhhkjaaSpread
import Derived.Test.YtncmdjhdfhhkjaaSumsLaw
import Derived.Test.YtncmdjhdfhhkjaaLight
import Derived.BigRegion
import Derived.Laws.EntriesVeiled
namespace Go.Proofs.Ytncmdjhdfhhkjaa
open Go.RowKit Go.Sort

theorem info_bool : (Try.prog.info? 4).map (fun i => (i.zero, i.size, i.bytes)) = some (some (.bool false), 1, 1) := by kernel_rfl
def zeros (z : Value) (n : Nat) : Array Value := madeCells z.cells (n * 1)
theorem make_ints (n : Nat) (hn : n ≤ 1000) (W : World) : (Instr.makeSlice 43 (.int .i64 (n : Int)) (.int .i64 (n : Int))).run Try.prog W = .ok (.slice (some ⟨W.heap.size, 0, none⟩) n n) (W.alloc (.cells (zeros (.int .i64 0) n) 3)) := by
  obtain ⟨i, hi, hz, hs, hb⟩ := info_parts info_int
  have := run_makeSlice (P := Try.prog) W 43 3 i _ Try.underlying43 hi hz .i64 .i64 n n (by omega) (by omega) (by rw [hs]; simp; omega) (by rw [hb]; omega) (by omega)
  rw [hs] at this
  simpa [zeros] using this
theorem make_bools (n : Nat) (hn : n ≤ 1000) (W : World) : (Instr.makeSlice 95 (.int .i64 (n : Int)) (.int .i64 (n : Int))).run Try.prog W = .ok (.slice (some ⟨W.heap.size, 0, none⟩) n n) (W.alloc (.cells (zeros (.bool false) n) 4)) := by
  obtain ⟨i, hi, hz, hs, hb⟩ := info_parts info_bool
  have := run_makeSlice (P := Try.prog) W 95 4 i _ Try.underlying95 hi hz .i64 .i64 n n (by omega) (by omega) (by rw [hs]; simp; omega) (by rw [hb]; omega) (by omega)
  rw [hs] at this
  simpa [zeros] using this

/-- Four new blocks: two rows of n, and their boxes. -/
structure MadeFour (W V : World) (b5 b6 gA gB n : Nat) : Prop where
  box5 : Blk V b5 43 #[.slice (some ⟨gA, 0, none⟩) n n]
  box6 : Blk V b6 95 #[.slice (some ⟨gB, 0, none⟩) n n]
  rowA : Blk V gA 3 (zeros (.int .i64 0) n)
  rowB : Blk V gB 4 (zeros (.bool false) n)
  new : W.heap.size ≤ b5 ∧ W.heap.size ≤ b6 ∧ W.heap.size ≤ gA ∧ W.heap.size ≤ gB
  ne : b5 ≠ b6 ∧ b5 ≠ gA ∧ b5 ≠ gB ∧ b6 ≠ gA ∧ b6 ≠ gB ∧ gA ≠ gB
  below : Below W.heap.size W V
  size : V.heap.size = W.heap.size + 4

theorem own_slice {w : World} {base : Nat} {e : TypeId} {s n : Nat} {v : Value} {xs : List Value} (h : w.ownsRow base e s v n xs) : ∃ A g c, v = .slice A n c ∧ (0 < n → A = some ⟨g, 0, none⟩ ∧ base ≤ g ∧ g < w.heap.size) := by
  rcases h.2 with ⟨rfl, rfl⟩ | ⟨g, cap, cur, rfl, h2, h3, _⟩
  · exact ⟨none, 0, 0, rfl, fun h => by omega⟩
  · exact ⟨_, g, cap, rfl, fun _ => ⟨rfl, h2, (Array.getElem?_eq_some_iff.1 h3).1⟩⟩
theorem made_mk {W : World} {z n b5 b6 gA gB : Nat} {c0 c1 c2 c3 : Array Value} {t0 t1 t2 t3 : TypeId} (hz : W.heap.size = z)
    (h : ∀ V, Blk V z t0 c0 → Blk V (z + 1) t1 c1 → Blk V (z + 1 + 1) t2 c2 → Blk V (z + 1 + 1 + 1) t3 c3 → Blk V b5 43 #[.slice (some ⟨gA, 0, none⟩) n n] ∧ Blk V b6 95 #[.slice (some ⟨gB, 0, none⟩) n n] ∧ Blk V gA 3 (zeros (.int .i64 0) n) ∧ Blk V gB 4 (zeros (.bool false) n))
    (hnew : z ≤ b5 ∧ z ≤ b6 ∧ z ≤ gA ∧ z ≤ gB) (hne : b5 ≠ b6 ∧ b5 ≠ gA ∧ b5 ≠ gB ∧ b6 ≠ gA ∧ b6 ≠ gB ∧ gA ≠ gB) :
    MadeFour W ((((W.alloc (.cells c0 t0)).alloc (.cells c1 t1)).alloc (.cells c2 t2)).alloc (.cells c3 t3)).drew b5 b6 gA gB n := by
  subst hz
  have q := blocks3 W c0 c1 c2 t0 t1 t2
  obtain ⟨q0, q1, q2, hb, hs⟩ := q
  have q3 := Blk.new (((W.alloc (.cells c0 t0)).alloc (.cells c1 t1)).alloc (.cells c2 t2)) t3 c3
  rw [hs] at q3
  obtain ⟨r1, r2, r3, r4⟩ := h _ (q0.alloc _).drew (q1.alloc _).drew (q2.alloc _).drew q3.drew
  exact ⟨r1, r2, r3, r4, hnew, hne, (hb.alloc hb.size _).drew, by rw [World.size_drew, World.size_alloc, hs]⟩
theorem Keeps2.to_below {B B' g1 g2 : Nat} {w w' : World} (h : Keeps2 B g1 g2 w w') (hB : B' ≤ B) (h1 : B' ≤ g1) (h2 : B' ≤ g2) : Below B' w w' := ⟨h.os, h.tape, h.output, h.size, fun k hk => h.block k (by omega) (by omega) (by omega)⟩
theorem own_raise {w : World} {base base' : Nat} {e : TypeId} {s n g c : Nat} {xs : List Value} (h : w.ownsRow base e s (.slice (some ⟨g, 0, none⟩) n c) n xs) (hb : base' ≤ g) : w.ownsRow base' e s (.slice (some ⟨g, 0, none⟩) n c) n xs := by
  refine ⟨h.1, ?_⟩
  rcases h.2 with ⟨h2, _⟩ | ⟨g', cap, cur, h1, h2, h3⟩
  · cases h2
  · refine .inr ⟨g', cap, cur, h1, ?_, h3⟩
    injection h1 with h1 _ _
    injection h1 with h1
    injection h1 with h1 _ _
    omega
theorem madeCells_one (z : Value) (n : Nat) : (madeCells #[z] (n * 1)).toList = List.replicate n z := by rw [Nat.mul_one]; exact toList_madeCells_one z n
theorem flatN_const {f : Nat → List Value} {z : Value} (h : ∀ i, f i = [z]) (n : Nat) : flatN f n = List.replicate n z := by
  rw [flatN_one (u := fun _ => z) h]
  exact List.ext_getElem (by simp) (fun i _ _ => by simp)
theorem own_zeros {w : World} {g n : Nat} {t : TypeId} {z : Value} {f : Nat → List Value} (h : Blk w g t (madeCells #[z] (n * 1))) (hf : ∀ i, f i = [z]) (hn : n ≤ maxLen) : w.ownsRow 0 t 1 (.slice (some ⟨g, 0, none⟩) n n) n (flatN f n) :=
  ⟨by rw [flatN_const hf]; simp, .inr ⟨g, n, _, rfl, Nat.zero_le _, h, Nat.le_refl _, hn, by rw [size_madeCells], by rw [madeCells_one, flatN_const hf, Nat.mul_one]; simp⟩⟩
/-- What 'sums' leaves. -/
def SumsPost (ps : List SPair) (n m : Nat) (P : Nat → Int) (w : World) (e : Ending) (w' : World) : Prop :=
  ∃ g out, e = .returned (.slice (some ⟨g, 0, none⟩) n n) ∧ w'.ownsRow w.heap.size 3 1 (.slice (some ⟨g, 0, none⟩) n n) n (flatN (intCell out) n) ∧ (∀ k, k < m → out (pb ps k) - out (pa ps k) = P (pb ps k) - P (pa ps k)) ∧
    (∀ i, i < n → -200000 ≤ out i ∧ out i ≤ 200000) ∧ Below w.heap.size w w'
theorem lightest_any (A1 A2 : Option Addr) (n m c1 c2 : Nat) (sc : List Scene) (ps : List SPair) (w : World) (hn : sc.length = n) (hm : ps.length = m) (h12 : m ≤ 12) (hok : NetOk sc ps) (hN : NetAt w A1 A2 sc ps) :
    Calls Try.prog 39 #[.agg #[.slice A1 n c1, .slice A2 m c2]] w (LightPost ps n m w) := by
  rcases Nat.eq_zero_or_pos m with h0 | h0
  · subst h0
    obtain rfl := List.eq_nil_of_length_eq_zero hm
    exact lightest_none A1 A2 n c1 c2 w (by have := hok.few; omega)
  · exact lightest_some A1 A2 n m c1 c2 sc ps w hn hm h0 h12 hok hN

set_option maxRecDepth 100000 in
set_option maxHeartbeats 4000000 in
theorem sums_any (A1 A2 Ah : Option Addr) (n m c1 c2 ch gh oh : Nat) (sc : List Scene) (ps : List SPair) (P : Nat → Int) (w : World) (hn : sc.length = n) (hm : ps.length = m) (h12 : m ≤ 12) (hok : NetOk sc ps) (hN : NetAt w A1 A2 sc ps)
    (hAh : 0 < m → Ah = some ⟨gh, oh, none⟩ ∧ gh < w.heap.size) (hph : ∀ k, k < m → w.cell? ⟨gh, oh + k, none⟩ = some (.int .i64 (P (pb ps k) - P (pa ps k)))) (hpot : ∀ i, i < n → -100000 ≤ P i ∧ P i ≤ 100000) :
    Calls Try.prog 31 #[.agg #[.slice A1 n c1, .slice A2 m c2], .slice Ah m ch] w (SumsPost ps n m P w) := by
  have HN := Lib.hid hN
  have HOK := Lib.hid hok
  have HPH := Lib.hid hph
  have HAH := Lib.hid hAh
  have HPOT := Lib.hid hpot
  have hn60 : n ≤ 60 := by have := hok.few; omega
  have Hn := Lib.hid hn
  have Hm := Lib.hid hm
  clear hn hm hok hN hAh hph hpot
  go_enter Try.func31, Try.ntmps31
  go_wp2
  obtain ⟨k0, k1, hB0, hz⟩ := blocks2 w #[.slice A1 n c1, .slice A2 m c2] #[.slice Ah m ch] 84 43
  generalize ((w.alloc (.cells #[.slice A1 n c1, .slice A2 m c2] 84)).alloc (.cells #[.slice Ah m ch] 43)) = W at *
  have e0 : W.cell? ⟨w.heap.size, 0, none⟩ = some (.slice A1 n c1) := k0.cell 0
  have hw0 : w.heap.size < W.heap.size := by omega
  have hm1 := make_ints n (by omega)
  have hm2 := make_bools n (by omega)
  have K0 := Lib.hid k0
  have K1 := Lib.hid k1
  clear k0 k1
  refine wp_mono (Q := fun e a V => e = .normal ∧ ∃ b5 b6 gA gB : Nat, MadeFour W V b5 b6 gA gB n ∧ a = { tmps := #[.agg #[.slice A1 n c1, .slice A2 m c2], .slice Ah m ch, .pointer (some ⟨w.heap.size, 0, none⟩), .pointer (some ⟨w.heap.size + 1, 0, none⟩), .slice none 0 0, .pointer (some ⟨b5, 0, none⟩), .pointer (some ⟨b6, 0, none⟩), undef, undef, undef, .pointer (some ⟨w.heap.size, 0, none⟩), .pointer (some ⟨w.heap.size, 0, none⟩), .slice A1 n c1, .int .i64 (n : Int), .slice (some ⟨gA, 0, none⟩) n n, .pointer (some ⟨w.heap.size, 0, none⟩), .pointer (some ⟨w.heap.size, 0, none⟩), .slice A1 n c1, .int .i64 (n : Int), .slice (some ⟨gB, 0, none⟩) n n, undef, undef, undef, undef, undef, undef, undef, undef, undef, undef, undef, undef, undef, undef, undef, undef, undef, undef], defers := [] }) ?_ ?_
  case refine_1 =>
    
    go_region
    all_goals exact ⟨rfl, _, _, _, _, made_mk hz (fun V q0 q1 q2 q3 => ⟨by first | exact q0 | exact q1 | exact q2 | exact q3, by first | exact q0 | exact q1 | exact q2 | exact q3, by first | exact q0 | exact q1 | exact q2 | exact q3, by first | exact q0 | exact q1 | exact q2 | exact q3⟩) (by omega) (by omega), rfl⟩
  clear hm1 hm2 e0
  rintro _ _ V ⟨rfl, b5, b6, gA, gB, h, rfl⟩
  have B0 : Below w.heap.size w V := hB0.trans (h.below.mono (by omega))
  have a1 : Blk V w.heap.size 84 #[.slice A1 n c1, .slice A2 m c2] := K0.out.below h.below (by omega)
  have a2 : Blk V (w.heap.size + 1) 43 #[.slice Ah m ch] := K1.out.below h.below (by omega)
  have e1 : V.cell? ⟨w.heap.size, 0, none⟩ = some (.slice A1 n c1) := a1.cell 0
  have e2 : V.cell? ⟨w.heap.size, 1, none⟩ = some (.slice A2 m c2) := a1.cell 1
  have hs := h.size
  have H := Lib.hid h
  have Hz := Lib.hid hz
  clear h hz
  go_wp2_with fail
  refine (lightest_any A1 A2 n m c1 c2 sc ps V Hn.out Hm.out h12 HOK.out (HN.out.below B0)).mono ?_
  rintro e w1 ⟨v, f, fo, rfl, hv, hsp, hfm, hB1⟩
  obtain ⟨Af, gf, cf, rfl, hAf⟩ := own_slice hv
  have c5 : Blk w1 b5 43 #[.slice (some ⟨gA, 0, none⟩) n n] := H.out.box5.below hB1 H.out.box5.lt
  have f5 : w1.cell? ⟨b5, 0, none⟩ = some (.slice (some ⟨gA, 0, none⟩) n n) := c5.cell 0
  have z5 : b5 < w1.heap.size := c5.lt
  obtain ⟨gp, op, hA2⟩ : ∃ gp op, 0 < m → A2 = some ⟨gp, op, none⟩ ∧ gp < w.heap.size ∧ (∀ k, k < m → w.cell? ⟨gp, op + k * 2, none⟩ = some (.int .i64 (pa ps k : Int)) ∧ w.cell? ⟨gp, op + k * 2 + 1, none⟩ = some (.int .i64 (pb ps k : Int))) := by
    rcases Nat.eq_zero_or_pos m with hm0 | hm0
    · exact ⟨0, 0, fun h => by omega⟩
    · obtain ⟨b, off, h1, h2, h3⟩ := HN.out.pairs (by rw [Hm.out]; exact hm0)
      refine ⟨b, off, fun _ => ⟨h1, h2, fun k hk => ?_⟩⟩
      obtain ⟨_, _, q3, q4⟩ := HOK.out.ends (k := k) (by rw [Hm.out]; exact hk)
      exact ⟨by rw [← q3]; exact h3 k (by rw [Hm.out]; exact hk) 0 _ rfl, by rw [← q4]; exact h3 k (by rw [Hm.out]; exact hk) 1 _ rfl⟩
  obtain ⟨S, hS⟩ : ∃ S : SpS, S = { B := w1.heap.size + 1 + 1, bk := b6, bg := w.heap.size, bf := w1.heap.size, bo := b5, bh := w.heap.size + 1, bs := w1.heap.size + 1, gk := gB, go := gA, gp := gp, op := op, gf := gf, gh := gh, oh := oh, n := n, m := m, f := f, c1 := c1, c2 := c2, cf := cf, ck := n, co := n, ch := ch, A1 := A1, A2 := A2, Af := Af, Ah := Ah, ps := ps, fo := fo, P := P } := ⟨_, rfl⟩
  have hw1 := hB1.size
  have hz := Hz.out
  have hnew := H.out.new
  have hne := H.out.ne
  have cA : Blk w1 gA 3 (zeros (.int .i64 0) n) := H.out.rowA.below hB1 H.out.rowA.lt
  have cB : Blk w1 gB 4 (zeros (.bool false) n) := H.out.rowB.below hB1 H.out.rowB.lt
  have c6 : Blk w1 b6 95 #[.slice (some ⟨gB, 0, none⟩) n n] := H.out.box6.below hB1 H.out.box6.lt
  have l5 := H.out.box5.lt
  have l6 := H.out.box6.lt
  have lA := H.out.rowA.lt
  have lB := H.out.rowB.lt
  have hnL : n ≤ maxLen := by unfold maxLen; omega
  have hOK : SpOk S := by
    subst hS
    refine ⟨hn60, by dsimp only; omega, hfm, hsp.small, fun k hk => ?_, fun h => (hAf h).1, fun h => (hA2 h).1, fun h => (HAH.out h).1, ?_, ?_, ?_, ?_, ?_, ?_, fun h => ?_, fun h => ?_, fun h => ?_, ?_, ?_, ?_, HPOT.out⟩
    · have := HOK.out.ends (k := k) (by rw [Hm.out]; exact hk); rw [← Hn.out]; exact ⟨this.1, this.2.1⟩
    all_goals first | (have h2 := hAf h; dsimp only; omega) | (have h2 := hA2 h; dsimp only; omega) | (have h2 := HAH.out h; dsimp only; omega) | (dsimp only; omega)
  have hN0 : SpreadAt S ((w1.alloc (.cells #[.slice Af f cf] 43)).alloc (.cells #[.func (.func 40) #[] #[.pointer (some ⟨b6, 0, none⟩), .pointer (some ⟨w.heap.size, 0, none⟩), .pointer (some ⟨w1.heap.size, 0, none⟩), .pointer (some ⟨b5, 0, none⟩), .pointer (some ⟨w.heap.size + 1, 0, none⟩), .pointer (some ⟨w1.heap.size + 1, 0, none⟩)]] 97)) (fun _ => false) (fun _ => 0) := by
    have q := blocks2 w1 #[.slice Af f cf] #[.func (.func 40) #[] #[.pointer (some ⟨b6, 0, none⟩), .pointer (some ⟨w.heap.size, 0, none⟩), .pointer (some ⟨w1.heap.size, 0, none⟩), .pointer (some ⟨b5, 0, none⟩), .pointer (some ⟨w.heap.size + 1, 0, none⟩), .pointer (some ⟨w1.heap.size + 1, 0, none⟩)]] 43 97
    obtain ⟨q0, q1, qb, qs⟩ := q
    subst hS
    have bB : Below w.heap.size w w1 := B0.trans (hB1.mono (by omega))
    have bb : Below w.heap.size w _ := bB.trans (qb.mono (by omega))
    exact ⟨c6.below qb c6.lt, (a1.below hB1 a1.lt).below qb (by omega), q0, c5.below qb c5.lt, (a2.below hB1 a2.lt).below qb (by omega), q1,
      own_zeros (cB.below qb cB.lt) (fun _ => rfl) hnL, own_zeros (cA.below qb cA.lt) (fun _ => rfl) hnL,
      fun i hi => by
        obtain ⟨e1, e2, e3⟩ := hAf (by show 0 < f; exact Nat.lt_of_le_of_lt (Nat.zero_le _) hi)
        subst e1
        exact (qb.cell (p := ⟨gf, i, none⟩) e3).trans ((hv.cellAt i (by have : i < f := hi; omega)).trans (labs_get hi)),
      fun k hk => (bb.cell (p := ⟨gp, _, none⟩) (hA2 (Nat.lt_of_le_of_lt (Nat.zero_le _) hk)).2.1).trans ((hA2 (Nat.lt_of_le_of_lt (Nat.zero_le _) hk)).2.2 k hk).1,
      fun k hk => (bb.cell (p := ⟨gp, _, none⟩) (hA2 (Nat.lt_of_le_of_lt (Nat.zero_le _) hk)).2.1).trans ((hA2 (Nat.lt_of_le_of_lt (Nat.zero_le _) hk)).2.2 k hk).2,
      fun k hk => (bb.cell (p := ⟨gh, _, none⟩) (HAH.out (Nat.lt_of_le_of_lt (Nat.zero_le _) hk)).2).trans (HPH.out k hk), Nat.le_of_eq qs.symm⟩
  have HSP : Hid (∀ kn out (s : Nat) V, SpreadAt S V kn out → s < n → kn s = false → out s = 0 → Calls Try.prog 40 #[.int .i64 (s : Int), .pointer (some ⟨b6, 0, none⟩), .pointer (some ⟨w.heap.size, 0, none⟩), .pointer (some ⟨w1.heap.size, 0, none⟩), .pointer (some ⟨b5, 0, none⟩), .pointer (some ⟨w.heap.size + 1, 0, none⟩), .pointer (some ⟨w1.heap.size + 1, 0, none⟩)] V (SpreadPost S (-P s) kn out s V)) := by
    subst hS
    exact Lib.hid fun kn out s V hA hs hk ho => spread_any _ hOK _ kn out s (-P s) V (Nat.le_refl _) hA hs hk (by rw [ho]; show (0 : Int) = P s + -P s; omega) (by have := HPOT.out s hs; omega) (by have := HPOT.out s hs; omega)
  have HT : Hid (∀ V kn out, SpreadAt S V kn out → V.cell? ⟨b6, 0, none⟩ = some (.slice (some ⟨gB, 0, none⟩) n n) ∧ (∀ i, i < n → V.cell? ⟨gB, i, none⟩ = some (.bool (kn i))) ∧ V.cell? ⟨w1.heap.size + 1, 0, none⟩ = some (.func (.func 40) #[] #[.pointer (some ⟨b6, 0, none⟩), .pointer (some ⟨w.heap.size, 0, none⟩), .pointer (some ⟨w1.heap.size, 0, none⟩), .pointer (some ⟨b5, 0, none⟩), .pointer (some ⟨w.heap.size + 1, 0, none⟩), .pointer (some ⟨w1.heap.size + 1, 0, none⟩)]) ∧
      V.cell? ⟨b5, 0, none⟩ = some (.slice (some ⟨gA, 0, none⟩) n n) ∧ V.ownsRow 0 3 1 (.slice (some ⟨gA, 0, none⟩) n n) n (flatN (intCell out) n) ∧ w1.heap.size + 1 + 1 ≤ V.heap.size) := by
    subst hS
    exact Lib.hid fun V kn out h => ⟨h.ck.cell 0, fun i hi => h.knownAt hi, h.cs.cell 0, h.co.cell 0, h.ro, h.size⟩
  have HP : Hid (S.n = n ∧ S.m = m ∧ S.ps = ps ∧ S.P = P ∧ S.gk = gB ∧ S.go = gA ∧ S.fo = fo ∧ S.f = f) := by subst hS; exact Lib.hid ⟨rfl, rfl, rfl, rfl, rfl, rfl, rfl, rfl⟩
  have HOKS := Lib.hid hOK
  have HSPN := Lib.hid hsp
  have hbb : Below w.heap.size w ((w1.alloc (.cells #[.slice Af f cf] 43)).alloc (.cells #[.func (.func 40) #[] #[.pointer (some ⟨b6, 0, none⟩), .pointer (some ⟨w.heap.size, 0, none⟩), .pointer (some ⟨w1.heap.size, 0, none⟩), .pointer (some ⟨b5, 0, none⟩), .pointer (some ⟨w.heap.size + 1, 0, none⟩), .pointer (some ⟨w1.heap.size + 1, 0, none⟩)]] 97)) :=
    ((B0.trans (hB1.mono (by omega))).alloc (by omega) _).alloc (by simp; omega) _
  have hgA : w.heap.size ≤ gA := by omega
  have hgB : w.heap.size ≤ gB := by omega
  clear hS hOK hsp hA2 hv hAf cA cB c6 a1 a2 e1 e2 hnew hne hs hz hB1 B0 hfm
  go_wp2
  go_loopw [25] (fun i wr => ∃ (k : Nat) (kn : Nat → Bool) (out : Nat → Int), k ≤ n ∧ i = .int .i64 k ∧ SpreadAt S wr kn out ∧ Hid (SumsInv S k kn out) ∧ Below w.heap.size w wr) (fun i _ => n - (intOf i).toNat)
  case atStart => exact ⟨0, _, _, by omega, rfl, hN0, Lib.hid (SumsInv.start S), hbb⟩
  case round =>
    obtain ⟨k, kn, out, hk, rfl, hA, hI, hB⟩ := hrel
    obtain ⟨t1, t2, t3, t4, t5, t6⟩ := HT.out wr kn out hA
    have hsz := hB.size
    by_cases hlt : k < n
    · have q := t2 k hlt
      have hki : (k : Int) < (n : Int) := by omega
      clear t2
      cases hkn : kn k with
      | true =>
        rw [hkn] at q
        go_wp2
        go_roundw
        case rel => exact ⟨k + 1, kn, out, by omega, by go_num, hA, Lib.hid (hI.out.skip hkn), hB⟩
        case measure => simp [intOf]; omega
      | false =>
        rw [hkn] at q
        go_wp2_with fail
        refine (HSP.out kn out k wr hA hlt hkn (hI.out.none k hkn)).mono ?_
        rintro e w2 ⟨rfl, kn', out', r1, r2, r3, r4⟩
        obtain ⟨p1, p2, p3, p4, p5, p6, p7, p8⟩ := HP.out
        have hB2 : Below w.heap.size w w2 := hB.trans (r4.to_below hsz (by omega) (by omega))
        have hI2 : Hid (SumsInv S (k + 1) kn' out') := Lib.hid (hI.out.grow HOKS.out (by omega) (by rw [p4]; exact r2) r3)
        clear p1 p2 p3 p4 p5 p6 p7 p8 r2 r3 r4 t1 t3 t4 t5 q hkn
        go_wp2
        go_roundw
        case rel => exact ⟨k + 1, kn', out', by omega, by go_num, r1, hI2, hB2⟩
        case measure => simp [intOf]; omega
    · obtain rfl : n = k := by omega
      clear t1 t2 t3
      go_wp2
      go_ret
      obtain ⟨p1, p2, p3, p4, p5, p6, p7, p8⟩ := HP.out
      have hd := (p1 ▸ hI.out : SumsInv S S.n kn out).done HOKS.out (by rw [p1, p2, p3, p7, p8]; exact HSPN.out)
      refine ⟨gA, out, rfl, ?_, ?_, fun i hi => ?_, hB⟩
      · exact own_raise t5 hgA
      · intro k hk
        have := hd k (by rw [p2]; exact hk)
        rw [p3, p4] at this
        exact this
      · have h1 := hI.out.near i (by rw [p1]; exact hi) (hI.out.all i hi)
        have h2 := HPOT.out i hi
        rw [p4] at h1
        omega
end Go.Proofs.Ytncmdjhdfhhkjaa
