/- 'lightest' returns pairs that join what all pairs join (at few pairs). -/
import Derived.Test.YtncmdjhdfhhkjaaForest
namespace Go.Proofs.Ytncmdjhdfhhkjaa
open Go.RowKit Go.Sort

theorem lenP_cap {sc : List Scene} {ps : List SPair} (hok : NetOk sc ps) {k : Nat} (hk : k < ps.length) : 0 ≤ lenP sc ps k ∧ lenP sc ps k ≤ 400000 := by
  obtain ⟨h1, h2, _, _⟩ := hok.ends hk
  have a := hok.days (pa ps k) (by omega)
  have b := hok.days (pb ps k) (by omega)
  have c := hok.bases (pa ps k) (by omega)
  have d := hok.bases (pb ps k) (by omega)
  unfold lenP
  omega

set_option maxRecDepth 100000 in
set_option maxHeartbeats 2000000 in
theorem lightest1_any (A1 A2 : Option Addr) (n m c1 c2 g x y : Nat) (sc : List Scene) (ps : List SPair) (w : World) (hn : sc.length = n) (hm : ps.length = m) (hok : NetOk sc ps) (hN : NetAt w A1 A2 sc ps) (hg : Blk w g 84 #[.slice A1 n c1, .slice A2 m c2]) (hx : x < m) (hy : y < m) :
    Calls Try.prog 51 #[.int .i64 (x : Int), .int .i64 (y : Int), .pointer (some ⟨g, 0, none⟩)] w fun e w' => e = .returned (.int .i64 (lenP sc ps x - lenP sc ps y)) ∧ Below w.heap.size w w' := by
  have bx := lenP_cap hok (k := x) (by omega)
  have by' := lenP_cap hok (k := y) (by omega)
  have hww : IntKind.i64.wrap (lenP sc ps x - lenP sc ps y) = lenP sc ps x - lenP sc ps y := IntWalk.i64_in _ (by omega)
  have z0 : ∀ d os, (grow (redrawn w d) os).cell? ⟨g, 0, none⟩ = some (.slice A1 n c1) := fun d os => cell_regrown (hg.cell 0) d os
  have z1 : ∀ d os, (grow (redrawn w d) os).cell? ⟨g, 1, none⟩ = some (.slice A2 m c2) := fun d os => cell_regrown (hg.cell 1) d os
  have HL : ∀ k, k < m → Hid (∀ d os, Calls Try.prog 52 #[.agg #[.slice A1 n c1, .slice A2 m c2], .int .i64 (k : Int)] (grow (redrawn w d) os) fun e w'' => e = .returned (.int .i64 (lenP sc ps k)) ∧ ∃ p : Regrown, w'' = grow (redrawn w p.d) p.os) :=
    fun k hk => Lib.hid fun d os => Calls.regrown_of (length_any A1 A2 n m c1 c2 k sc ps _ hn hm hok (hN.below (below_regrown w d os)) hk)
  have HLL := Lib.hid HL
  clear HL hn hm hok hN hg bx by'
  go_enter Try.func51, Try.ntmps51
  go_wp2
  refine wp_region_quiet_below (by kernel_rfl) (by kernel_rfl) ?_
  repeat (go_big_quiet_step (exact (HLL.out _ (by assumption)).out _ _))
  refine wpQuiet_nil ?_
  intro V hV
  obtain ⟨⟨d, os⟩, rfl⟩ := hV
  go_wp2
  go_ret
  exact ⟨rfl, below_regrown w d os⟩

/-- What 'lightest' leaves. -/
def LightPost (ps : List SPair) (n m : Nat) (w : World) (e : Ending) (w' : World) : Prop :=
  ∃ v f fo, e = .returned v ∧ w'.ownsRow w.heap.size 3 1 v f (flatN (labCell fo) f) ∧ Spans ps n m fo f ∧ f ≤ m ∧ Below w.heap.size w w'
theorem own_mono {w : World} {base base' : Nat} {e : TypeId} {s n : Nat} {v : Value} {xs : List Value} (h : w.ownsRow base e s v n xs) (hb : base' ≤ base) : w.ownsRow base' e s v n xs := by
  refine ⟨h.1, ?_⟩
  rcases h.2 with h2 | ⟨g, cap, cur, h1, h2, h3⟩
  · exact .inl h2
  · exact .inr ⟨g, cap, cur, h1, by omega, h3⟩
theorem insertionO_zero (A : Option Addr) (c : Nat) (w : World) : Calls Try.prog 69 #[.slice A 0 c, .int .i64 0, .int .i64 0] w fun e w' => e = .returned (.tuple #[]) ∧ w = w' := by
  go_enter Try.func69, Try.ntmps69
  go_wp2
  refine wp_loop_rounds 1 ?_
  rw [rounds_succ]
  go_wp2
  go_end0
  exact ⟨rfl, rfl⟩
theorem sort_zero (A : Option Addr) (c : Nat) (w : World) : Calls Try.prog 53 #[.slice A 0 c] w fun e w' => e = .returned (.tuple #[]) ∧ w = w' := by
  have HP : Hid (∀ (r : Int) (W : World), Calls Try.prog 64 #[.slice A 0 c, .int .i64 0, .int .i64 0, .int .i64 r] W fun e w' => e = .returned (.tuple #[]) ∧ W = w') := Lib.hid fun r W => by
    go_enter Try.func64, Try.ntmps64
    go_wp2
    refine wp_loop_rounds 1 ?_
    rw [rounds_succ]
    go_wp2_with fail
    refine (insertionO_zero A c _).mono ?_
    rintro e w' ⟨rfl, rfl⟩
    go_wp2
    refine bodyPost_ret (results_none rfl _ _ _) rfl ?_
    exact ⟨rfl, rfl⟩
  go_enter Try.func53, Try.ntmps53
  go_wp2_with fail
  refine (len_few 0 _ (by omega)).mono ?_
  rintro e w' ⟨r, rfl, rfl⟩
  go_wp2_with fail
  refine (HP.out _ _).mono ?_
  rintro e w' ⟨rfl, rfl⟩
  go_wp2
  go_end0
  exact ⟨rfl, rfl⟩
theorem sortStable_zero (A : Option Addr) (c : Nat) (F : Value) (w : World) : Calls Try.prog 50 #[.slice A 0 c, F] w fun e w' => e = .returned (.tuple #[]) ∧ w = w' := by
  have HI : Hid (∀ W : World, Calls Try.prog 67 #[.slice A 0 c, .int .i64 0, .int .i64 0, F] W fun e w' => e = .returned (.tuple #[]) ∧ W = w') := Lib.hid fun W => by
    go_enter Try.func67, Try.ntmps67
    go_wp2
    refine wp_loop_rounds 1 ?_
    rw [rounds_succ]
    go_wp2
    go_end0
    exact ⟨rfl, rfl⟩
  have HS : Hid (∀ W : World, Calls Try.prog 62 #[.slice A 0 c, .int .i64 0, F] W fun e w' => e = .returned (.tuple #[]) ∧ W = w') := Lib.hid fun W => by
    go_enter Try.func62, Try.ntmps62
    go_wp2
    refine wp_loop_rounds 1 ?_
    rw [rounds_succ]
    go_wp2_with fail
    refine (HI.out _).mono ?_
    rintro e w' ⟨rfl, rfl⟩
    go_wp2
    refine wp_loop_rounds 1 ?_
    rw [rounds_succ]
    go_wp2
    go_end0
    exact ⟨rfl, rfl⟩
  go_enter Try.func50, Try.ntmps50
  go_wp2_with fail
  refine (HS.out _).mono ?_
  rintro e w' ⟨rfl, rfl⟩
  go_wp2
  go_end0
  exact ⟨rfl, rfl⟩
theorem own_ne_of_base {w : World} {base : Nat} {e : TypeId} {s n : Nat} {v : Value} {xs : List Value} {g : Nat} (h : w.ownsRow base e s v n xs) (hg : g < base) : v.ownBlock = none ∨ v.ownBlock ≠ some g := by
  right
  intro e'
  have := (h.lt g e').1
  omega
theorem push_labs {fo : Nat → Nat} {f kk : Nat} : flatN (labCell fo) f ++ labCell (fun _ => kk) f = flatN (labCell (pushL fo f kk)) (f + 1) := by
  simp only [flatN]
  rw [flatN_congr (f := labCell (pushL fo f kk)) (g := labCell fo) (fun i hi => by unfold labCell pushL; rw [if_neg (by omega)])]
  congr 1
  unfold labCell pushL
  rw [if_pos rfl]
theorem push_small {fo : Nat → Nat} {f kk m : Nat} (h : ∀ i, i < f → fo i < m) (hk : kk < m) : ∀ i, i < f + 1 → pushL fo f kk i < m := fun i hi => by
  unfold pushL
  by_cases e : i = f
  · rw [if_pos e]; exact hk
  · rw [if_neg e]; exact h i (by omega)
theorem upto_done {ps : List SPair} {n f t kk : Nat} {lab fo ord : Nat → Nat} (h : UnionOk ps n lab fo f (fun j => (∃ s, s < t ∧ ord s = j) ∨ j = kk)) (hk : ord t = kk) : UnionOk ps n lab fo f (fun j => ∃ s, s < t + 1 ∧ ord s = j) :=
  ⟨h.conn, fun j ⟨s, hs, e⟩ => h.same j (by
    by_cases hst : s = t
    · subst hst; exact .inr (by rw [← e, hk])
    · exact .inl ⟨s, by omega, e⟩), h.low⟩
theorem id_all {m : Nat} {u : Nat → Nat} (h : SameSet m id u) {k : Nat} (hk : k < m) : ∃ i, i < m ∧ u i = k := (h k).2 ⟨k, hk, rfl⟩
theorem id_lt {m : Nat} {u : Nat → Nat} (h : SameSet m id u) {i : Nat} (hi : i < m) : u i < m := by
  obtain ⟨j, hj, e⟩ := (h (u i)).1 ⟨i, hi, rfl⟩
  rw [← e]; exact hj

set_option maxRecDepth 100000 in
set_option maxHeartbeats 4000000 in
theorem lightest_some (A1 A2 : Option Addr) (n m c1 c2 : Nat) (sc : List Scene) (ps : List SPair) (w : World) (hn : sc.length = n) (hm : ps.length = m) (h0 : 0 < m) (h12 : m ≤ 12) (hok : NetOk sc ps) (hN : NetAt w A1 A2 sc ps) :
    Calls Try.prog 39 #[.agg #[.slice A1 n c1, .slice A2 m c2]] w (LightPost ps n m w) := by
  obtain ⟨i1, hi1, hz1, hs1, hb1⟩ := info_parts info_int
  have hends : ∀ k, k < m → pa ps k < n ∧ pb ps k < n ∧ (nth ps k).first = (pa ps k : Int) ∧ (nth ps k).second = (pb ps k : Int) := fun k hk => by have := hok.ends (k := k) (by omega); omega
  have hnpos : 0 < n := by have := (hends 0 h0).1; omega
  have hn60 : n ≤ 60 := by have := hok.few; omega
  have HL1 := Lib.hid (fun W g x y (hW : Below w.heap.size w W) (hg : Blk W g 84 #[.slice A1 n c1, .slice A2 m c2]) (hx : x < m) (hy : y < m) => lightest1_any A1 A2 n m c1 c2 g x y sc ps W hn hm hok (hN.below hW) hg hx hy)
  have HEND := Lib.hid hends
  have HPS := Lib.hid hN.pairs
  have HN := Lib.hid hm
  clear hn hm hok hN hends
  go_enter Try.func39, Try.ntmps39
  go_wp2
  go_loopw [3, 13] (fun v i wr => ∃ k : Nat, k ≤ m ∧ i = .int .i64 k ∧ Below w.heap.size w wr ∧ Blk wr w.heap.size 84 #[.slice A1 n c1, .slice A2 m c2] ∧ wr.ownsRow (w.heap.size + 1) 3 1 v k (flatN (labCell id) k)) (fun _ i _ => m - (intOf i).toNat)
  case atStart => exact ⟨0, by omega, rfl, (Below.refl _ _).alloc (by simp) _, Blk.new _ _ _, World.ownsRow_nil _ _ _ _⟩
  case round =>
    obtain ⟨k, hk, rfl, hB, b0, hown⟩ := hrel
    have hz := b0.lt
    by_cases hlt : k < m
    · go_wp2_with (first | (at_builtin; refine wpList_append_lies _ rfl _ _ _ rfl (w.heap.size + 1) 3 i1 _ 1 8 Try.underlying43 hi1 hz1 hs1 hb1 rfl (by omega) _ k _ rfl (hown.alloc _) ⟨wr.heap.size, 0, none⟩ 1 1 (labCell id k) rfl rfl ?c1 ?c2 ?c3 ?c4 ?c5 ?c6 _ rfl ?_))
      case c1 => exact World.news_of_block (cs := #[.int .i64 (k : Int)]) (heap_alloc_new wr _)
      case c2 => simp [labCell, Value.oneCell']
      case c3 => omega
      case c4 => simp [maxLen]; omega
      case c5 => omega
      case c6 => simp; omega
      intro g1 cap1 w2 hown2 hgrow2 hat2 hlt2
      have hB3 := (hB.alloc hB.size (.cells #[.int .i64 (k : Int)] 3)).grown hgrow2 (by simp; omega) (fun j e => by have := (hown.lt j e).1; omega)
      have b3 := (b0.alloc (.cells #[.int .i64 (k : Int)] 3)).grown hgrow2 (fun e => by have := (hown.lt _ e.symm).1; omega)
      clear hown hB hgrow2 b0
      go_wp2
      go_roundw
      case rel => exact ⟨k + 1, by omega, by go_num, hB3, b3, hown2⟩
      case measure => simp [intOf]; omega
    · obtain rfl : m = k := by omega
      obtain ⟨g1, cap1, rfl, hg1, hg1lt⟩ := hown.form (by omega)
      go_wp2_with fail
      have hInv : Keeps (fun W => Below w.heap.size w W ∧ Blk W w.heap.size 84 #[.slice A1 n c1, .slice A2 m c2]) g1 :=
        ⟨fun W W' h hb => ⟨h.1.trans (hb.mono h.1.size), h.2.below hb h.2.lt⟩, fun W j u h => ⟨h.1.setCell (p := ⟨g1, j, none⟩) (by simp; omega) u, h.2.far (p := ⟨g1, j, none⟩) (by simp; omega) u⟩⟩
      have hsort := sortStable_any (fun W => Below w.heap.size w W ∧ Blk W w.heap.size 84 #[.slice A1 n c1, .slice A2 m c2]) ⟨w.heap.size, 0, none⟩ (fun x y => lenP sc ps x - lenP sc ps y) id (w.heap.size + 1) g1 m cap1 wr (by omega) ⟨hB, b0⟩ hInv hown
        (fun W x y hW hx hy => HL1.out W _ x y hW.1 hW.2 (by obtain ⟨i, hi, e⟩ := hx; rw [← e]; exact hi) (by obtain ⟨i, hi, e⟩ := hy; rw [← e]; exact hi))
      refine hsort.mono ?_
      rintro e w1 ⟨rfl, ord, hss, ⟨hB1, b1⟩, ho1, hgr1⟩
      clear hsort hInv hown hB b0 hgr1 hg1lt hz
      have r0 : w1.cell? ⟨w.heap.size, 0, none⟩ = some (.slice A1 n c1) := b1.cell 0
      have r1 : w1.cell? ⟨w.heap.size, 1, none⟩ = some (.slice A2 m c2) := b1.cell 1
      go_wp2_with fail
      refine (newUnion_any n _ (by omega)).mono ?_
      rintro e w2 ⟨vu, rfl, hou, hB2⟩
      obtain ⟨gu, capu, rfl, hgu, hgult⟩ := hou.form (by omega)
      have ho2 := own_below ho1 hB2
      have hg1lt := (ho1.lt g1 rfl).2
      have b2 := b1.below hB2 b1.lt
      have hB3 := hB1.trans (hB2.mono hB1.size)
      clear ho1 hB1 hB2 b1 r0 r1
      have HSS := Lib.hid hss
      clear hss
      go_wp2
      have hgB : gu < w2.heap.size := hgult
      obtain ⟨B3, hB3e⟩ : ∃ B3, w2.heap.size = B3 := ⟨_, rfl⟩
      go_loopw [4, 31] (fun v i wr => ∃ t f : Nat, ∃ lab fo : Nat → Nat, t ≤ m ∧ f ≤ t ∧ i = .int .i64 t ∧ Below w.heap.size w wr ∧ Blk wr w.heap.size 84 #[.slice A1 n c1, .slice A2 m c2] ∧ wr.ownsRow (w.heap.size + 1) 3 1 (.slice (some ⟨g1, 0, none⟩) m cap1) m (flatN (labCell ord) m) ∧
          wr.ownsRow w1.heap.size 3 1 (.slice (some ⟨gu, 0, none⟩) n capu) n (flatN (labCell lab) n) ∧ B3 ≤ wr.heap.size ∧ wr.ownsRow B3 3 1 v f (flatN (labCell fo) f) ∧ Hid (UnionOk ps n lab fo f (fun k => ∃ s, s < t ∧ ord s = k)) ∧ Hid (∀ i, i < f → fo i < m)) (fun _ i _ => m - (intOf i).toNat)
      case atStart => exact ⟨0, 0, id, id, by omega, by omega, rfl, hB3, b2, ho2, hou, by omega, World.ownsRow_nil _ _ _ _, Lib.hid ⟨(UnionOk.start (ps := ps) (n := n) (fo := id)).conn, fun k hk => by obtain ⟨s, hs, _⟩ := hk; omega, fun i _ => Nat.le_refl i⟩, Lib.hid fun i hi => by omega⟩
      case round =>
        obtain ⟨t, f, lab, fo, ht, hft, rfl, hB4, b4, ho4, hu4, hsz4, hf4, hU, hfm⟩ := hrel
        have hz4 := b4.lt
        have hg1w := (ho4.lt g1 rfl).2
        have hguw := (hu4.lt gu rfl).2
        by_cases hltt : t < m
        · have hk := id_lt HSS.out hltt
          obtain ⟨he1, he2, he3, he4⟩ := HEND.out _ hk
          obtain ⟨g2, o2, rfl, hg2, hc2⟩ := HPS.out (by rw [HN.out]; omega)
          have o0 : wr.cell? ⟨g1, t, none⟩ = some (.int .i64 (ord t : Int)) := (ho4.cellAt t (by omega)).trans (labs_get hltt)
          generalize hkk : ord t = kk at *
          have p0 : wr.cell? ⟨g2, o2 + kk * 2, none⟩ = some (.int .i64 (pa ps kk : Int)) := (hB4.cell (p := ⟨g2, _, none⟩) hg2).trans (by rw [← he3]; exact hc2 kk (by rw [HN.out]; exact hk) 0 _ rfl)
          have p1 : wr.cell? ⟨g2, o2 + kk * 2 + 1, none⟩ = some (.int .i64 (pb ps kk : Int)) := (hB4.cell (p := ⟨g2, _, none⟩) hg2).trans (by rw [← he4]; exact hc2 kk (by rw [HN.out]; exact hk) 1 _ rfl)
          have HK := Lib.hid hkk
          clear hkk he3 he4 hc2
          have r1 : wr.cell? ⟨w.heap.size, 1, none⟩ = some (.slice (some ⟨g2, o2, none⟩) m c2) := b4.cell 1
          have hkm : (kk : Int) < (m : Int) := by omega
          have hk0 : (0 : Int) ≤ (kk : Int) := by omega
          have hg2w : g2 < wr.heap.size := by omega
          go_wp2_with fail
          refine (join_any lab w1.heap.size gu n capu (pa ps kk) (pb ps kk) wr (by omega) he1 he2 (fun i hi => by have := hU.out.low i hi; omega) hu4).mono ?_
          rintro e w5 ⟨rfl, hu5, hgr5⟩
          have ho5 := ho4.kept hgr5 (.inr (by simp [Value.ownBlock]; omega))
          have hf5 := hf4.kept hgr5 (own_ne_of_base hf4 (by omega))
          have b5 := b4.grown hgr5 (by simp; omega)
          have hB5 := hB4.grown hgr5 hB4.size (fun j e => by injection e with e; omega)
          have hsz5 : B3 ≤ w5.heap.size := Nat.le_trans hsz4 hgr5.size
          clear hu4 ho4 hf4 b4 hB4 o0 p0 p1 r1 hgr5
          by_cases hj : lab (pa ps kk) = lab (pb ps kk)
          · have hd : decide (lab (pa ps kk) ≠ lab (pb ps kk)) = false := by simp [hj]
            have HJ := Lib.hid hj
            rw [hd]
            clear hd hj
            go_wp2
            go_roundw
            case rel => exact ⟨t + 1, f, joinU lab (pa ps kk) (pb ps kk), fo, by omega, by omega, by go_num, hB5, b5, ho5, hu5, hsz5, hf5, Lib.hid (upto_done (hU.out.skip he1 he2 HJ.out) HK.out), hfm⟩
            case measure => simp [intOf]; omega
          · have hd : decide (lab (pa ps kk) ≠ lab (pb ps kk)) = true := by simp [hj]
            rw [hd]
            clear hd hj
            go_wp2_with (first | (at_builtin; refine wpList_append_lies _ rfl _ _ _ rfl B3 3 i1 _ 1 8 Try.underlying43 hi1 hz1 hs1 hb1 rfl (by omega) _ f _ rfl (hf5.alloc _) ⟨w5.heap.size, 0, none⟩ 1 1 (labCell (fun _ => kk) f) rfl rfl ?d1 ?d2 ?d3 ?d4 ?d5 ?d6 _ rfl ?_))
            case d1 => exact World.news_of_block (cs := #[.int .i64 (kk : Int)]) (heap_alloc_new w5 _)
            case d2 => simp [labCell, Value.oneCell']
            case d3 => omega
            case d4 => simp [maxLen]; omega
            case d5 => omega
            case d6 => simp; omega
            intro g6 cap6 w6 hf6 hgr6 hat6 hlt6
            have hb6 : w5.grownBy w6 _ := (World.grownBy_alloc w5 _ _).trans hgr6
            have ho6 := ho5.kept hb6 (.inr (fun e => by have h := (hf5.lt g1 e.symm).1; omega))
            have hu6 := hu5.kept hb6 (.inr (fun e => by have h := (hf5.lt gu e.symm).1; omega))
            have b6 := b5.grown hb6 (fun e => by have h := (hf5.lt _ e.symm).1; omega)
            have hB6 := hB5.grown hb6 hB5.size (fun j e => by have h := (hf5.lt j e).1; omega)
            have hsz6 : B3 ≤ w6.heap.size := Nat.le_trans hsz5 hb6.size
            clear ho5 hu5 hf5 b5 hB5 hgr6 hb6
            rw [push_labs] at hf6
            go_wp2
            go_roundw
            case rel => exact ⟨t + 1, f + 1, joinU lab (pa ps kk) (pb ps kk), pushL fo f kk, by omega, by omega, by go_num, hB6, b6, ho6, hu6, hsz6, hf6, Lib.hid (upto_done (hU.out.push he1 he2) HK.out), Lib.hid (push_small hfm.out hk)⟩
            case measure => simp [intOf]; omega
        · obtain rfl : m = t := by omega
          have hsp := Lib.hid (Spans.of_union hU.out (fun k hk => id_all HSS.out hk) hfm.out (fun k hk => ⟨(HEND.out k hk).1, (HEND.out k hk).2.1⟩))
          by_cases hf0 : f = 0
          · subst hf0
            obtain ⟨A, c, rfl⟩ := slice_form hf4
            go_wp2_with fail
            refine (sort_zero A c _).mono ?_
            rintro e w9 ⟨rfl, rfl⟩
            go_wp2
            go_ret
            exact ⟨_, 0, fo, rfl, own_mono hf4 (by omega), hsp.out, by omega, hB4⟩
          · obtain ⟨g, cap, rfl, hgb, hglt⟩ := hf4.form (by omega)
            go_wp2_with fail
            refine (sort_few fo B3 g f cap wr (by omega) hf4).mono ?_
            rintro e w9 ⟨rfl, fo', hs9, ho9, hgr9⟩
            have hB9 := hB4.grown hgr9 hB4.size (fun j e => by injection e with e; omega)
            have HS9 := Lib.hid hs9
            clear hs9 hgr9 hf4 hB4
            go_wp2
            go_ret
            exact ⟨_, f, fo', rfl, own_mono ho9 (by omega), hsp.out.sameSet HS9.out, by omega, hB9⟩

/-- Without pairs. -/
theorem lightest_none (A1 A2 : Option Addr) (n c1 c2 : Nat) (w : World) (hn : n ≤ 60) :
    Calls Try.prog 39 #[.agg #[.slice A1 n c1, .slice A2 0 c2]] w (LightPost [] n 0 w) := by
  go_enter Try.func39, Try.ntmps39
  go_wp2
  refine wp_loop_rounds 1 ?_
  rw [rounds_succ]
  go_wp2_with fail
  refine (sortStable_zero none 0 _ _).mono ?_
  rintro e w1 ⟨rfl, rfl⟩
  go_wp2_with fail
  refine (newUnion_any n _ (by omega)).mono ?_
  rintro e w2 ⟨vu, rfl, hou, hB2⟩
  go_wp2
  refine wp_loop_rounds 1 ?_
  rw [rounds_succ]
  go_wp2_with fail
  refine (sort_zero none 0 _).mono ?_
  rintro e w9 ⟨rfl, rfl⟩
  go_wp2
  go_ret
  exact ⟨_, 0, id, rfl, World.ownsRow_nil _ _ _ _, ⟨fun i hi => by omega, fun k hk => by omega⟩, by omega, ((Below.refl _ _).alloc (Nat.le_refl _) _).trans (hB2.mono (by simp))⟩
end Go.Proofs.Ytncmdjhdfhhkjaa
