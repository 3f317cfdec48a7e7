/- The stack of the dates of a series with pairs: its scenes. -/
import Derived.Test.YtncmdjhdfhhkjaaTaskBox
namespace Go.Proofs.Ytncmdjhdfhhkjaa
open Go.RowKit Go.Sort

def sceneOf (xs : List Epoch) (nms : Nat → ByteArray) (k : Nat) : Scene := ⟨nms k, (nth xs k).day, (nth xs k).base⟩
def sceneCell (xs : List Epoch) (nms : Nat → ByteArray) (k : Nat) : List Value := (sceneOf xs nms k).enc
theorem info_scene : (Try.prog.info? 76).map (fun i => (i.zero, i.size, i.bytes)) = some (some (.agg #[.string ⟨#[]⟩, .int .i64 0, .int .i64 0]), 3, 32) := by kernel_rfl
theorem info_pair : (Try.prog.info? 79).map (fun i => (i.zero, i.size, i.bytes)) = some (some (.agg #[.int .i64 0, .int .i64 0]), 2, 16) := by kernel_rfl
theorem push_scene (xs : List Epoch) (nms : Nat → ByteArray) (k : Nat) (s : ByteArray) : flatN (sceneCell xs nms) k ++ [.string s, .int .i64 (nth xs k).day, .int .i64 (nth xs k).base] = flatN (sceneCell xs (setF nms k s)) (k + 1) := by
  show _ = flatN (sceneCell xs (setF nms k s)) k ++ sceneCell xs (setF nms k s) k
  rw [flatN_congr (f := sceneCell xs nms) (g := sceneCell xs (setF nms k s)) (fun i hi => by unfold sceneCell sceneOf; rw [setF_ne _ _ (by omega)])]
  unfold sceneCell sceneOf
  rw [setF_same]; rfl

theorem push_one (k : Nat) : intsV (List.replicate k 1) ++ [.int .i64 1] = intsV (List.replicate (k + 1) 1) := by unfold intsV; rw [List.replicate_succ', List.map_append]; rfl
def scenesL (xs : List Epoch) (nms : Nat → ByteArray) (n : Nat) : List Scene := (List.range n).map (sceneOf xs nms)
/-- A task whose rows are the call's own. -/
structure TaskOwn (w : World) (base : Nat) (A1 A2 Ah Aw : Option Addr) (n m c1 c2 p ch cw : Nat) (xs : List Epoch) (ps : List SPair) (nms : Nat → ByteArray) : Prop where
  o1 : w.ownsRow base 76 3 (.slice A1 n c1) n (flatN (sceneCell xs nms) n)
  o2 : w.ownsRow base 79 2 (.slice A2 m c2) m (flatN (pairCell ps) m)
  o3 : w.ownsRow base 3 1 (.slice Ah p ch) p (intsV (phUpto xs ps m))
  o4 : w.ownsRow base 3 1 (.slice Aw m cw) m (intsV (List.replicate m 1))
theorem TaskOwn.toAt {w : World} {base : Nat} {A1 A2 Ah Aw : Option Addr} {n m c1 c2 p ch cw : Nat} {xs : List Epoch} {ps : List SPair} {nms : Nat → ByteArray} (h : TaskOwn w base A1 A2 Ah Aw n m c1 c2 p ch cw xs ps nms) (hm : ps.length = m) (hp : (phUpto xs ps m).length = p) :
    TaskAt w A1 A2 Ah Aw (scenesL xs nms n) ps (phUpto xs ps m) (List.replicate m 1) := by
  obtain ⟨r1, r2, r3, r4⟩ := h
  refine ⟨⟨?_, ?_⟩, ?_, ?_⟩
  · refine sliceAt_of_own (base := base) (n := n) (c := c1) (e := 76) (fun _ => rfl) (by simp [scenesL]) ?_
    · rwa [flatN_congr (g := fun j => Scene.enc (nth (scenesL xs nms n) j)) (fun j hj => by rw [scenesL, nth_range _ hj]; rfl)] at r1
  · exact sliceAt_of_own (n := m) (c := c2) (e := 79) (fun _ => rfl) hm r2
  · rw [intsV_flat, hp] at r3
    exact sliceAt_of_own (c := ch) (e := 3) (fun _ => rfl) hp r3
  · rw [intsV_flat, List.length_replicate] at r4
    exact sliceAt_of_own (c := cw) (e := 3) (fun _ => rfl) (by simp) r4
theorem TaskOwn.below {w w' : World} {base : Nat} {A1 A2 Ah Aw : Option Addr} {n m c1 c2 p ch cw : Nat} {xs : List Epoch} {ps : List SPair} {nms : Nat → ByteArray} (h : TaskOwn w base A1 A2 Ah Aw n m c1 c2 p ch cw xs ps nms) (hb : Below w.heap.size w w') : TaskOwn w' base A1 A2 Ah Aw n m c1 c2 p ch cw xs ps nms :=
  ⟨own_below h.o1 hb, own_below h.o2 hb, own_below h.o3 hb, own_below h.o4 hb⟩
theorem own_ne_base {w : World} {base : Nat} {e : TypeId} {s n : Nat} {v : Value} {xs : List Value} {g : Nat} (h : w.ownsRow base e s v n xs) (hg : g < base) : v.ownBlock ≠ some g := fun e' => by
  have := (h.lt g e').1
  omega
theorem TaskOwn.set4 {w : World} {base g : Nat} {A1 A2 Ah Aw : Option Addr} {n m c1 c2 p ch cw : Nat} {xs : List Epoch} {ps : List SPair} {nms : Nat → ByteArray} (h : TaskOwn w base A1 A2 Ah Aw n m c1 c2 p ch cw xs ps nms) (hg : g < base) (u0 u1 u2 u3 : Value) :
    TaskOwn ((((w.setCell ⟨g, 0, none⟩ u0).setCell ⟨g, 1, none⟩ u1).setCell ⟨g, 2, none⟩ u2).setCell ⟨g, 3, none⟩ u3) base A1 A2 Ah Aw n m c1 c2 p ch cw xs ps nms :=
  ⟨ownsRow_set4 h.o1 (own_ne_base h.o1 hg) _ _ _ _, ownsRow_set4 h.o2 (own_ne_base h.o2 hg) _ _ _ _, ownsRow_set4 h.o3 (own_ne_base h.o3 hg) _ _ _ _, ownsRow_set4 h.o4 (own_ne_base h.o4 hg) _ _ _ _⟩
/-- What 'stackOf' leaves. -/
def StackPost (n m : Nat) (xs : List Epoch) (ps : List SPair) (w : World) (e : Ending) (w' : World) : Prop :=
  ∃ nms A1 A2 Ah Aw c1 c2 p ch cw, e = .returned (.agg #[.slice A1 n c1, .slice A2 m c2, .slice Ah p ch, .slice Aw m cw]) ∧ TaskOwn w' w.heap.size A1 A2 Ah Aw n m c1 c2 p ch cw xs ps nms ∧ (phUpto xs ps m).length = p ∧
    n ≤ c1 ∧ c1 ≤ maxLen ∧ (∀ i, i < n → (nms i).size ≤ 100) ∧ Below w.heap.size w w'

/-- What loop 1 has made: the box of the series, the result's cell, the box of the task. -/
structure ScenesAt (w wr : World) (nm : ByteArray) (A : Option Addr) (n c k : Nat) (xs : List Epoch) (nms : Nat → ByteArray) (v1 : Value) : Prop where
  below : Below w.heap.size w wr
  b2 : Blk wr w.heap.size 24 #[.string nm, .slice A n c]
  b4 : Blk wr (w.heap.size + 1) 45 #[.slice none 0 0, .slice none 0 0, .slice none 0 0, .slice none 0 0]
  b5 : Blk wr (w.heap.size + 1 + 1) 45 #[v1, .slice none 0 0, .slice none 0 0, .slice none 0 0]
  own : wr.ownsRow (w.heap.size + 1 + 1 + 1) 76 3 v1 k (flatN (sceneCell xs nms) k)
  fit : ∀ i, i < k → (nms i).size ≤ 100

theorem ScenesAt.later {w wr wr' : World} {nm : ByteArray} {A : Option Addr} {n c k : Nat} {xs : List Epoch} {nms : Nat → ByteArray} {v1 : Value} (h : ScenesAt w wr nm A n c k xs nms v1) (hb : Below wr.heap.size wr wr') : ScenesAt w wr' nm A n c k xs nms v1 :=
  ⟨h.below.trans (hb.mono h.below.size), h.b2.below hb h.b2.lt, h.b4.below hb h.b4.lt, h.b5.below hb h.b5.lt, own_below h.own hb, h.fit⟩

set_option maxRecDepth 100000 in
set_option maxHeartbeats 4000000 in
theorem stackOf_any (nm : ByteArray) (A B : Option Addr) (n c m cb : Nat) (xs : List Epoch) (ps : List SPair) (w : World) (hn : xs.length = n) (h0 : 0 < n) (h8 : n ≤ 8) (hm : ps.length = m) (h12 : m ≤ 12) (hS : SliceAt w A 4 Epoch.enc xs) (hP : SliceAt w B 2 SPair.enc ps) (hph : ∀ i, i < n → -16000 ≤ (nth xs i).phase ∧ (nth xs i).phase ≤ 16000) :
    Calls Try.prog 9 #[.agg #[.string nm, .slice A n c], .slice B m cb] w (StackPost n m xs ps w) := by
  obtain ⟨i1, hi1, hz1, hs1, hb1⟩ := info_parts info_scene
  obtain ⟨i2, hi2, hz2, hs2, hb2⟩ := info_parts info_pair
  obtain ⟨i3, hi3, hz3, hs3, hb3⟩ := info_parts info_int
  have HM := Lib.hid hm
  have HP := Lib.hid hP
  have HPH := Lib.hid hph
  clear hm hP hph
  obtain ⟨b, off, rfl, hbs, hcell⟩ := hS (by omega)
  have HN := Lib.hid hn
  have HC := Lib.hid hcell
  clear hS hn hcell
  go_enter Try.func9, Try.ntmps9
  go_wp2
  go_loopw [6] (fun i wr => ∃ (k : Nat) (nms : Nat → ByteArray) (v1 : Value), k ≤ n ∧ i = .int .i64 k ∧ ScenesAt w wr nm (some ⟨b, off, none⟩) n c k xs nms v1) (fun i _ => n - (intOf i).toNat)
  case atStart =>
    obtain ⟨k0, k1, k2, hB0, hz⟩ := blocks3 w #[.string nm, .slice (some ⟨b, off, none⟩) n c] #[.slice none 0 0, .slice none 0 0, .slice none 0 0, .slice none 0 0] #[.slice none 0 0, .slice none 0 0, .slice none 0 0, .slice none 0 0] 24 45 45
    exact ⟨0, fun _ => ⟨#[]⟩, _, by omega, rfl, hB0, k0, k1, k2, World.ownsRow_nil _ _ _ _, fun i h => by omega⟩
  case round =>
    obtain ⟨k, nms, v1, hk, rfl, hA⟩ := hrel
    have hB := hA.below
    by_cases hlt : k < n
    · have hkx : k < xs.length := by rw [HN.out]; exact hlt
      have d0 : wr.cell? ⟨b, off + k * 4, none⟩ = some (.int .i64 (nth xs k).day) := (hB.cell (p := ⟨b, _, none⟩) hbs).trans (HC.out k hkx 0 _ rfl)
      have d1 : wr.cell? ⟨b, off + k * 4 + 1, none⟩ = some (.int .i64 (nth xs k).base) := (hB.cell (p := ⟨b, _, none⟩) hbs).trans (HC.out k hkx 1 _ rfl)
      have d2 : wr.cell? ⟨w.heap.size + 1 + 1, 0, none⟩ = some v1 := hA.b5.cell 0
      have d3 : wr.cell? ⟨w.heap.size, 1, none⟩ = some (.slice (some ⟨b, off, none⟩) n c) := hA.b2.cell 1
      have hki : (k : Int) < (n : Int) := by omega
      have hk0 : (0 : Int) ≤ (k : Int) := by omega
      have l2 := hA.b2.lt
      have l5 := hA.b5.lt
      have hbw : b < wr.heap.size := by have := hB.size; omega
      go_wp2
      have hS0 : wr.drew.cell? ⟨b, off + k * 4, none⟩ = some (.int .i64 (nth xs k).day) ∧ wr.drew.cell? ⟨b, off + k * 4 + 1, none⟩ = some (.int .i64 (nth xs k).base) ∧ wr.drew.cell? ⟨w.heap.size + 1 + 1, 0, none⟩ = some v1 ∧ wr.drew.cell? ⟨w.heap.size, 1, none⟩ = some (.slice (some ⟨b, off, none⟩) n c) := ⟨d0, d1, d2, d3⟩
      refine wp_region_any (by kernel_rfl) ?_
      refine any_mid (S := fun w' => w'.cell? ⟨b, off + k * 4, none⟩ = some (.int .i64 (nth xs k).day) ∧ w'.cell? ⟨b, off + k * 4 + 1, none⟩ = some (.int .i64 (nth xs k).base) ∧ w'.cell? ⟨w.heap.size + 1 + 1, 0, none⟩ = some v1 ∧ w'.cell? ⟨w.heap.size, 1, none⟩ = some (.slice (some ⟨b, off, none⟩) n c))
        20 4 _ _ [0, 1, 2, 3, 6, 7, 8, 9, 10, 11, 12, 13, 14, 15, 16, 17] (by kernel_rfl) (by intro c a w d v h; cases d <;> exact h) (by kernel_rfl) (by kernel_rfl) (by kernel_rfl) (by kernel_rfl) (by kernel_rfl) (by kernel_rfl) hS0 ?_
      iterate 16
        refine wpIf_step (v := ?_) rfl rfl (fun W hS => ?_) ?_
        rotate_left
        · obtain ⟨s0, s1, s2, s3⟩ := hS
          go_simp
          rfl
      refine wpIf_nil ?_
      refine anyHL_all (rs := [4]) (by kernel_rfl) (by decide) (by decide) ?_
      intro i hi
      obtain rfl : i = 4 := by simpa using hi
      refine wpOp_lit rfl rfl ?_
      go_simp
      refine (decimal_small k _ (by omega)).mono ?_
      rintro e w2 ⟨⟨s, rfl, hs1'⟩, hb2⟩
      have hA2 := hA.later (wr' := w2) (show Below wr.heap.size wr w2 from ⟨hb2.os, hb2.tape, hb2.output, hb2.size, hb2.block⟩)
      have s0 : w2.cell? ⟨b, off + k * 4, none⟩ = some (.int .i64 (nth xs k).day) := (hA2.below.cell (p := ⟨b, _, none⟩) hbs).trans (HC.out k hkx 0 _ rfl)
      have s1 : w2.cell? ⟨b, off + k * 4 + 1, none⟩ = some (.int .i64 (nth xs k).base) := (hA2.below.cell (p := ⟨b, _, none⟩) hbs).trans (HC.out k hkx 1 _ rfl)
      have s2 : w2.cell? ⟨w.heap.size + 1 + 1, 0, none⟩ = some v1 := hA2.b5.cell 0
      have s3 : w2.cell? ⟨w.heap.size, 1, none⟩ = some (.slice (some ⟨b, off, none⟩) n c) := hA2.b2.cell 1
      clear hS0 d0 d1 d2 d3 l2 l5 hbw hA hB hb2
      have hB := hA2.below
      have l2 := hA2.b2.lt
      have l5 := hA2.b5.lt
      have hbw : b < w2.heap.size := by have := hB.size; omega
      have hsz : s.size ≤ 9 := by omega
      refine ⟨⟨s0, s1, s2, s3⟩, ?_⟩
      refine anyHL_all (rs := [5]) (by kernel_rfl) (by decide) (by decide) ?_
      intro i hi
      obtain rfl : i = 5 := by simpa using hi
      refine wpOp_lit rfl rfl ?_
      go_simp
      refine anyHL_all (rs := [18]) (by kernel_rfl) (by decide) (by decide) ?_
      intro i hi
      obtain rfl : i = 18 := by simpa using hi
      refine wpOp_lit rfl rfl ?_
      go_simp
      refine anyHL_all (rs := [19]) (by kernel_rfl) (by decide) (by decide) ?_
      intro i hi
      obtain rfl : i = 19 := by simpa using hi
      refine wpOp_lit rfl rfl ?_
      go_simp
      refine ⟨by kernel_rfl, ?_⟩
      have hA3 := hA2.later ((Below.refl _ _).alloc (Nat.le_refl _) (.cells #[.string (⟨#[115]⟩ ++ s), .int .i64 (nth xs k).day, .int .i64 (nth xs k).base] 76))
      have hzz : (w2.alloc (.cells #[.string (⟨#[115]⟩ ++ s), .int .i64 (nth xs k).day, .int .i64 (nth xs k).base] 76)).heap.size = w2.heap.size + 1 := World.size_alloc _ _
      have hbz := hA2.below.size
      have hss : (⟨#[115]⟩ ++ s : ByteArray).size ≤ 100 := by simp [ByteArray.size_append]; have : (⟨#[115]⟩ : ByteArray).size = 1 := rfl; omega
      clear s0 s1 s3 hA2
      go_wp2_with (first | (at_builtin; refine wpList_append_lies _ rfl _ _ _ rfl (w.heap.size + 1 + 1 + 1) 76 i1 _ 3 32 Try.underlying39 hi1 hz1 hs1 hb1 rfl (by omega) _ k _ rfl hA3.own ⟨w2.heap.size, 0, none⟩ 1 1 [.string (⟨#[115]⟩ ++ s), .int .i64 (nth xs k).day, .int .i64 (nth xs k).base] rfl rfl ?c1 ?c2 ?c3 ?c4 ?c5 ?c6 _ rfl ?_))
      case c1 => exact World.news_of_block (cs := #[.string (⟨#[115]⟩ ++ s), .int .i64 (nth xs k).day, .int .i64 (nth xs k).base]) (t := 76) (fr := (0, 0)) (heap_alloc_new w2 _)
      case c2 => simp [Value.oneCell']
      case c3 => omega
      case c4 => simp [maxLen]; omega
      case c5 => omega
      case c6 => have := hA3.b5.lt; omega
      intro g6 cap6 w6 hf6 hgr6 hat6 hlt6
      rw [push_scene] at hf6
      have n1 := own_blk_ne hA3.own hA3.b2 (by decide)
      have n2 := own_blk_ne hA3.own hA3.b4 (by decide)
      have n3 := own_blk_ne hA3.own hA3.b5 (by decide)
      have b2 := hA3.b2.grown hgr6 (Ne.symm n1)
      have b4 := hA3.b4.grown hgr6 (Ne.symm n2)
      have b5 := hA3.b5.grown hgr6 (Ne.symm n3)
      have hB6 := hA3.below.grown hgr6 hA3.below.size (fun j e => by have := (hA3.own.lt j e).1; omega)
      have m3 := own_blk_ne hf6 b5 (by decide)
      have x0 : w6.cell? ⟨w.heap.size + 1 + 1, 0, none⟩ = some v1 := b5.cell 0
      have f0 := b5.frozen 0
      have l6 := b5.lt
      have l7 := b2.lt
      have hfit : ∀ i, i < k + 1 → (setF nms k (⟨#[115]⟩ ++ s) i).size ≤ 100 := fun i hi => by
        by_cases e : i = k
        · subst e; rw [setF_same]; exact hss
        · rw [setF_ne _ _ e]; exact hA3.fit i (by omega)
      have HF := Lib.hid hfit
      clear hgr6 n1 n2 n3 hA3 s2 hss hfit
      go_wp2
      go_roundw
      case rel => exact ⟨k + 1, setF nms k (⟨#[115]⟩ ++ s), _, by omega, by go_num, hB6.setCell (p := ⟨w.heap.size + 1 + 1, 0, none⟩) (by simp; omega) _, b2.far (p := ⟨w.heap.size + 1 + 1, 0, none⟩) (by simp; omega) _, b4.far (p := ⟨w.heap.size + 1 + 1, 0, none⟩) (by simp) _, b5.set_ 0 _, ownsRow_setCell_other (a := ⟨w.heap.size + 1 + 1, 0, none⟩) hf6 m3 _, HF.out⟩
      case measure => simp [intOf]; omega
    · obtain rfl : n = k := by omega
      have hT : TaskBox w wr nm (some ⟨b, off, none⟩) n c v1 n (flatN (sceneCell xs nms) n) (.slice none 0 0) 0 [] (.slice none 0 0) 0 [] (.slice none 0 0) 0 [] :=
        ⟨hA.below, hA.b2, hA.b4, hA.b5, hA.own, World.ownsRow_nil _ _ _ _, World.ownsRow_nil _ _ _ _, World.ownsRow_nil _ _ _ _, .inl rfl⟩
      have HF := Lib.hid hA.fit
      clear hA hB hlt
      have e1 : wr.cell? ⟨w.heap.size, 1, none⟩ = some (.slice (some ⟨b, off, none⟩) n c) := hT.b2.cell 1
      go_wp2
      obtain ⟨wo, rfl⟩ : ∃ wo : World, wo = wr := ⟨_, rfl⟩
      go_loopw [7] (fun i wr => ∃ (k : Nat) (v2 v3 v4 : Value), k ≤ m ∧ i = .int .i64 k ∧ TaskBox w wr nm (some ⟨b, off, none⟩) n c v1 n (flatN (sceneCell xs nms) n) v2 k (flatN (pairCell ps) k) v3 (phUpto xs ps k).length (intsV (phUpto xs ps k)) v4 k (intsV (List.replicate k 1))) (fun i _ => m - (intOf i).toNat)
      case atStart => exact ⟨0, _, _, _, by omega, rfl, hT⟩
      clear hT e1
      case round =>

        obtain ⟨k, v2, v3, v4, hk, rfl, hT⟩ := hrel
        have hB := hT.below
        by_cases hlt : k < m
        · obtain ⟨gb, ob, rfl, hgb, hpc⟩ := HP.out (by rw [HM.out]; omega)
          have hkx : k < ps.length := by rw [HM.out]; exact hlt
          have d0 : wr.cell? ⟨gb, ob + k * 2, none⟩ = some (.int .i64 (nth ps k).first) := (hB.cell (p := ⟨gb, _, none⟩) hgb).trans (hpc k hkx 0 _ rfl)
          have d1 : wr.cell? ⟨gb, ob + k * 2 + 1, none⟩ = some (.int .i64 (nth ps k).second) := (hB.cell (p := ⟨gb, _, none⟩) hgb).trans (hpc k hkx 1 _ rfl)
          have hki : (k : Int) < (m : Int) := by omega
          have hk0 : (0 : Int) ≤ (k : Int) := by omega
          have hgbw : gb < wr.heap.size := by have := hB.size; omega
          go_wp2
          go_quiet (fail)
          rename_i nq
          have hT1 := hT.later (wr' := wr.drewN nq) (below_drewN (Below.refl _ _) _)
          clear hT hB d0 d1 hgbw
          generalize wr.drewN nq = W at *
          have x1 : W.cell? ⟨w.heap.size + 1 + 1, 1, none⟩ = some v2 := hT1.b5.cell 1
          have z5 := hT1.b5.lt
          have f5 := hT1.b5.frozen
          have hT2 := hT1.later ((Below.refl _ _).alloc (Nat.le_refl _) (.cells #[.int .i64 (nth ps k).first, .int .i64 (nth ps k).second] 79))
          have hz2' : (W.alloc (.cells #[.int .i64 (nth ps k).first, .int .i64 (nth ps k).second] 79)).heap.size = W.heap.size + 1 := World.size_alloc _ _
          go_wp2_with (first | (at_builtin; refine wpList_append_lies _ rfl _ _ _ rfl (w.heap.size + 1 + 1 + 1) 79 i2 _ 2 16 Try.underlying40 hi2 hz2 hs2 hb2 rfl (by omega) _ k _ rfl hT2.o2 ⟨W.heap.size, 0, none⟩ 1 1 (pairCell ps k) rfl rfl ?p1 ?p2 ?p3 ?p4 ?p5 ?p6 _ rfl ?_))
          case p1 => exact World.news_of_block (cs := #[.int .i64 (nth ps k).first, .int .i64 (nth ps k).second]) (t := 79) (fr := (0, 0)) (heap_alloc_new W _)
          case p2 => simp [pairCell, SPair.enc, Value.oneCell']
          case p3 => omega
          case p4 => simp [maxLen]; omega
          case p5 => omega
          case p6 => have := hT2.b5.lt; omega
          intro g6 cap6 w6 hf6 hgr6 hat6 hlt6
          have hT3 := hT2.push2 hf6 hgr6
          have y0 : w6.cell? ⟨w.heap.size + 1 + 1, 1, none⟩ = some v2 := (hT2.b5.grown hgr6 (Ne.symm (own_blk_ne hT2.o2 hT2.b5 (by decide)))).cell 1
          have y1 := (hT2.b5.grown hgr6 (Ne.symm (own_blk_ne hT2.o2 hT2.b5 (by decide)))).frozen 1
          have y2 := (hT2.b5.grown hgr6 (Ne.symm (own_blk_ne hT2.o2 hT2.b5 (by decide)))).lt
          clear hT2 hT1 hgr6 hf6 hz2' x1 z5 f5
          obtain ⟨V, hV⟩ : ∃ V, w6.setCell ⟨w.heap.size + 1 + 1, 1, none⟩ (.slice (some ⟨g6, 0, none⟩) (k + 1) cap6) = V := ⟨_, rfl⟩
          rw [hV] at hT3
          have q3 : V.cell? ⟨w.heap.size + 1 + 1, 3, none⟩ = some v4 := hT3.b5.cell 3
          have z5 := hT3.b5.lt
          have hT4 := hT3.later ((Below.refl _ _).alloc (Nat.le_refl _) (.cells #[.int .i64 1] 3))
          have hz2' : (V.alloc (.cells #[.int .i64 1] 3)).heap.size = V.heap.size + 1 := World.size_alloc _ _
          go_wp2_with (first | (at_builtin; refine wpList_append_lies _ rfl _ _ _ rfl (w.heap.size + 1 + 1 + 1) 3 i3 _ 1 8 Try.underlying43 hi3 hz3 hs3 hb3 rfl (by omega) _ k _ rfl hT4.o4 ⟨V.heap.size, 0, none⟩ 1 1 [.int .i64 1] rfl rfl ?q1 ?q2 ?q3 ?q4 ?q5 ?q6 _ rfl ?_))
          case q1 => exact World.news_of_block (cs := #[.int .i64 1]) (t := 3) (fr := (0, 0)) (heap_alloc_new V _)
          case q2 => simp [Value.oneCell']
          case q3 => omega
          case q4 => simp [maxLen]; omega
          case q5 => omega
          case q6 => have := hT4.b5.lt; omega
          intro g8 cap8 w8 hf8 hgr8 hat8 hlt8
          rw [push_one] at hf8
          have hT5 := hT4.push4 hf8 hgr8 hat8 (by omega)
          have y3 : w8.cell? ⟨w.heap.size + 1 + 1, 3, none⟩ = some v4 := (hT4.b5.grown hgr8 (Ne.symm (own_blk_ne hT4.o4 hT4.b5 (by decide)))).cell 3
          have y4 := (hT4.b5.grown hgr8 (Ne.symm (own_blk_ne hT4.o4 hT4.b5 (by decide)))).frozen 3
          have y5 := (hT4.b5.grown hgr8 (Ne.symm (own_blk_ne hT4.o4 hT4.b5 (by decide)))).lt
          clear hT4 hT3 hgr8 hf8 hz2' q3 z5 y0 y1 y2 hV
          obtain ⟨X, hX⟩ : ∃ X, w8.setCell ⟨w.heap.size + 1 + 1, 3, none⟩ (.slice (some ⟨g8, 0, none⟩) (k + 1) cap8) = X := ⟨_, rfl⟩
          rw [hX] at hT5
          have e2 : X.cell? ⟨w.heap.size, 1, none⟩ = some (.slice (some ⟨b, off, none⟩) n c) := hT5.b2.cell 1
          have z5 := hT5.b5.lt
          have z2 := hT5.b2.lt
          cases hin1 : withinB (nth ps k).first 0 ((n : Int) - 1) with
          | false =>
            have HU : Hid (phUpto xs ps (k + 1) = phUpto xs ps k) := Lib.hid (by rw [phUpto, if_neg (by unfold inDates; rw [HN.out, hin1]; simp)])
            go_wp2_with (first | (go_at_call 16; refine (base_Within _ _ _ _).mono ?_; rintro e w' ⟨rfl, rfl⟩))
            go_roundw
            case rel => exact ⟨k + 1, _, v3, _, by omega, by go_num, by rw [HU.out]; exact hT5⟩
            case measure => simp [intOf]; omega
          | true =>
            cases hin2 : withinB (nth ps k).second 0 ((n : Int) - 1) with
            | false =>
              have HU : Hid (phUpto xs ps (k + 1) = phUpto xs ps k) := Lib.hid (by rw [phUpto, if_neg (by unfold inDates; rw [HN.out, hin1, hin2]; simp)])
              go_wp2_with (first | (go_at_call 16; refine (base_Within _ _ _ _).mono ?_; rintro e w' ⟨rfl, rfl⟩))
              go_roundw
              case rel => exact ⟨k + 1, _, v3, _, by omega, by go_num, by rw [HU.out]; exact hT5⟩
              case measure => simp [intOf]; omega
            | true =>
              go_wp2_with (first | (go_at_call 16; refine (base_Within _ _ _ _).mono ?_; rintro e w' ⟨rfl, rfl⟩))
              have w1 := withinB_true.1 hin1
              have w2 := withinB_true.1 hin2
              obtain ⟨a, ha⟩ : ∃ a : Nat, (nth ps k).first = (a : Int) := ⟨(nth ps k).first.toNat, by omega⟩
              obtain ⟨a', ha'⟩ : ∃ a : Nat, (nth ps k).second = (a : Int) := ⟨(nth ps k).second.toNat, by omega⟩
              have han : a < n := by omega
              have han' : a' < n := by omega
              have hph : phaseOf xs (nth ps k) = (nth xs a').phase - (nth xs a).phase := by unfold phaseOf; rw [ha, ha']; simp
              have b1 := HPH.out a han
              have b2 := HPH.out a' han'
              have hww : IntKind.i64.wrap ((nth xs a').phase - (nth xs a).phase) = (nth xs a').phase - (nth xs a).phase := IntWalk.i64_in _ (by omega)
              have HU : Hid (phUpto xs ps (k + 1) = phUpto xs ps k ++ [(nth xs a').phase - (nth xs a).phase]) := Lib.hid (by rw [phUpto, if_pos (by unfold inDates; rw [HN.out, hin1, hin2]; rfl), hph])
              simp only [ha, ha']
              have d0 : X.cell? ⟨b, off + a * 4 + 2, none⟩ = some (.int .i64 (nth xs a).phase) := (hT5.below.cell (p := ⟨b, _, none⟩) hbs).trans (HC.out a (by rw [HN.out]; exact han) 2 _ rfl)
              have d1 : X.cell? ⟨b, off + a' * 4 + 2, none⟩ = some (.int .i64 (nth xs a').phase) := (hT5.below.cell (p := ⟨b, _, none⟩) hbs).trans (HC.out a' (by rw [HN.out]; exact han') 2 _ rfl)
              have d2 : X.cell? ⟨w.heap.size + 1 + 1, 2, none⟩ = some v3 := hT5.b5.cell 2
              clear hin1 hin2 w1 w2 ha ha' hph b1 b2
              have hai : (a : Int) < (n : Int) := by omega
              have hai' : (a' : Int) < (n : Int) := by omega
              have ha0 : (0 : Int) ≤ (a : Int) := by omega
              have ha0' : (0 : Int) ≤ (a' : Int) := by omega
              have hbX : b < X.heap.size := by have := hT5.below.size; omega
              have HW := Lib.hid hww
              clear hww
              generalize (nth xs a).phase = pa1 at *
              generalize (nth xs a').phase = pa2 at *
              have hS0 : X.drew.cell? ⟨b, off + a * 4 + 2, none⟩ = some (.int .i64 pa1) ∧ X.drew.cell? ⟨b, off + a' * 4 + 2, none⟩ = some (.int .i64 pa2) ∧ X.drew.cell? ⟨w.heap.size + 1 + 1, 2, none⟩ = some v3 ∧ X.drew.cell? ⟨w.heap.size, 1, none⟩ = some (.slice (some ⟨b, off, none⟩) n c) := ⟨d0, d1, d2, e2⟩
              refine wp_region_any (by kernel_rfl) ?_
              refine any_mid (S := fun w' => w'.cell? ⟨b, off + a * 4 + 2, none⟩ = some (.int .i64 pa1) ∧ w'.cell? ⟨b, off + a' * 4 + 2, none⟩ = some (.int .i64 pa2) ∧ w'.cell? ⟨w.heap.size + 1 + 1, 2, none⟩ = some v3 ∧ w'.cell? ⟨w.heap.size, 1, none⟩ = some (.slice (some ⟨b, off, none⟩) n c))
                16 1 _ _ [0, 1, 2, 3, 4, 5, 6, 7, 8, 9, 10, 11, 12, 13, 14] (by kernel_rfl) (by intro c a w d v h; cases d <;> exact h) (by kernel_rfl) (by kernel_rfl) (by kernel_rfl) (by kernel_rfl) (by kernel_rfl) (by kernel_rfl) hS0 ?_
              iterate 15
                refine wpIf_step (v := ?_) rfl rfl (fun W hS => ?_) ?_
                rotate_left
                · obtain ⟨s0, s1, s2, s3⟩ := hS
                  go_simp
                  rfl
              refine wpIf_nil ?_
              obtain ⟨s0, s1, s2, s3⟩ := hS0
              refine anyHL_all (rs := [15]) (by kernel_rfl) (by decide) (by decide) ?_
              intro i hi
              obtain rfl : i = 15 := by simpa using hi
              refine wpOp_lit rfl rfl ?_
              go_simp
              refine ⟨by kernel_rfl, ?_⟩
              rw [HW.out]
              have hT6 := hT5.later (wr' := (X.alloc (.cells #[.int .i64 (pa2 - pa1)] 3)).drew) (((Below.refl _ _).alloc (Nat.le_refl _) _).drew)
              have hz2' : (X.alloc (.cells #[.int .i64 (pa2 - pa1)] 3)).drew.heap.size = X.heap.size + 1 := World.size_alloc _ _
              have hl3 := phUpto_len xs ps k
              clear s0 s1 s2 s3 d0 d1 e2 hbX
              go_wp2_with (first | (at_builtin; refine wpList_append_lies _ rfl _ _ _ rfl (w.heap.size + 1 + 1 + 1) 3 i3 _ 1 8 Try.underlying43 hi3 hz3 hs3 hb3 rfl (by omega) _ _ _ rfl hT6.o3 ⟨X.heap.size, 0, none⟩ 1 1 [.int .i64 (pa2 - pa1)] rfl rfl ?r1 ?r2 ?r3 ?r4 ?r5 ?r6 _ rfl ?_))
              case r1 => exact World.news_of_block (cs := #[.int .i64 (pa2 - pa1)]) (t := 3) (fr := (0, 0)) (heap_alloc_new X _)
              case r2 => simp [Value.oneCell']
              case r3 => omega
              case r4 => simp [maxLen]; omega
              case r5 => omega
              case r6 => have := hT6.b5.lt; omega
              intro g9 cap9 w9 hf9 hgr9 hat9 hlt9
              have hT7 := hT6.push3 hf9 hgr9 hat9 (by omega)
              have y6 : w9.cell? ⟨w.heap.size + 1 + 1, 2, none⟩ = some v3 := (hT6.b5.grown hgr9 (Ne.symm (own_blk_ne hT6.o3 hT6.b5 (by decide)))).cell 2
              have y7 := (hT6.b5.grown hgr9 (Ne.symm (own_blk_ne hT6.o3 hT6.b5 (by decide)))).frozen 2
              have y8 := (hT6.b5.grown hgr9 (Ne.symm (own_blk_ne hT6.o3 hT6.b5 (by decide)))).lt
              have HT7 := Lib.hid hT7
              clear hT6 hT5 hgr9 hf9 hz2' d2 z5 z2 y3 y4 y5 hX hT7
              go_wp2
              go_roundw
              case rel =>
                refine ⟨k + 1, .slice (some ⟨g6, 0, none⟩) (k + 1) cap6, .slice (some ⟨g9, 0, none⟩) ((phUpto xs ps k).length + 1) cap9, .slice (some ⟨g8, 0, none⟩) (k + 1) cap8, by omega, by go_num, ?_⟩
                rw [HU.out, show (phUpto xs ps k ++ [pa2 - pa1]).length = (phUpto xs ps k).length + 1 by simp, show intsV (phUpto xs ps k ++ [pa2 - pa1]) = intsV (phUpto xs ps k) ++ [.int .i64 (pa2 - pa1)] by simp [intsV]]
                exact HT7.out
              case measure => simp [intOf]; omega
        · obtain rfl : m = k := by omega
          have y0 : wr.cell? ⟨w.heap.size + 1 + 1, 0, none⟩ = some v1 := hT.b5.cell 0
          have y1 : wr.cell? ⟨w.heap.size + 1 + 1, 1, none⟩ = some v2 := hT.b5.cell 1
          have y2 : wr.cell? ⟨w.heap.size + 1 + 1, 2, none⟩ = some v3 := hT.b5.cell 2
          have y3 : wr.cell? ⟨w.heap.size + 1 + 1, 3, none⟩ = some v4 := hT.b5.cell 3
          have f4 := hT.b4.frozen
          have z4 := hT.b4.lt
          have z5 := hT.b5.lt
          have t0 : wr.cell? ⟨w.heap.size + 1, 0, none⟩ = some (.slice none 0 0) := hT.b4.cell 0
          have t1 : wr.cell? ⟨w.heap.size + 1, 1, none⟩ = some (.slice none 0 0) := hT.b4.cell 1
          have t2 : wr.cell? ⟨w.heap.size + 1, 2, none⟩ = some (.slice none 0 0) := hT.b4.cell 2
          have t3 : wr.cell? ⟨w.heap.size + 1, 3, none⟩ = some (.slice none 0 0) := hT.b4.cell 3
          obtain ⟨A1, c1, rfl, hA1, hC1⟩ := own_slice2 hT.o1
          obtain ⟨A2, c2, rfl, hA2, hC2⟩ := own_slice2 hT.o2
          obtain ⟨A3, c3, rfl, hA3, hC3⟩ := own_slice2 hT.o3
          obtain ⟨A4, c4, rfl, hA4, hC4⟩ := own_slice2 hT.o4
          go_wp2
          have cc := (((hT.b4.set_ 0 (.slice A1 n c1)).set_ 1 (.slice A2 m c2)).set_ 2 (.slice A3 (phUpto xs ps m).length c3)).set_ 3 (.slice A4 m c4)
          have r1 := ownsRow_set4 hT.o1 (own_blk_ne hT.o1 hT.b4 (by decide)) (.slice A1 n c1) (.slice A2 m c2) (.slice A3 (phUpto xs ps m).length c3) (.slice A4 m c4)
          have r2 := ownsRow_set4 hT.o2 (own_blk_ne hT.o2 hT.b4 (by decide)) (.slice A1 n c1) (.slice A2 m c2) (.slice A3 (phUpto xs ps m).length c3) (.slice A4 m c4)
          have r3 := ownsRow_set4 hT.o3 (own_blk_ne hT.o3 hT.b4 (by decide)) (.slice A1 n c1) (.slice A2 m c2) (.slice A3 (phUpto xs ps m).length c3) (.slice A4 m c4)
          have r4 := ownsRow_set4 hT.o4 (own_blk_ne hT.o4 hT.b4 (by decide)) (.slice A1 n c1) (.slice A2 m c2) (.slice A3 (phUpto xs ps m).length c3) (.slice A4 m c4)
          have hBB := (((hT.below.setCell (p := ⟨w.heap.size + 1, 0, none⟩) (by simp) (.slice A1 n c1)).setCell (p := ⟨w.heap.size + 1, 1, none⟩) (by simp) (.slice A2 m c2)).setCell (p := ⟨w.heap.size + 1, 2, none⟩) (by simp) (.slice A3 (phUpto xs ps m).length c3)).setCell (p := ⟨w.heap.size + 1, 3, none⟩) (by simp) (.slice A4 m c4)
          generalize ((((wr.setCell ⟨w.heap.size + 1, 0, none⟩ (.slice A1 n c1)).setCell ⟨w.heap.size + 1, 1, none⟩ (.slice A2 m c2)).setCell ⟨w.heap.size + 1, 2, none⟩ (.slice A3 (phUpto xs ps m).length c3)).setCell ⟨w.heap.size + 1, 3, none⟩ (.slice A4 m c4)) = W at *
          have c0 : W.cell? ⟨w.heap.size + 1, 0, none⟩ = some (.slice A1 n c1) := cc.cell 0
          have c1' : W.cell? ⟨w.heap.size + 1, 1, none⟩ = some (.slice A2 m c2) := cc.cell 1
          have c2' : W.cell? ⟨w.heap.size + 1, 2, none⟩ = some (.slice A3 (phUpto xs ps m).length c3) := cc.cell 2
          have c3' : W.cell? ⟨w.heap.size + 1, 3, none⟩ = some (.slice A4 m c4) := cc.cell 3
          refine bodyPost_ret (v := .agg #[.slice A1 n c1, .slice A2 m c2, .slice A3 (phUpto xs ps m).length c3, .slice A4 m c4]) (by simp [results, Try.results9, go_sem, c0, c1', c2', c3']) rfl
            ⟨nms, A1, A2, A3, A4, c1, c2, _, c3, c4, rfl, ⟨own_mono' r1 (by omega), own_mono' r2 (by omega), own_mono' r3 (by omega), own_mono' r4 (by omega)⟩, rfl, hA1, hC1, HF.out, hBB⟩
end Go.Proofs.Ytncmdjhdfhhkjaa
