/- CheckNet returns the number and the error of the first wrong scene or pair. -/
import Derived.Test.YtncmdjhdfhhkjaaKeys
namespace Go.Proofs.Ytncmdjhdfhhkjaa
open Go.RowKit Go.Sort Go.Maps

/-- The error of pair i, behind those ahead of it. -/
def pairErr (n : Nat) (ps : List SPair) (i : Nat) : Int :=
  if (withinB (nth ps i).first 0 ((n : Int) - 1) && withinB (nth ps i).second 0 ((n : Int) - 1)) = false then 6
  else if (nth ps i).second ≤ (nth ps i).first then 9 else if pairAhead ps i (nth ps i).first (nth ps i).second = true then 28 else 0
/-- The number and the error of the first wrong scene or pair. -/
noncomputable def netErr2 (sc : List Scene) (ps : List SPair) : Nat × Int :=
  if (scenesErr sc).2 ≠ 0 then scenesErr sc else if 200 < ps.length then (0, 8) else firstBad (pairErr sc.length ps) ps.length
theorem netErr2_hit {sc : List Scene} {ps : List SPair} {k : Nat} {e : Int} (hs : (scenesErr sc).2 = 0) (h : ps.length ≤ 200) (hk : k < ps.length) (hz : ∀ j, j < k → pairErr sc.length ps j = 0) (he : pairErr sc.length ps k = e) (hne : e ≠ 0) : ((k : Int), e) = (((netErr2 sc ps).1 : Int), (netErr2 sc ps).2) := by
  unfold netErr2
  rw [if_neg (by omega), if_neg (by omega), firstBad_hit hz (by rw [he]; exact hne) hk, he]
theorem netErr2_ok {sc : List Scene} {ps : List SPair} (hs : (scenesErr sc).2 = 0) (h : ps.length ≤ 200) (hz : ∀ j, j < ps.length → pairErr sc.length ps j = 0) : ((0 : Int), (0 : Int)) = (((netErr2 sc ps).1 : Int), (netErr2 sc ps).2) := by
  unfold netErr2
  rw [if_neg (by omega), if_neg (by omega), firstBad_zero hz]; rfl
/-- A stack that is right has right numbers. -/
theorem netOk_of {sc : List Scene} {ps : List SPair} (h : (netErr2 sc ps).2 = 0) : NetOk sc ps := by
  unfold netErr2 at h
  by_cases h1 : (scenesErr sc).2 ≠ 0
  · rw [if_pos h1] at h; exact absurd h h1
  · rw [if_neg h1] at h
    by_cases h2 : 200 < ps.length
    · rw [if_pos h2] at h; exact absurd h (by decide)
    · rw [if_neg h2] at h
      have hp := firstBad_all h
      have hs : (scenesErr sc).2 = 0 := by omega
      unfold scenesErr at hs
      by_cases h3 : 60 < sc.length
      · rw [if_pos h3] at hs; exact absurd hs (by decide)
      · rw [if_neg h3] at hs
        have hsc := firstBad_all hs
        have hr : ∀ k, k < sc.length → withinB (nth sc k).day 0 100000 = true ∧ withinB (nth sc k).base (-100000) 100000 = true := fun k hk => by
          have := hsc k hk
          unfold sceneErr at this
          split at this
          · omega
          · split at this
            · omega
            · split at this
              · omega
              · rename_i h; simpa using h
        have hq : ∀ k, k < ps.length → 0 ≤ (nth ps k).first ∧ (nth ps k).first < (nth ps k).second ∧ (nth ps k).second < sc.length := fun k hk => by
          have := hp k hk
          unfold pairErr at this
          split at this
          · omega
          · split at this
            · omega
            · rename_i h h'
              simp only [Bool.not_eq_false, Bool.and_eq_true] at h
              have a := withinB_true.1 h.1
              have b := withinB_true.1 h.2
              omega
        exact ⟨hq, fun k hk => withinB_true.1 (hr k hk).1, fun k hk => withinB_true.1 (hr k hk).2, by omega, by omega⟩

set_option maxRecDepth 100000 in
set_option maxHeartbeats 2000000 in
theorem checkNet_any (A1 A2 : Option Addr) (n m c1 c2 : Nat) (sc : List Scene) (ps : List SPair) (w : World) (hn : sc.length = n) (hm : ps.length = m) (hnm : n ≤ maxLen) (hnc : n ≤ c1) (hcm : c1 ≤ maxLen) (hmm : m ≤ maxLen) (hF : NamesFit sc) (hN : NetAt w A1 A2 sc ps) :
    Calls Try.prog 37 #[.agg #[.slice A1 n c1, .slice A2 m c2]] w fun e w' => e = .returned (.tuple #[.int .i64 ((netErr2 sc ps).1 : Int), .int .i64 (netErr2 sc ps).2]) ∧ Below w.heap.size w w' := by
  have HN := Lib.hid hn
  have HM := Lib.hid hm
  have HNA := Lib.hid hN
  have HC := Lib.hid (fun W (hW : Below w.heap.size w W) => checkScenes_any A1 n c1 sc W hn hnm hnc hcm hF (hN.scenes.below hW))
  unfold maxLen at hnm hmm
  clear hn hm hN hF
  go_enter Try.func37, Try.ntmps37
  have b0 := Blk.new w 42 #[.slice A1 n c1, .slice A2 m c2]
  have hB0 : Below w.heap.size w (w.alloc (.cells #[.slice A1 n c1, .slice A2 m c2] 42)) := (Below.refl _ _).alloc (by simp) _
  have hz0 : (w.alloc (.cells #[.slice A1 n c1, .slice A2 m c2] 42)).heap.size = w.heap.size + 1 := World.size_alloc _ _
  go_wp2_with fail
  refine (HC.out _ hB0).mono ?_
  rintro e w1 ⟨rfl, hB1⟩
  have b1 := b0.below hB1 b0.lt
  have r0 : w1.cell? ⟨w.heap.size, 0, none⟩ = some (.slice A1 n c1) := b1.cell 0
  have r1 : w1.cell? ⟨w.heap.size, 1, none⟩ = some (.slice A2 m c2) := b1.cell 1
  have hB2 := hB0.trans (hB1.mono (by omega))
  have hlt1 := b1.lt
  obtain ⟨⟨i0, e0⟩, hie⟩ : ∃ p, scenesErr sc = p := ⟨_, rfl⟩
  have HIE := Lib.hid hie
  clear hB0 hB1 hz0 b0
  rw [hie]
  clear hie
  by_cases he0 : e0 = 0
  · have he1 : (e0 == 0) = true := by simp [he0]
    have he2 : (e0 != 0) = false := by simp [he0]
    have HS : Hid ((scenesErr sc).2 = 0) := Lib.hid (by rw [HIE.out]; exact he0)
    clear he0
    by_cases hm200 : 200 < m
    · have HE : Hid (((0 : Int), (8 : Int)) = (((netErr2 sc ps).1 : Int), (netErr2 sc ps).2)) := Lib.hid (by unfold netErr2; rw [if_neg (by rw [HS.out]; simp), if_pos (by rw [HM.out]; exact hm200)]; rfl)
      go_wp2
      go_ret2
      exact ⟨ret_two HE.out, hB2⟩
    · have hm200' : m ≤ 200 := by omega
      have hk0 := KnownAt.start w1 ps
      have b2 := b1.alloc (.map #[] 0)
      have hB3 := hB2.alloc hB2.size (.map #[] 0)
      have hmm2 := @run_makeMap Try.prog
      clear hm200
      go_wp2
      go_loopw [28] (fun i wr => ∃ k : Nat, k ≤ m ∧ i = .int .i64 k ∧ Hid (∀ j, j < k → pairErr sc.length ps j = 0) ∧ Below w.heap.size w wr ∧ Blk wr w.heap.size 42 #[.slice A1 n c1, .slice A2 m c2] ∧ KnownAt wr w1.heap.size k ps) (fun i _ => m - (intOf i).toNat)
      case atStart => exact ⟨0, by omega, rfl, Lib.hid fun j h => by omega, hB3, b2, hk0⟩
      case round =>
        obtain ⟨k, hk, rfl, hz, hB, bb, hkn⟩ := hrel
        by_cases hlt : k < m
        · obtain ⟨b, off, rfl, hbs, hcell⟩ := HNA.out.pairs (by rw [HM.out]; omega)
          have hkx : k < ps.length := by rw [HM.out]; exact hlt
          have c0 : wr.cell? ⟨b, off + k * 2, none⟩ = some (.int .i64 (nth ps k).first) := (hB.cell (p := ⟨b, _, none⟩) hbs).trans (hcell k hkx 0 _ rfl)
          have c3 : wr.cell? ⟨b, off + k * 2 + 1, none⟩ = some (.int .i64 (nth ps k).second) := (hB.cell (p := ⟨b, _, none⟩) hbs).trans (hcell k hkx 1 _ rfl)
          have hki : (k : Int) < (m : Int) := by omega
          have hsz := hB.size
          have hbl := bb.lt
          have d0 : wr.cell? ⟨w.heap.size, 0, none⟩ = some (.slice A1 n c1) := bb.cell 0
          have hB4 := hB.alloc hB.size (.cells #[.int .i64 (nth ps k).first, .int .i64 (nth ps k).second] 79)
          have bb4 := bb.alloc (.cells #[.int .i64 (nth ps k).first, .int .i64 (nth ps k).second] 79)
          have hkn4 := hkn.kept (World.grownBy_alloc wr (.cells #[.int .i64 (nth ps k).first, .int .i64 (nth ps k).second] 79) none) (by simp)
          clear hcell r0 r1
          have hnn : (n : Int) = (sc.length : Int) := by rw [HN.out]
          have HNN := Lib.hid hnn
          clear hnn
          cases h1 : withinB (nth ps k).first 0 ((n : Int) - 1) with
          | false =>
            have HE := Lib.hid (show pairErr sc.length ps k = 6 by unfold pairErr; rw [← HNN.out, if_pos (by simp [h1])])
            go_wp2_with (first | (go_at_call 29; refine (stack_within _ _ _ _).mono ?_; rintro e w' ⟨rfl, rfl⟩))
            go_ret2
            exact ⟨ret_two (netErr2_hit HS.out (by rw [HM.out]; exact hm200') hkx hz.out HE.out (by decide)), hB4⟩
          | true =>
            cases h2 : withinB (nth ps k).second 0 ((n : Int) - 1) with
            | false =>
              have HE := Lib.hid (show pairErr sc.length ps k = 6 by unfold pairErr; rw [← HNN.out, if_pos (by simp [h2])])
              go_wp2_with (first | (go_at_call 29; refine (stack_within _ _ _ _).mono ?_; rintro e w' ⟨rfl, rfl⟩))
              go_ret2
              exact ⟨ret_two (netErr2_hit HS.out (by rw [HM.out]; exact hm200') hkx hz.out HE.out (by decide)), hB4⟩
            | true =>
              have q1 := withinB_true.1 h1
              have q2 := withinB_true.1 h2
              obtain ⟨q3, q4⟩ := q1
              obtain ⟨q5, q6⟩ := q2
              have wx : (Lit.int .i64 (nth ps k).first).wf = true := WalkArith.wf_i64 (by omega)
              have wy : (Lit.int .i64 (nth ps k).second).wf = true := WalkArith.wf_i64 (by omega)
              by_cases ho : (nth ps k).second ≤ (nth ps k).first
              · have HE := Lib.hid (show pairErr sc.length ps k = 9 by unfold pairErr; rw [← HNN.out, if_neg (by simp [h1, h2]), if_pos ho])
                go_wp2_with (first | (go_at_call 29; refine (stack_within _ _ _ _).mono ?_; rintro e w' ⟨rfl, rfl⟩))
                go_ret2
                exact ⟨ret_two (netErr2_hit HS.out (by rw [HM.out]; exact hm200') hkx hz.out HE.out (by decide)), hB4⟩
              · have ho' : (nth ps k).first < (nth ps k).second := by omega
                have hrun := hkn4.look wx wy
                cases hp : pairAhead ps k (nth ps k).first (nth ps k).second with
                | true =>
                  have HE := Lib.hid (show pairErr sc.length ps k = 28 by unfold pairErr; rw [← HNN.out, if_neg (by simp [h1, h2]), if_neg ho, if_pos hp])
                  rw [hp] at hrun
                  clear ho hp
                  go_wp2_with (first | (go_at_call 29; refine (stack_within _ _ _ _).mono ?_; rintro e w' ⟨rfl, rfl⟩))
                  go_ret2
                  exact ⟨ret_two (netErr2_hit HS.out (by rw [HM.out]; exact hm200') hkx hz.out HE.out (by decide)), hB4⟩
                | false =>
                  have HE := Lib.hid (show pairErr sc.length ps k = 0 by unfold pairErr; rw [← HNN.out, if_neg (by simp [h1, h2]), if_neg ho, if_neg (by simp [hp])])
                  rw [hp] at hrun
                  obtain ⟨w5, hrun2, hkn5, hg5⟩ := hkn4.put hkx (by omega) wx wy
                  have hklt := hkn.lt
                  have hwW := hB4.size
                  have hkb : w1.heap.size ≠ w.heap.size := by omega
                  have hB5 := hB4.grown hg5 hB4.size (fun j e => by injection e with e; omega)
                  have bb5 := bb4.grown hg5 (fun e => by injection e with e; omega)
                  clear ho hp hkn4 hkn hg5 bb4 hB4 hB bb wx wy
                  go_wp2_with (first | (go_at_call 29; refine (stack_within _ _ _ _).mono ?_; rintro e w' ⟨rfl, rfl⟩))
                  go_roundw
                  case rel => exact ⟨k + 1, by omega, by go_num, Lib.hid (zeros_snoc hz.out HE.out), hB5, bb5, hkn5⟩
                  case measure => simp [intOf]; omega
        · go_wp2
          go_ret2
          exact ⟨ret_two (netErr2_ok HS.out (by rw [HM.out]; exact hm200') fun j hj => hz.out j (by have := HM.out; omega)), hB⟩
  · have he1 : (e0 == 0) = false := by simp [he0]
    have he2 : (e0 != 0) = true := by simp [he0]
    have HE : Hid ((((i0 : Nat) : Int), e0) = (((netErr2 sc ps).1 : Int), (netErr2 sc ps).2)) := Lib.hid (by unfold netErr2; rw [HIE.out, if_pos he0])
    clear he0
    go_wp2
    go_ret2
    exact ⟨ret_two HE.out, hB2⟩
end Go.Proofs.Ytncmdjhdfhhkjaa
