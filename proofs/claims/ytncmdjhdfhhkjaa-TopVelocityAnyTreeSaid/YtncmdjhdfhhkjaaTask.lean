/- netErr and CheckTask return the errors. -/
import Derived.Test.YtncmdjhdfhhkjaaNetErr
import Derived.Test.YtncmdjhdfhhkjaaIndexF
namespace Go.Proofs.Ytncmdjhdfhhkjaa
open Go.RowKit Go.Sort Go.Maps

theorem netErr_any (A1 A2 : Option Addr) (n m c1 c2 : Nat) (sc : List Scene) (ps : List SPair) (w : World) (hn : sc.length = n) (hm : ps.length = m) (hnm : n ≤ maxLen) (hnc : n ≤ c1) (hcm : c1 ≤ maxLen) (hmm : m ≤ maxLen) (hF : NamesFit sc) (hN : NetAt w A1 A2 sc ps) :
    Calls Try.prog 24 #[.agg #[.slice A1 n c1, .slice A2 m c2]] w fun e w' => e = .returned (.int .i64 (netErr2 sc ps).2) ∧ Below w.heap.size w w' := by
  have hB0 : Below w.heap.size w (w.alloc (.cells #[.slice A1 n c1, .slice A2 m c2] 42)) := (Below.refl _ _).alloc (by simp) _
  have HC := Lib.hid (checkNet_any A1 A2 n m c1 c2 sc ps _ hn hm hnm hnc hcm hmm hF (hN.below hB0))
  clear hn hm hN hF
  go_enter Try.func24, Try.ntmps24
  go_wp2_with fail
  refine HC.out.mono ?_
  rintro e w1 ⟨rfl, hb⟩
  have hB := hB0.trans (hb.mono hB0.size)
  clear HC hb hB0
  go_wp2
  go_ret
  exact ⟨rfl, hB⟩

def outPhase (x : Int) : Bool := !withinB x (-100000000) 100000000
def outWeight (x : Int) : Bool := !withinB x 0 1000
theorem checkTask1_pred : PredI 26 outPhase := fun x w => by
  go_enter Try.func26, Try.ntmps26
  go_wp2_with (go_at_call 27; refine (stack_small _ _ _ (by omega) (by omega)).mono ?_; rintro e w' ⟨rfl, rfl⟩)
  go_ret
  exact ⟨rfl, rfl⟩
theorem checkTask2_pred : PredI 28 outWeight := fun x w => by
  go_enter Try.func28, Try.ntmps28
  go_wp2_with (go_at_call 29; refine (stack_within _ _ _ _).mono ?_; rintro e w' ⟨rfl, rfl⟩)
  go_ret
  exact ⟨rfl, rfl⟩
/-- The error of a task. -/
noncomputable def taskErr (sc : List Scene) (ps : List SPair) (ph wt : List Int) : Int :=
  if (netErr2 sc ps).2 ≠ 0 then (netErr2 sc ps).2 else if ph.length ≠ ps.length ∨ wt.length ≠ ps.length then 10 else if ph.any outPhase = true then 2 else if wt.any outWeight = true then 2 else 0

/-- A task in memory. -/
structure TaskAt (w : World) (A1 A2 Ah Aw : Option Addr) (sc : List Scene) (ps : List SPair) (ph wt : List Int) : Prop where
  net : NetAt w A1 A2 sc ps
  ph : SliceAt w Ah 1 encI1 ph
  wt : SliceAt w Aw 1 encI1 wt
theorem TaskAt.below {w w' : World} {A1 A2 Ah Aw : Option Addr} {sc : List Scene} {ps : List SPair} {ph wt : List Int} (h : TaskAt w A1 A2 Ah Aw sc ps ph wt) (hb : Below w.heap.size w w') : TaskAt w' A1 A2 Ah Aw sc ps ph wt := ⟨h.net.below hb, h.ph.below hb, h.wt.below hb⟩

set_option maxRecDepth 100000 in
set_option maxHeartbeats 1000000 in
theorem checkTask_any (A1 A2 Ah Aw : Option Addr) (n m p q c1 c2 ch cw : Nat) (sc : List Scene) (ps : List SPair) (ph wt : List Int) (w : World) (hn : sc.length = n) (hm : ps.length = m) (hp : ph.length = p) (hq : wt.length = q) (hnm : n ≤ maxLen) (hnc : n ≤ c1) (hcm : c1 ≤ maxLen) (hmm : m ≤ maxLen) (hpm : p ≤ maxLen) (hqm : q ≤ maxLen) (hF : NamesFit sc) (hT : TaskAt w A1 A2 Ah Aw sc ps ph wt) :
    Calls Try.prog 10 #[.agg #[.slice A1 n c1, .slice A2 m c2, .slice Ah p ch, .slice Aw q cw]] w fun e w' => e = .returned (.int .i64 (taskErr sc ps ph wt)) ∧ Below w.heap.size w w' := by
  have b0 := Blk.new w 45 #[.slice A1 n c1, .slice A2 m c2, .slice Ah p ch, .slice Aw q cw]
  have hB0 : Below w.heap.size w (w.alloc (.cells #[.slice A1 n c1, .slice A2 m c2, .slice Ah p ch, .slice Aw q cw] 45)) := (Below.refl _ _).alloc (by simp) _
  have hz0 : (w.alloc (.cells #[.slice A1 n c1, .slice A2 m c2, .slice Ah p ch, .slice Aw q cw] 45)).heap.size = w.heap.size + 1 := World.size_alloc _ _
  have HC := Lib.hid (netErr_any A1 A2 n m c1 c2 sc ps _ hn hm hnm hnc hcm hmm hF (hT.net.below hB0))
  have HP := Lib.hid (fun W (hW : Below w.heap.size w W) => containsFuncI_any 26 outPhase checkTask1_pred Ah p ch ph W hp hpm (hT.ph.below hW) (fun _ _ => rfl))
  have HQ := Lib.hid (fun W (hW : Below w.heap.size w W) => containsFuncI_any 28 outWeight checkTask2_pred Aw q cw wt W hq hqm (hT.wt.below hW) (fun _ _ => rfl))
  have Hm := Lib.hid hm
  have Hp := Lib.hid hp
  have Hq := Lib.hid hq
  unfold maxLen at hmm hpm hqm
  clear hn hm hp hq hT hF
  go_enter Try.func10, Try.ntmps10
  go_wp2_with fail
  refine HC.out.mono ?_
  rintro e w1 ⟨rfl, hb⟩
  have b1 := b0.below hb b0.lt
  have r0 : w1.cell? ⟨w.heap.size, 0, none⟩ = some (.slice A1 n c1) := b1.cell 0
  have r1 : w1.cell? ⟨w.heap.size, 1, none⟩ = some (.slice A2 m c2) := b1.cell 1
  have r2 : w1.cell? ⟨w.heap.size, 2, none⟩ = some (.slice Ah p ch) := b1.cell 2
  have r3 : w1.cell? ⟨w.heap.size, 3, none⟩ = some (.slice Aw q cw) := b1.cell 3
  have hB := hB0.trans (hb.mono hB0.size)
  have hlt := b1.lt
  clear HC hb hB0 b0 b1 hz0
  have HP1 := HP.out w1 hB
  have HQ1 := HQ.out w1 hB
  obtain ⟨e0, he⟩ : ∃ x, (netErr2 sc ps).2 = x := ⟨_, rfl⟩
  rw [he]
  have HE0 := Lib.hid he
  clear he HP HQ
  by_cases h0 : e0 = 0
  · have h1 : (e0 == 0) = true := by simp [h0]
    have h2 : (e0 != 0) = false := by simp [h0]
    have HZ : Hid (¬ (netErr2 sc ps).2 ≠ 0) := Lib.hid (by rw [HE0.out, h0]; simp)
    clear h0
    by_cases hpe : p = m
    · have g1 : ((p : Int) == (m : Int)) = true := by simp [hpe]
      have g2 : ((p : Int) != (m : Int)) = false := by simp [hpe]
      have HPE := Lib.hid hpe
      clear hpe
      by_cases hqe : q = m
      · have g3 : ((q : Int) == (m : Int)) = true := by simp [hqe]
        have g4 : ((q : Int) != (m : Int)) = false := by simp [hqe]
        have HS : Hid (¬ (ph.length ≠ ps.length ∨ wt.length ≠ ps.length)) := Lib.hid (by rw [Hm.out, Hp.out, Hq.out, HPE.out, hqe]; simp)
        clear hqe
        cases ha : ph.any outPhase with
        | true =>
          rw [ha] at HP1
          have HE : Hid ((2 : Int) = taskErr sc ps ph wt) := Lib.hid (by unfold taskErr; rw [if_neg HZ.out, if_neg HS.out, if_pos ha])
          clear ha
          go_wp2_with fail
          refine HP1.mono ?_
          rintro e w' ⟨rfl, rfl⟩
          go_wp2
          go_ret
          exact ⟨ret_int HE.out, hB⟩
        | false =>
          rw [ha] at HP1
          have HA := Lib.hid ha
          clear ha
          go_wp2_with fail
          refine HP1.mono ?_
          rintro e w' ⟨rfl, rfl⟩
          go_wp2_with fail
          refine HQ1.mono ?_
          rintro e w' ⟨rfl, rfl⟩
          cases hb : wt.any outWeight with
          | true =>
            have HE : Hid ((2 : Int) = taskErr sc ps ph wt) := Lib.hid (by unfold taskErr; rw [if_neg HZ.out, if_neg HS.out, if_neg (by rw [HA.out]; simp), if_pos hb])
            clear hb
            go_wp2
            go_ret
            exact ⟨ret_int HE.out, hB⟩
          | false =>
            have HE : Hid ((0 : Int) = taskErr sc ps ph wt) := Lib.hid (by unfold taskErr; rw [if_neg HZ.out, if_neg HS.out, if_neg (by rw [HA.out]; simp), if_neg (by rw [hb]; simp)])
            clear hb
            go_wp2
            go_ret
            exact ⟨ret_int HE.out, hB⟩
      · have g3 : ((q : Int) == (m : Int)) = false := by simp; omega
        have g4 : ((q : Int) != (m : Int)) = true := by simp; omega
        have HE : Hid ((10 : Int) = taskErr sc ps ph wt) := Lib.hid (by unfold taskErr; rw [if_neg HZ.out, if_pos (by rw [Hm.out, Hp.out, Hq.out]; exact .inr hqe)])
        clear hqe
        go_wp2
        go_ret
        exact ⟨ret_int HE.out, hB⟩
    · have g1 : ((p : Int) == (m : Int)) = false := by simp; omega
      have g2 : ((p : Int) != (m : Int)) = true := by simp; omega
      have HE : Hid ((10 : Int) = taskErr sc ps ph wt) := Lib.hid (by unfold taskErr; rw [if_neg HZ.out, if_pos (by rw [Hm.out, Hp.out, Hq.out]; exact .inl hpe)])
      clear hpe
      go_wp2
      go_ret
      exact ⟨ret_int HE.out, hB⟩
  · have h1 : (e0 == 0) = false := by simp [h0]
    have h2 : (e0 != 0) = true := by simp [h0]
    have HE : Hid (e0 = taskErr sc ps ph wt) := Lib.hid (by unfold taskErr; rw [HE0.out, if_pos h0])
    clear h0
    go_wp2
    go_ret
    exact ⟨ret_int HE.out, hB⟩
/-- A right task. -/
theorem taskErr_zero {sc : List Scene} {ps : List SPair} {ph wt : List Int} (h : taskErr sc ps ph wt = 0) : NetOk sc ps ∧ ph.length = ps.length ∧ wt.length = ps.length := by
  unfold taskErr at h
  by_cases h1 : (netErr2 sc ps).2 ≠ 0
  · rw [if_pos h1] at h; exact absurd h h1
  · rw [if_neg h1] at h
    by_cases h2 : ph.length ≠ ps.length ∨ wt.length ≠ ps.length
    · rw [if_pos h2] at h; exact absurd h (by decide)
    · exact ⟨netOk_of (by omega), by omega, by omega⟩
end Go.Proofs.Ytncmdjhdfhhkjaa
