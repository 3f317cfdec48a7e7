/- checkScenes returns the number and the error of the first wrong scene. -/
import Derived.Test.YtncmdjhdfhhkjaaScenes
namespace Go.Proofs.Ytncmdjhdfhhkjaa
open Go.RowKit Go.Sort

theorem scenesErr_hit {sc : List Scene} {k : Nat} {e : Int} (h60 : sc.length ≤ 60) (hk : k < sc.length) (hz : ∀ j, j < k → sceneErr sc j = 0) (he : sceneErr sc k = e) (hne : e ≠ 0) : ((k : Int), e) = (((scenesErr sc).1 : Int), (scenesErr sc).2) := by
  unfold scenesErr
  rw [if_neg (by omega), firstBad_hit hz (by rw [he]; exact hne) hk, he]
theorem scenesErr_ok {sc : List Scene} (h60 : sc.length ≤ 60) (hz : ∀ j, j < sc.length → sceneErr sc j = 0) : ((0 : Int), (0 : Int)) = (((scenesErr sc).1 : Int), (scenesErr sc).2) := by
  unfold scenesErr
  rw [if_neg (by omega), firstBad_zero hz]; rfl
theorem ret_two {a b c d : Int} (h : (a, b) = (c, d)) : Ending.returned (.tuple #[.int .i64 a, .int .i64 b]) = .returned (.tuple #[.int .i64 c, .int .i64 d]) := by injection h with h1 h2; rw [h1, h2]

set_option maxRecDepth 100000 in
set_option maxHeartbeats 2000000 in
theorem checkScenes_any (A : Option Addr) (n c : Nat) (sc : List Scene) (w : World) (hn : sc.length = n) (hm : n ≤ maxLen) (hnc : n ≤ c) (hcm : c ≤ maxLen) (hF : NamesFit sc) (hS : SliceAt w A 3 Scene.enc sc) :
    Calls Try.prog 49 #[.slice A n c] w fun e w' => e = .returned (.tuple #[.int .i64 ((scenesErr sc).1 : Int), .int .i64 (scenesErr sc).2]) ∧ Below w.heap.size w w' := by
  unfold maxLen at hm hcm
  have HN := Lib.hid hn
  have HS := Lib.hid hS
  have HF := Lib.hid hF
  clear hS hF
  by_cases h60 : 60 < n
  · have HE : Hid (((0 : Int), (8 : Int)) = (((scenesErr sc).1 : Int), (scenesErr sc).2)) := Lib.hid (by unfold scenesErr; rw [if_pos (by omega)]; rfl)
    clear hn
    go_enter Try.func49, Try.ntmps49
    go_wp2
    go_ret2
    exact ⟨ret_two HE.out, Below.refl _ _⟩
  · have h60' : n ≤ 60 := by omega
    clear hn h60
    go_enter Try.func49, Try.ntmps49
    go_wp2
    go_loopw [11] (fun i wr => ∃ k : Nat, k ≤ n ∧ i = .int .i64 k ∧ Hid (∀ j, j < k → sceneErr sc j = 0) ∧ Below w.heap.size w wr) (fun i _ => n - (intOf i).toNat)
    case atStart => exact ⟨0, by omega, rfl, Lib.hid fun j h => by omega, Below.refl _ _⟩
    case round =>
      obtain ⟨k, hk, rfl, hz, hB⟩ := hrel
      by_cases hlt : k < n
      · obtain ⟨b, off, rfl, hbs, hcell⟩ := HS.out (by rw [HN.out]; omega)
        have hkx : k < sc.length := by rw [HN.out]; exact hlt
        have c0 : wr.cell? ⟨b, off + k * 3, none⟩ = some (.string (nth sc k).name) := (hB.cell (p := ⟨b, _, none⟩) hbs).trans (hcell k hkx 0 _ rfl)
        have c1 : wr.cell? ⟨b, off + k * 3 + 1, none⟩ = some (.int .i64 (nth sc k).day) := (hB.cell (p := ⟨b, _, none⟩) hbs).trans (hcell k hkx 1 _ rfl)
        have c2 : wr.cell? ⟨b, off + k * 3 + 2, none⟩ = some (.int .i64 (nth sc k).base) := (hB.cell (p := ⟨b, _, none⟩) hbs).trans (hcell k hkx 2 _ rfl)
        have hki : (k : Int) < (n : Int) := by omega
        have hsz := hB.size
        have b1 := Blk.new wr 76 #[.string (nth sc k).name, .int .i64 (nth sc k).day, .int .i64 (nth sc k).base]
        have hB1 := hB.alloc hB.size (.cells #[.string (nth sc k).name, .int .i64 (nth sc k).day, .int .i64 (nth sc k).base] 76)
        have HFk := HF.out k hkx
        have hk60 : k ≤ 1000 := by omega
        have hkc : (k : Int) ≤ (c : Int) := by omega
        have hkc' : k ≤ c := by omega
        have HSS : ∀ V, Below w.heap.size w V → Blk V wr.heap.size 76 #[.string (nth sc k).name, .int .i64 (nth sc k).day, .int .i64 (nth sc k).base] → Calls Try.prog 60 #[.slice (some ⟨b, off, none⟩) k c, .func (.func 61) #[] #[.pointer (some ⟨wr.heap.size, 0, none⟩)]] V fun e w' => e = .returned (.bool (nameAhead sc k)) ∧ Below V.heap.size V w' :=
          fun V hV hb => containsFuncS_any _ k c wr.heap.size sc (nth sc k) V (by omega) hk60 (HS.out.below hV) hb
        have HC := Lib.hid HSS
        clear HSS hcell
        cases hnm : nameB (nth sc k).name with
        | false =>
          have HE := Lib.hid (show sceneErr sc k = 4 by unfold sceneErr; rw [if_pos hnm])
          go_wp2_with fail
          refine (stack_isName _ _ HFk).mono ?_
          rw [hnm]
          rintro e w2 ⟨rfl, hb2⟩
          have hB2 := hB1.trans (hb2.mono hB1.size)
          clear hb2 hB hB1 b1
          go_wp2
          go_ret2
          exact ⟨ret_two (scenesErr_hit (by rw [HN.out]; omega) hkx hz.out HE.out (by decide)), hB2⟩
        | true =>
          go_wp2_with fail
          refine (stack_isName _ _ HFk).mono ?_
          rw [hnm]
          rintro e w2 ⟨rfl, hb2⟩
          have hB2 := hB1.trans (hb2.mono hB1.size)
          have b2 := b1.below hb2 b1.lt
          have hb2s := hb2.size
          clear hb2 hB hB1 b1 c0 c1 c2
          have HC2 := HC.out w2 hB2 b2
          cases hna : nameAhead sc k with
          | true =>
            have HE := Lib.hid (show sceneErr sc k = 5 by unfold sceneErr; rw [if_neg (by simp [hnm]), if_pos hna])
            rw [hna] at HC2
            clear hnm hna
            go_wp2_with fail
            refine HC2.mono ?_
            rintro e w3 ⟨rfl, hb3⟩
            have hB3 := hB2.trans (hb3.mono hB2.size)
            clear hb3 hB2 HC2
            go_wp2
            go_ret2
            exact ⟨ret_two (scenesErr_hit (by rw [HN.out]; omega) hkx hz.out HE.out (by decide)), hB3⟩
          | false =>
            rw [hna] at HC2
            have HNM := Lib.hid hnm
            have HNA := Lib.hid hna
            clear hnm hna
            go_wp2_with fail
            refine HC2.mono ?_
            rintro e w3 ⟨rfl, hb3⟩
            have hB3 := hB2.trans (hb3.mono hB2.size)
            have b3 := b2.below hb3 b2.lt
            have d1 : w3.cell? ⟨wr.heap.size, 1, none⟩ = some (.int .i64 (nth sc k).day) := b3.cell 1
            have d2 : w3.cell? ⟨wr.heap.size, 2, none⟩ = some (.int .i64 (nth sc k).base) := b3.cell 2
            clear hb3 hB2 HC2 b2
            cases h1 : withinB (nth sc k).day 0 100000 with
            | false =>
              have HE := Lib.hid (show sceneErr sc k = 2 by unfold sceneErr; rw [if_neg (by simp [HNM.out]), if_neg (by simp [HNA.out]), if_pos (by simp [h1])])
              go_wp2_with (first | (go_at_call 29; refine (stack_within _ _ _ _).mono ?_; rintro e w' ⟨rfl, rfl⟩) | (go_at_call 27; refine (stack_small _ _ _ (by omega) (by omega)).mono ?_; rintro e w' ⟨rfl, rfl⟩))
              go_ret2
              exact ⟨ret_two (scenesErr_hit (by rw [HN.out]; omega) hkx hz.out HE.out (by decide)), hB3⟩
            | true =>
              cases h2 : withinB (nth sc k).base (-100000) 100000 with
              | false =>
                have HE := Lib.hid (show sceneErr sc k = 2 by unfold sceneErr; rw [if_neg (by simp [HNM.out]), if_neg (by simp [HNA.out]), if_pos (by simp [h2])])
                go_wp2_with (first | (go_at_call 29; refine (stack_within _ _ _ _).mono ?_; rintro e w' ⟨rfl, rfl⟩) | (go_at_call 27; refine (stack_small _ _ _ (by omega) (by omega)).mono ?_; rintro e w' ⟨rfl, rfl⟩))
                go_ret2
                exact ⟨ret_two (scenesErr_hit (by rw [HN.out]; omega) hkx hz.out HE.out (by decide)), hB3⟩
              | true =>
                have HE := Lib.hid (show sceneErr sc k = 0 by unfold sceneErr; rw [if_neg (by simp [HNM.out]), if_neg (by simp [HNA.out]), if_neg (by simp [h1, h2])])
                go_wp2_with (first | (go_at_call 29; refine (stack_within _ _ _ _).mono ?_; rintro e w' ⟨rfl, rfl⟩) | (go_at_call 27; refine (stack_small _ _ _ (by omega) (by omega)).mono ?_; rintro e w' ⟨rfl, rfl⟩))
                go_roundw
                case rel => exact ⟨k + 1, by omega, by go_num, Lib.hid (zeros_snoc hz.out HE.out), hB3⟩
                case measure => simp [intOf]; omega
      · go_wp2
        go_ret2
        exact ⟨ret_two (scenesErr_ok (by rw [HN.out]; omega) fun j hj => hz.out j (by have := HN.out; omega)), hB⟩
end Go.Proofs.Ytncmdjhdfhhkjaa
