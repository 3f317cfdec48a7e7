/- The program's check of a series returns 'seriesErr'. -/
import Derived.Test.YtncmdjhdfhhkjaaCheckSer
namespace Go.Proofs.Ytncmdjhdfhhkjaa
open Go.RowKit

set_option maxRecDepth 100000 in
set_option maxHeartbeats 2000000 in
theorem series_CheckSeries (nm : ByteArray) (A : Option Addr) (n c : Nat) (xs : List Epoch) (w : World) (hnm : nm.size ≤ maxLen) (hn : xs.length = n) (hm : n ≤ maxLen) (hS : SliceAt w A 4 Epoch.enc xs) :
    Calls Try.prog 44 #[.agg #[.string nm, .slice A n c]] w fun e w' => e = .returned (.int .i64 (seriesErr nm xs)) ∧ Below w.heap.size w w' := by
  unfold maxLen at hm
  have HN := Lib.hid hn
  by_cases hb : nameB nm = true
  · by_cases h0 : n = 0
    · have he : (10 : Int) = seriesErr nm xs := by unfold seriesErr; rw [if_neg (by simp [hb]), if_pos (by omega)]
      have HE := Lib.hid he
      have h00 : ((n : Int) == 0) = true := by simp [h0]
      clear he hn h0
      go_enter Try.func44, Try.ntmps44
      go_wp2_with (first | (go_at_call 56; refine (series_isName _ _ hnm).mono ?_; rintro e w' ⟨rfl, rfl⟩))
      go_ret
      exact ⟨ret_int HE.out, (Below.refl _ _).alloc (Nat.le_refl _) _⟩
    · have h00 : ((n : Int) == 0) = false := by simp; omega
      by_cases h1 : n ≤ 20
      · clear hn
        go_enter Try.func44, Try.ntmps44
        go_wp2_with (first | (go_at_call 56; refine (series_isName _ _ hnm).mono ?_; rintro e w' ⟨rfl, rfl⟩))
        go_loopw [23] (fun i wr => ∃ k : Nat, k ≤ n ∧ i = .int .i64 k ∧ (∀ j, j < k → epochErr xs j = 0) ∧ Below (w.alloc (.cells #[.string nm, .slice A n c] 24)).heap.size (w.alloc (.cells #[.string nm, .slice A n c] 24)) wr) (fun i _ => n - (intOf i).toNat)
        case atStart => exact ⟨0, by omega, rfl, fun j h => by omega, Below.refl _ _⟩
        case round =>
          obtain ⟨k, hk, rfl, hz, hB⟩ := hrel
          by_cases hlt : k < n
          · obtain ⟨b, off, rfl, hbs, hcell⟩ := hS (by rw [HN.out]; omega)
            have hkx0 : 0 < xs.length := by rw [HN.out]; omega
            have hx20 : xs.length ≤ 20 := by rw [HN.out]; omega
            have hkx : k < xs.length := by rw [HN.out]; exact hlt
            have c0 : w.cell? ⟨b, off + k * 4, none⟩ = some (.int .i64 (nth xs (k)).day) := hcell k hkx 0 _ rfl
            have c1 : w.cell? ⟨b, off + k * 4 + 1, none⟩ = some (.int .i64 (nth xs (k)).base) := hcell k hkx 1 _ rfl
            have c2 : w.cell? ⟨b, off + k * 4 + 2, none⟩ = some (.int .i64 (nth xs (k)).phase) := hcell k hkx 2 _ rfl
            have c3 : w.cell? ⟨b, off + k * 4 + 3, none⟩ = some (.int .i64 (nth xs (k)).margin) := hcell k hkx 3 _ rfl
            have hsz : w.heap.size < wr.heap.size := by have := hB.size; simp at this; omega
            have hbw : b < wr.heap.size := by omega
            obtain ⟨hcw, _⟩ := bcell hB
            have d0 := (cell_before hB hbs).trans c0
            have d1 := (cell_before hB hbs).trans c1
            have d2 := (cell_before hB hbs).trans c2
            have d3 := (cell_before hB hbs).trans c3
            have e1 : wr.cell? ⟨w.heap.size, 1, none⟩ = some (.slice (some ⟨b, off, none⟩) n c) := (hB.cell (p := ⟨w.heap.size, 1, none⟩) (by simp)).trans (by simp)
            clear c0 c1 c2 c3 hcw
            by_cases hr : (withinB (nth xs (k)).day 0 100000 && withinB (nth xs (k)).base (-100) 100 && withinB (nth xs (k)).phase (-16000) 16000 && withinB (nth xs (k)).margin 0 2048) = false
            · have he := epochErr_range hr
              have HE := Lib.hid he
              have hW := below_box hB
              have HR := Lib.hid hr
              clear he hr hcell
              go_wp2_with (first | (go_at_call 57; refine (series_within _ _ _ _).mono ?_; rintro e w' ⟨rfl, rfl⟩) | (go_at_call 48; refine (series_small _ _ _ (by decide) (by decide)).mono ?_; rintro e w' ⟨rfl, rfl⟩))
              all_goals first
                | (refine absurd HR.out (range_contra ?_ ?_ ?_ ?_) <;> assumption)
                | (go_ret; exact ⟨ret_int (seriesErr_hit hb hkx0 hx20 hkx hz HE.out (by decide)), hW.alloc hW.size _⟩)
            · have hr1 : withinB (nth xs k).day 0 100000 = true ∧ withinB (nth xs k).base (-100) 100 = true ∧ withinB (nth xs k).phase (-16000) 16000 = true ∧ withinB (nth xs k).margin 0 2048 = true := by simpa [and_assoc] using hr
              have HR := Lib.hid hr
              obtain ⟨r0, r1, r2, r3⟩ := hr1
              have hd := withinB_true.1 r0
              have hW := below_box hB
              have hn1 : (0 : Int) < (n : Int) := by omega
              rcases Nat.eq_zero_or_pos k with hk0 | hk0
              · obtain rfl : 0 = k := hk0.symm
                simp only [Nat.zero_mul, Nat.add_zero] at d0 d1 d2 d3
                clear hr hcell hk0
                go_wp2_with (first | (go_at_call 57; refine (series_within _ _ _ _).mono ?_; rintro e w' ⟨rfl, rfl⟩) | (go_at_call 48; refine (series_small _ _ _ (by decide) (by decide)).mono ?_; rintro e w' ⟨rfl, rfl⟩))
                go_quiet (fail)
                go_wp2
                go_quiet (fail)
                go_wp2
                go_roundw
                case rel => exact ⟨1, by omega, rfl, zeros_snoc (k := 0) (fun j h => by omega) (epochErr_first HR.out), (by first | exact below_drewN (hB.alloc hB.size _) _ | exact below_drewN (below_drewN (hB.alloc hB.size _) _) _)⟩
                case measure => simp [intOf]; omega
              · obtain ⟨m, rfl⟩ : ∃ m, k = m + 1 := ⟨k - 1, by omega⟩
                have p0 : wr.cell? ⟨b, off + m * 4, none⟩ = some (.int .i64 (nth xs m).day) := (cell_before hB hbs).trans (hcell m (by omega) 0 _ rfl)
                have f0 : wr.cell? ⟨b, off, none⟩ = some (.int .i64 (nth xs 0).day) := (cell_before hB hbs).trans (by have := hcell 0 (by omega) 0 _ rfl; simpa using this)
                have hz0 := epochErr_in (hz 0 (by omega))
                have hm1 : (m : Int) < (n : Int) := by omega
                clear hr hcell hk0
                by_cases hord : (nth xs (m + 1)).day ≤ (nth xs m).day
                · have HE := Lib.hid (epochErr_order HR.out hord)
                  go_wp2_with (first | (go_at_call 57; refine (series_within _ _ _ _).mono ?_; rintro e w' ⟨rfl, rfl⟩) | (go_at_call 48; refine (series_small _ _ _ (by decide) (by decide)).mono ?_; rintro e w' ⟨rfl, rfl⟩))
                  go_quiet (fail)
                  go_wp2
                  go_ret; exact ⟨ret_int (seriesErr_hit hb hkx0 hx20 hkx hz HE.out (by decide)), (by first | exact below_drewN (hW.alloc hW.size _) _ | exact below_drewN (below_drewN (hW.alloc hW.size _) _) _)⟩
                · have hord2 : (nth xs m).day < (nth xs (m + 1)).day := by omega
                  have hww : IntKind.i64.wrap ((nth xs (m + 1)).day - (nth xs 0).day) = (nth xs (m + 1)).day - (nth xs 0).day := IntWalk.i64_in _ (by omega)
                  by_cases hlar : 400 < (nth xs (m + 1)).day - (nth xs 0).day
                  · have HE := Lib.hid (epochErr_large HR.out hord hlar)
                    clear hord
                    go_wp2_with (first | (go_at_call 57; refine (series_within _ _ _ _).mono ?_; rintro e w' ⟨rfl, rfl⟩) | (go_at_call 48; refine (series_small _ _ _ (by decide) (by decide)).mono ?_; rintro e w' ⟨rfl, rfl⟩))
                    go_quiet (fail)
                    go_wp2
                    go_quiet (fail)
                    go_wp2
                    go_ret; exact ⟨ret_int (seriesErr_hit hb hkx0 hx20 hkx hz HE.out (by decide)), (by first | exact below_drewN (hW.alloc hW.size _) _ | exact below_drewN (below_drewN (hW.alloc hW.size _) _) _)⟩
                  · have HE := Lib.hid (epochErr_ok HR.out hord hlar)
                    clear hord
                    go_wp2_with (first | (go_at_call 57; refine (series_within _ _ _ _).mono ?_; rintro e w' ⟨rfl, rfl⟩) | (go_at_call 48; refine (series_small _ _ _ (by decide) (by decide)).mono ?_; rintro e w' ⟨rfl, rfl⟩))
                    go_quiet (fail)
                    go_wp2
                    go_quiet (fail)
                    go_wp2
                    clear hww
                    go_roundw
                    case rel => exact ⟨m + 1 + 1, by omega, by go_num, zeros_snoc hz HE.out, (by first | exact below_drewN (hB.alloc hB.size _) _ | exact below_drewN (below_drewN (hB.alloc hB.size _) _) _)⟩
                    case measure => simp [intOf]; omega
          · have hcw := (bcell hB).1
            go_wp2
            go_ret
            exact ⟨ret_int (seriesErr_ok hb (by rw [HN.out]; omega) (by rw [HN.out]; omega) fun j hj => hz j (by have := HN.out; omega)), below_box hB⟩
      · have he : (8 : Int) = seriesErr nm xs := by unfold seriesErr; rw [if_neg (by simp [hb]), if_neg (by omega), if_pos (by omega)]
        have HE := Lib.hid he
        clear he hn
        go_enter Try.func44, Try.ntmps44
        go_wp2_with (first | (go_at_call 56; refine (series_isName _ _ hnm).mono ?_; rintro e w' ⟨rfl, rfl⟩))
        go_ret
        exact ⟨ret_int HE.out, (Below.refl _ _).alloc (Nat.le_refl _) _⟩
  · have hb' : nameB nm = false := by simpa using hb
    have HE : Hid ((4 : Int) = seriesErr nm xs) := Lib.hid (by unfold seriesErr; rw [if_pos hb'])
    clear hn
    go_enter Try.func44, Try.ntmps44
    go_wp2_with (first | (go_at_call 56; refine (series_isName _ _ hnm).mono ?_; rintro e w' ⟨rfl, rfl⟩))
    go_ret
    exact ⟨ret_int HE.out, (Below.refl _ _).alloc (Nat.le_refl _) _⟩
end Go.Proofs.Ytncmdjhdfhhkjaa
