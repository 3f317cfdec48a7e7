/- The library's sort of numbers at few elements. -/
import Derived.Test.YtncmdjhdfhhkjaaSort
namespace Go.Proofs.Ytncmdjhdfhhkjaa
open Go.RowKit Go.Sort

theorem isNaN_any (x : Int) (w : World) : Calls Try.prog 86 #[.int .i64 x] w fun e w' => e = .returned (.bool false) ∧ w = w' := by
  go_enter Try.func86, Try.ntmps86
  go_wp2
  go_ret
  exact ⟨ret_bool (by simp), rfl⟩
theorem cmpLess_any (x y : Int) (w : World) : Calls Try.prog 75 #[.int .i64 x, .int .i64 y] w fun e w' => e = .returned (.bool (decide (x < y))) ∧ w = w' := by
  go_enter Try.func75, Try.ntmps75
  go_wp2_with (go_at_call 86; refine (isNaN_any _ _).mono ?_; rintro e w' ⟨rfl, rfl⟩)
  go_ret
  exact ⟨rfl, rfl⟩

set_option maxRecDepth 100000 in
set_option maxHeartbeats 4000000 in
theorem insertionO_any (u : Nat → Nat) (base g n cap : Nat) (w : World) (hn : n ≤ 1000) (hown : w.ownsRow base 3 1 (.slice (some ⟨g, 0, none⟩) n cap) n (flatN (labCell u) n)) :
    Calls Try.prog 69 #[.slice (some ⟨g, 0, none⟩) n cap, .int .i64 0, .int .i64 (n : Int)] w fun e w' => e = .returned (.tuple #[]) ∧
      ∃ u', SameSet n u u' ∧ w'.ownsRow base 3 1 (.slice (some ⟨g, 0, none⟩) n cap) n (flatN (labCell u') n) ∧ w.grownBy w' (some g) := by
  go_enter Try.func69, Try.ntmps69
  go_wp2
  go_loopw [6] (fun i wr => ∃ k : Nat, ∃ u' : Nat → Nat, 1 ≤ k ∧ i = .int .i64 k ∧ SameSet n u u' ∧ wr.ownsRow base 3 1 (.slice (some ⟨g, 0, none⟩) n cap) n (flatN (labCell u') n) ∧ w.grownBy wr (some g)) (fun i _ => n - (intOf i).toNat)
  case atStart => exact ⟨1, u, by omega, rfl, SameSet.refl _ _, hown, World.grownBy.refl _ _⟩
  case round =>
    obtain ⟨k, u1, hk, rfl, hss, ho, hgr⟩ := hrel
    by_cases hlt : k < n
    · go_wp2
      obtain ⟨wo, rfl⟩ : ∃ wo : World, wo = wr := ⟨_, rfl⟩
      go_loopw [7] (fun i wr => ∃ j : Nat, ∃ u' : Nat → Nat, j < n ∧ i = .int .i64 j ∧ SameSet n u u' ∧ wr.ownsRow base 3 1 (.slice (some ⟨g, 0, none⟩) n cap) n (flatN (labCell u') n) ∧ w.grownBy wr (some g)) (fun i _ => (intOf i).toNat)
      case atStart => exact ⟨k, u1, hlt, rfl, hss, ho, hgr⟩
      case round =>
        obtain ⟨j, u2, hj, rfl, hss2, ho2, hgr2⟩ := hrel
        rcases Nat.eq_zero_or_pos j with hj0 | hj0
        · obtain rfl : 0 = j := hj0.symm
          clear hj0
          go_wp2
          go_quiet (fail)
          go_wp2
          go_roundw
          case rel => exact ⟨k + 1, u2, by omega, by go_num, hss2, ho2, only_drewN hgr2 _⟩
          case measure => simp [intOf]; omega
        · obtain ⟨i, rfl⟩ : ∃ i, j = i + 1 := ⟨j - 1, by omega⟩
          have hg2 := (ho2.lt g rfl).2
          have c1 : wr.cell? ⟨g, i + 1, none⟩ = some (.int .i64 (u2 (i + 1) : Int)) := (ho2.cellAt _ (by omega)).trans (labs_get hj)
          have c0 : wr.cell? ⟨g, i, none⟩ = some (.int .i64 (u2 i : Int)) := (ho2.cellAt _ (by omega)).trans (labs_get (by omega))
          have z1 := cell_regrown c1
          have z0 := cell_regrown c0
          have hcall : ∀ d os, Calls Try.prog 75 #[.int .i64 (u2 (i + 1) : Int), .int .i64 (u2 i : Int)] (grow (redrawn wr d) os) fun e w'' => e = .returned (.bool (decide ((u2 (i + 1) : Int) < (u2 i : Int)))) ∧ ∃ p : Regrown, w'' = grow (redrawn wr p.d) p.os :=
            fun d os => Calls.regrown_of ((cmpLess_any _ _ _).mono fun e w' ⟨h1, h2⟩ => ⟨h1, h2 ▸ Below.refl _ _⟩)
          have HCALL := Lib.hid hcall
          clear hcall
          have i1 : (i : Int) + 1 < (n : Int) := by omega
          have i0 : (i : Int) < (n : Int) := by omega
          have iz : (0 : Int) ≤ (i : Int) := by omega
          have iz1 : (0 : Int) < (i : Int) + 1 := by omega
          go_wp2
          refine wp_region_quiet_below (by kernel_rfl) (by kernel_rfl) ?_
          repeat (go_big_quiet_step (exact HCALL.out _ _))
          refine wpQuiet_nil ?_
          intro V hV
          obtain ⟨⟨d, os⟩, rfl⟩ := hV
          have hb := below_regrown wr d os
          have ho3 := own_below ho2 hb
          have hgr3 : w.grownBy (grow (redrawn wr d) os) (some g) := hgr2.trans ⟨hb.os, hb.tape, hb.output, hb.size, fun j hj _ => hb.block j hj⟩
          clear z1 z0 HCALL hb c1 c0
          generalize grow (redrawn wr d) os = V at *
          have hg3 := (ho3.lt g rfl).2
          by_cases hc : u2 (i + 1) < u2 i
          · have c1 : V.cell? ⟨g, i + 1, none⟩ = some (.int .i64 (u2 (i + 1) : Int)) := (ho3.cellAt _ (by omega)).trans (labs_get hj)
            have c0 : V.cell? ⟨g, i, none⟩ = some (.int .i64 (u2 i : Int)) := (ho3.cellAt _ (by omega)).trans (labs_get (by omega))
            have f1 := ho3.frozenAt (i + 1)
            have f0 := ho3.frozenAt i
            go_wp2
            go_region
            go_wp2
            have s1 := ho3.stored (i + 1) (.int .i64 (u2 i : Int))
            have s2 := s1.1.stored i (.int .i64 (u2 (i + 1) : Int))
            rw [swap_labs hj] at s2
            go_roundw
            case rel => exact ⟨i, swapU u2 (i + 1) i, by omega, rfl, hss2.trans (SameSet.swap u2 hj (by omega)), s2.1, only_drewN ((hgr3.trans s1.2).trans s2.2) 1⟩
            case measure => simp [intOf]
          · go_wp2
            go_roundw
            case rel => exact ⟨k + 1, u2, by omega, by go_num, hss2, ho3, hgr3⟩
            case measure => simp [intOf]; omega
    · go_wp2
      go_end0
      exact ⟨rfl, u1, hss, ho, hgr⟩


def LenPost (w : World) (e : Ending) (w' : World) : Prop := ∃ r : Int, e = .returned (.int .i64 r) ∧ w = w'
set_option maxRecDepth 100000 in
set_option maxHeartbeats 2000000 in
theorem len64_few (n : Nat) (w : World) (hn : n ≤ 12) : Calls Try.prog 79 #[.int .u64 (n : Int)] w (LenPost w) := by
  rcases (by omega : n = 0 ∨ n = 1 ∨ n = 2 ∨ n = 3 ∨ n = 4 ∨ n = 5 ∨ n = 6 ∨ n = 7 ∨ n = 8 ∨ n = 9 ∨ n = 10 ∨ n = 11 ∨ n = 12) with rfl | rfl | rfl | rfl | rfl | rfl | rfl | rfl | rfl | rfl | rfl | rfl | rfl
  all_goals
    go_enter Try.func79, Try.ntmps79
    go_wp2
    go_ret
    exact ⟨_, rfl, rfl⟩
theorem len_few (n : Nat) (w : World) (hn : n ≤ 12) : Calls Try.prog 65 #[.int .u64 (n : Int)] w (LenPost w) := by
  go_enter Try.func65, Try.ntmps65
  go_wp2_with (go_at_call 79; refine (len64_few n _ hn).mono ?_; rintro e w' ⟨r, rfl, rfl⟩)
  go_ret
  exact ⟨_, rfl, rfl⟩

set_option maxRecDepth 100000 in
set_option maxHeartbeats 4000000 in
theorem pdq_few (u : Nat → Nat) (r : Int) (base g n cap : Nat) (w : World) (hn : n ≤ 12) (hown : w.ownsRow base 3 1 (.slice (some ⟨g, 0, none⟩) n cap) n (flatN (labCell u) n)) :
    Calls Try.prog 64 #[.slice (some ⟨g, 0, none⟩) n cap, .int .i64 0, .int .i64 (n : Int), .int .i64 r] w fun e w' => e = .returned (.tuple #[]) ∧
      ∃ u', SameSet n u u' ∧ w'.ownsRow base 3 1 (.slice (some ⟨g, 0, none⟩) n cap) n (flatN (labCell u') n) ∧ w.grownBy w' (some g) := by
  have HI := Lib.hid (insertionO_any u base g n cap w (by omega) hown)
  have h12 : (n : Int) ≤ 12 := by omega
  clear hown
  go_enter Try.func64, Try.ntmps64
  go_wp2
  refine wp_loop_rounds 1 ?_
  rw [rounds_succ]
  go_wp2_with fail
  refine HI.out.mono ?_
  rintro e w' ⟨rfl, hq⟩
  have HQ := Lib.hid hq
  clear hq
  go_wp2
  refine bodyPost_ret (results_none rfl _ _ _) rfl ?_
  exact ⟨rfl, HQ.out⟩

set_option maxRecDepth 100000 in
theorem sort_few (u : Nat → Nat) (base g n cap : Nat) (w : World) (hn : n ≤ 12) (hown : w.ownsRow base 3 1 (.slice (some ⟨g, 0, none⟩) n cap) n (flatN (labCell u) n)) :
    Calls Try.prog 53 #[.slice (some ⟨g, 0, none⟩) n cap] w fun e w' => e = .returned (.tuple #[]) ∧
      ∃ u', SameSet n u u' ∧ w'.ownsRow base 3 1 (.slice (some ⟨g, 0, none⟩) n cap) n (flatN (labCell u') n) ∧ w.grownBy w' (some g) := by
  have HP := Lib.hid (fun r => pdq_few u r base g n cap w hn hown)
  clear hown
  go_enter Try.func53, Try.ntmps53
  go_wp2_with fail
  refine (len_few n _ hn).mono ?_
  rintro e w' ⟨r, rfl, rfl⟩
  go_wp2_with fail
  refine (HP.out _).mono ?_
  rintro e w' ⟨rfl, hq⟩
  have HQ := Lib.hid hq
  clear hq
  go_wp2
  go_end0
  exact ⟨rfl, HQ.out⟩
end Go.Proofs.Ytncmdjhdfhhkjaa
