/- The library's sorts at few elements: what is sorted are the numbers that were there. -/
import Derived.Test.YtncmdjhdfhhkjaaNet
namespace Go.Proofs.Ytncmdjhdfhhkjaa
open Go.RowKit Go.Sort

/-- The same numbers stand in the first n places. -/
def SameSet (n : Nat) (u u' : Nat → Nat) : Prop := ∀ x, (∃ i, i < n ∧ u' i = x) ↔ (∃ i, i < n ∧ u i = x)
theorem SameSet.refl (n : Nat) (u : Nat → Nat) : SameSet n u u := fun _ => Iff.rfl
theorem SameSet.trans {n : Nat} {u v x : Nat → Nat} (h : SameSet n u v) (k : SameSet n v x) : SameSet n u x := fun y => (k y).trans (h y)
def swapU (u : Nat → Nat) (i j k : Nat) : Nat := if k = i then u j else if k = j then u i else u k
theorem SameSet.swap {n i j : Nat} (u : Nat → Nat) (hi : i < n) (hj : j < n) : SameSet n u (swapU u i j) := by
  intro x
  constructor
  · rintro ⟨k, hk, rfl⟩
    unfold swapU
    by_cases h1 : k = i
    · rw [if_pos h1]; exact ⟨j, hj, rfl⟩
    · rw [if_neg h1]
      by_cases h2 : k = j
      · rw [if_pos h2]; exact ⟨i, hi, rfl⟩
      · rw [if_neg h2]; exact ⟨k, hk, rfl⟩
  · rintro ⟨k, hk, rfl⟩
    by_cases h1 : k = i
    · subst h1
      refine ⟨j, hj, ?_⟩
      unfold swapU
      by_cases h2 : j = k
      · rw [if_pos h2, h2]
      · rw [if_neg h2, if_pos rfl]
    · by_cases h2 : k = j
      · subst h2
        exact ⟨i, hi, by unfold swapU; rw [if_pos rfl]⟩
      · exact ⟨k, hk, by unfold swapU; rw [if_neg h1, if_neg h2]⟩
theorem swap_labs {u : Nat → Nat} {n j : Nat} (hj : j + 1 < n) :
    ((flatN (labCell u) n).set (j + 1) (.int .i64 (u j : Int))).set j (.int .i64 (u (j + 1) : Int)) = flatN (labCell (swapU u (j + 1) j)) n := by
  have e1 := labs_set (u := u) (u' := fun k => if k = j + 1 then u j else u k) (k := j + 1) hj (fun i _ hne => by simp [hne])
  simp only [if_true] at e1
  rw [e1]
  have e2 := labs_set (u := fun k => if k = j + 1 then u j else u k) (u' := swapU u (j + 1) j) (k := j) (n := n) (by omega) (fun i _ hne => by
    unfold swapU
    by_cases h : i = j + 1
    · simp [h]
    · simp [h, hne])
  have e3 : swapU u (j + 1) j j = u (j + 1) := by unfold swapU; rw [if_neg (by omega), if_pos rfl]
  rw [e3] at e2
  exact e2

/-- What a sort's callback wants of the world stays true. -/
structure Keeps (Inv : World → Prop) (g : Nat) : Prop where
  below : ∀ W W', Inv W → Below W.heap.size W W' → Inv W'
  store : ∀ W j u, Inv W → Inv (W.setCell ⟨g, j, none⟩ u)

set_option maxRecDepth 100000 in
set_option maxHeartbeats 4000000 in
theorem insertion_any (Inv : World → Prop) (p : Addr) (cf : Nat → Nat → Int) (u : Nat → Nat) (base g n cap : Nat) (w : World) (hn : n ≤ 1000) (hI : Inv w) (hK : Keeps Inv g) (hown : w.ownsRow base 3 1 (.slice (some ⟨g, 0, none⟩) n cap) n (flatN (labCell u) n))
    (hcmp : ∀ W (x y : Nat), Inv W → (∃ i, i < n ∧ u i = x) → (∃ i, i < n ∧ u i = y) → Calls Try.prog 51 #[.int .i64 (x : Int), .int .i64 (y : Int), .pointer (some p)] W fun e w' => e = .returned (.int .i64 (cf x y)) ∧ Below W.heap.size W w') :
    Calls Try.prog 67 #[.slice (some ⟨g, 0, none⟩) n cap, .int .i64 0, .int .i64 (n : Int), .func (.func 51) #[] #[.pointer (some p)]] w fun e w' => e = .returned (.tuple #[]) ∧
      ∃ u', SameSet n u u' ∧ Inv w' ∧ w'.ownsRow base 3 1 (.slice (some ⟨g, 0, none⟩) n cap) n (flatN (labCell u') n) ∧ w.grownBy w' (some g) := by
  have HC := Lib.hid hcmp
  clear hcmp
  go_enter Try.func67, Try.ntmps67
  go_wp2
  go_loopw [8] (fun i wr => ∃ k : Nat, ∃ u' : Nat → Nat, 1 ≤ k ∧ i = .int .i64 k ∧ SameSet n u u' ∧ Inv wr ∧ wr.ownsRow base 3 1 (.slice (some ⟨g, 0, none⟩) n cap) n (flatN (labCell u') n) ∧ w.grownBy wr (some g)) (fun i _ => n - (intOf i).toNat)
  case atStart => exact ⟨1, u, by omega, rfl, SameSet.refl _ _, hI, hown, World.grownBy.refl _ _⟩
  case round =>
    obtain ⟨k, u1, hk, rfl, hss, hIr, ho, hgr⟩ := hrel
    by_cases hlt : k < n
    · go_wp2
      obtain ⟨wo, rfl⟩ : ∃ wo : World, wo = wr := ⟨_, rfl⟩
      go_loopw [9] (fun i wr => ∃ j : Nat, ∃ u' : Nat → Nat, j < n ∧ i = .int .i64 j ∧ SameSet n u u' ∧ Inv wr ∧ wr.ownsRow base 3 1 (.slice (some ⟨g, 0, none⟩) n cap) n (flatN (labCell u') n) ∧ w.grownBy wr (some g)) (fun i _ => (intOf i).toNat)
      case atStart => exact ⟨k, u1, hlt, rfl, hss, hIr, ho, hgr⟩
      case round =>
        obtain ⟨j, u2, hj, rfl, hss2, hI2, ho2, hgr2⟩ := hrel
        rcases Nat.eq_zero_or_pos j with hj0 | hj0
        · obtain rfl : 0 = j := hj0.symm
          clear hj0
          go_wp2
          go_quiet (fail)
          go_wp2
          go_roundw
          case rel => exact ⟨k + 1, u2, by omega, by go_num, hss2, hK.below _ _ hI2 (below_drewN (Below.refl _ _) _), ho2, only_drewN hgr2 _⟩
          case measure => simp [intOf]; omega
        · obtain ⟨i, rfl⟩ : ∃ i, j = i + 1 := ⟨j - 1, by omega⟩
          have hg2 := (ho2.lt g rfl).2
          have c1 : wr.cell? ⟨g, i + 1, none⟩ = some (.int .i64 (u2 (i + 1) : Int)) := (ho2.cellAt _ (by omega)).trans (labs_get hj)
          have c0 : wr.cell? ⟨g, i, none⟩ = some (.int .i64 (u2 i : Int)) := (ho2.cellAt _ (by omega)).trans (labs_get (by omega))
          have z1 := cell_regrown c1
          have z0 := cell_regrown c0
          have m1 := (hss2 (u2 (i + 1))).1 ⟨_, hj, rfl⟩
          have m0 := (hss2 (u2 i)).1 ⟨i, by omega, rfl⟩
          have hcall : ∀ d os, Calls Try.prog 51 #[.int .i64 (u2 (i + 1) : Int), .int .i64 (u2 i : Int), .pointer (some p)] (grow (redrawn wr d) os) fun e w'' => e = .returned (.int .i64 (cf (u2 (i + 1)) (u2 i))) ∧ ∃ p : Regrown, w'' = grow (redrawn wr p.d) p.os :=
            fun d os => Calls.regrown_of (HC.out _ _ _ (hK.below _ _ hI2 (below_regrown wr d os)) m1 m0)
          have HCALL := Lib.hid hcall
          clear hcall
          have i1 : (i : Int) + 1 < (n : Int) := by omega
          have i0 : (i : Int) < (n : Int) := by omega
          have iz : (0 : Int) ≤ (i : Int) := by omega
          have iz1 : (0 : Int) < (i : Int) + 1 := by omega
          go_wp2
          refine wp_region_quiet_below (by kernel_rfl) (by kernel_rfl) ?_
          repeat (go_big_quiet_step (exact HCALL.out _ _))
          refine wpQuiet_nil ?_
          intro V hV
          obtain ⟨⟨d, os⟩, rfl⟩ := hV
          have hb := below_regrown wr d os
          have hI3 := hK.below _ _ hI2 hb
          have ho3 := own_below ho2 hb
          have hgr3 : w.grownBy (grow (redrawn wr d) os) (some g) := hgr2.trans ⟨hb.os, hb.tape, hb.output, hb.size, fun j hj _ => hb.block j hj⟩
          clear z1 z0 m1 m0 HCALL hb c1 c0
          generalize grow (redrawn wr d) os = V at *
          have hg3 := (ho3.lt g rfl).2
          by_cases hc : cf (u2 (i + 1)) (u2 i) < 0
          · have c1 : V.cell? ⟨g, i + 1, none⟩ = some (.int .i64 (u2 (i + 1) : Int)) := (ho3.cellAt _ (by omega)).trans (labs_get hj)
            have c0 : V.cell? ⟨g, i, none⟩ = some (.int .i64 (u2 i : Int)) := (ho3.cellAt _ (by omega)).trans (labs_get (by omega))
            have f1 := ho3.frozenAt (i + 1)
            have f0 := ho3.frozenAt i
            go_wp2
            go_region
            go_wp2
            have s1 := ho3.stored (i + 1) (.int .i64 (u2 i : Int))
            have s2 := s1.1.stored i (.int .i64 (u2 (i + 1) : Int))
            rw [swap_labs hj] at s2
            go_roundw
            case rel => exact ⟨i, swapU u2 (i + 1) i, by omega, rfl, hss2.trans (SameSet.swap u2 hj (by omega)), hK.below _ _ (hK.store _ _ _ (hK.store _ _ _ hI3)) ((Below.refl _ _).drew), s2.1, only_drewN ((hgr3.trans s1.2).trans s2.2) 1⟩
            case measure => simp [intOf]
          · go_wp2
            go_roundw
            case rel => exact ⟨k + 1, u2, by omega, by go_num, hss2, hI3, ho3, hgr3⟩
            case measure => simp [intOf]; omega
    · go_wp2
      go_end0
      exact ⟨rfl, u1, hss, hIr, ho, hgr⟩

set_option maxRecDepth 100000 in
set_option maxHeartbeats 4000000 in
theorem sortStable_any (Inv : World → Prop) (p : Addr) (cf : Nat → Nat → Int) (u : Nat → Nat) (base g n cap : Nat) (w : World) (hn : n < 20) (hI : Inv w) (hK : Keeps Inv g) (hown : w.ownsRow base 3 1 (.slice (some ⟨g, 0, none⟩) n cap) n (flatN (labCell u) n))
    (hcmp : ∀ W (x y : Nat), Inv W → (∃ i, i < n ∧ u i = x) → (∃ i, i < n ∧ u i = y) → Calls Try.prog 51 #[.int .i64 (x : Int), .int .i64 (y : Int), .pointer (some p)] W fun e w' => e = .returned (.int .i64 (cf x y)) ∧ Below W.heap.size W w') :
    Calls Try.prog 50 #[.slice (some ⟨g, 0, none⟩) n cap, .func (.func 51) #[] #[.pointer (some p)]] w fun e w' => e = .returned (.tuple #[]) ∧
      ∃ u', SameSet n u u' ∧ Inv w' ∧ w'.ownsRow base 3 1 (.slice (some ⟨g, 0, none⟩) n cap) n (flatN (labCell u') n) ∧ w.grownBy w' (some g) := by
  have HC := Lib.hid (insertion_any Inv p cf u base g n cap w (by omega) hI hK hown hcmp)
  clear hcmp hI hown
  have inner : Calls Try.prog 62 #[.slice (some ⟨g, 0, none⟩) n cap, .int .i64 (n : Int), .func (.func 51) #[] #[.pointer (some p)]] w fun e w' => e = .returned (.tuple #[]) ∧
      ∃ u', SameSet n u u' ∧ Inv w' ∧ w'.ownsRow base 3 1 (.slice (some ⟨g, 0, none⟩) n cap) n (flatN (labCell u') n) ∧ w.grownBy w' (some g) := by
    have h20 : (n : Int) < 20 := by omega
    go_enter Try.func62, Try.ntmps62
    go_wp2
    refine wp_loop_rounds 1 ?_
    rw [rounds_succ]
    go_wp2_with fail
    refine HC.out.mono ?_
    rintro e w' ⟨rfl, hq⟩
    have HQ := Lib.hid hq
    clear hq
    go_wp2
    refine wp_loop_rounds 1 ?_
    rw [rounds_succ]
    go_wp2
    go_end0
    exact ⟨rfl, HQ.out⟩
  have HI := Lib.hid inner
  clear inner HC
  go_enter Try.func50, Try.ntmps50
  go_wp2_with fail
  refine HI.out.mono ?_
  rintro e w' ⟨rfl, hq⟩
  have HQ := Lib.hid hq
  clear hq
  go_wp2
  go_end0
  exact ⟨rfl, HQ.out⟩
end Go.Proofs.Ytncmdjhdfhhkjaa
