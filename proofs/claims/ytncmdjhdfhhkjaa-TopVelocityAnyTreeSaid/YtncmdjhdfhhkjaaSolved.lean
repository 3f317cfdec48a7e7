/- 'Solved': the phases of the scenes, where the phases of the pairs are differences of a potential. -/
import Derived.Test.YtncmdjhdfhhkjaaMisses
import Derived.Test.YtncmdjhdfhhkjaaTask
namespace Go.Proofs.Ytncmdjhdfhhkjaa
open Go.RowKit Go.Sort

theorem push_ints (pv : Nat → Int) (k : Nat) (u : Int) : flatN (intCell pv) k ++ intCell (fun _ => u) k = flatN (intCell (setF pv k u)) (k + 1) := by
  show _ = flatN (intCell (setF pv k u)) k ++ intCell (setF pv k u) k
  rw [flatN_congr (f := intCell pv) (g := intCell (setF pv k u)) (fun i hi => by unfold intCell; rw [setF_ne _ _ (by omega)])]
  unfold intCell
  rw [setF_same]
theorem push_all {q : Nat → Int → Prop} {pv : Nat → Int} {k : Nat} {u : Int} (h : ∀ i, i < k → q i (pv i)) (hu : q k u) : ∀ i, i < k + 1 → q i (setF pv k u i) := fun i hi => by
  by_cases e : i = k
  · subst e; rw [setF_same]; exact hu
  · rw [setF_ne _ _ e]; exact h i (by omega)
/-- What 'Solved' leaves. -/
def SolvedPost (n d : Nat) (P : Nat → Int) (w : World) (e : Ending) (w' : World) : Prop :=
  ∃ v pv, e = .returned (.tuple #[v, .slice none 0 0, .int .i64 0]) ∧ w'.ownsRow w.heap.size 3 1 v n (flatN (intCell pv) n) ∧ (∀ i, i < n → pv i = P i - P d ∨ pv i = 1000000000000) ∧ Below w.heap.size w w'

set_option maxRecDepth 100000 in
set_option maxHeartbeats 4000000 in
theorem solved_any (A1 A2 Ah Aw : Option Addr) (n m c1 c2 ch cw gh oh d : Nat) (sc : List Scene) (ps : List SPair) (ph wt : List Int) (P : Nat → Int) (w : World) (hn : sc.length = n) (hm : ps.length = m) (hp : ph.length = m) (hq : wt.length = m) (h12 : m ≤ 12) (hd : d < n) (hnc : n ≤ c1) (hcm : c1 ≤ maxLen) (hF : NamesFit sc)
    (hT : TaskAt w A1 A2 Ah Aw sc ps ph wt) (h0 : taskErr sc ps ph wt = 0) (hAh : 0 < m → Ah = some ⟨gh, oh, none⟩ ∧ gh < w.heap.size) (hph : ∀ k, k < m → nth ph k = P (pb ps k) - P (pa ps k)) (hpot : ∀ i, i < n → -100000 ≤ P i ∧ P i ≤ 100000) :
    Calls Try.prog 11 #[.agg #[.slice A1 n c1, .slice A2 m c2, .slice Ah m ch, .slice Aw m cw], .int .i64 (d : Int)] w (SolvedPost n d P w) := by
  obtain ⟨i1, hi1, hz1, hs1, hb1⟩ := info_parts info_int
  obtain ⟨hok, _, _⟩ := taskErr_zero h0
  have hn60 : n ≤ 60 := by have := hok.few; omega
  have hcell : ∀ k, k < m → w.cell? ⟨gh, oh + k, none⟩ = some (.int .i64 (P (pb ps k) - P (pa ps k))) := fun k hk => by
    obtain ⟨b, off, e, hb, hc⟩ := hT.ph (by omega)
    have e2 := (hAh (by omega)).1
    rw [e] at e2
    injection e2 with e2
    injection e2 with e2 e3
    subst e2 e3
    have := hc k (by omega) 0 _ rfl
    rw [Nat.mul_one, Nat.add_zero, hph k hk] at this
    exact this
  have HC := Lib.hid (fun W (hW : Below w.heap.size w W) => h0 ▸ checkTask_any A1 A2 Ah Aw n m m m c1 c2 ch cw sc ps ph wt W hn hm hp hq (by unfold maxLen; omega) hnc hcm (by unfold maxLen; omega) (by unfold maxLen; omega) (by unfold maxLen; omega) hF (hT.below hW))
  have HMI := Lib.hid (fun W (hW : Below w.heap.size w W) => misses_any A1 A2 Ah n m c1 c2 ch gh oh sc ps P W hn hm h12 hok (hT.net.below hW) (fun h => ⟨(hAh h).1, Nat.lt_of_lt_of_le (hAh h).2 hW.size⟩) (fun k hk => (hW.cell (p := ⟨gh, _, none⟩) (hAh (by omega)).2).trans (hcell k hk)) hpot)
  have HSU := Lib.hid (fun W (hW : Below w.heap.size w W) => sums_any A1 A2 Ah n m c1 c2 ch gh oh sc ps P W hn hm h12 hok (hT.net.below hW) (fun h => ⟨(hAh h).1, Nat.lt_of_lt_of_le (hAh h).2 hW.size⟩) (fun k hk => (hW.cell (p := ⟨gh, _, none⟩) (hAh (by omega)).2).trans (hcell k hk)) hpot)
  have HJO := Lib.hid (fun W (hW : Below w.heap.size w W) => joined_any A1 A2 n m c1 c2 (-1) sc ps W hn hm hok (hT.net.below hW))
  have HPOT := Lib.hid hpot
  have HEND := Lib.hid (fun k (hk : k < m) => hok.ends (k := k) (by omega))
  have b0 := Blk.new w 45 #[.slice A1 n c1, .slice A2 m c2, .slice Ah m ch, .slice Aw m cw]
  have hB0 : Below w.heap.size w (w.alloc (.cells #[.slice A1 n c1, .slice A2 m c2, .slice Ah m ch, .slice Aw m cw] 45)) := (Below.refl _ _).alloc (by simp) _
  clear hn hm hp hq hT h0 hok hAh hph hpot hcell hF
  go_enter Try.func11, Try.ntmps11
  go_wp2_with fail
  refine (HC.out _ hB0).mono ?_
  rintro e w1 ⟨rfl, hb1'⟩
  have b1 := b0.below hb1' b0.lt
  have hB1 := hB0.trans (hb1'.mono hB0.size)
  have r0 : w1.cell? ⟨w.heap.size, 0, none⟩ = some (.slice A1 n c1) := b1.cell 0
  have r1 : w1.cell? ⟨w.heap.size, 1, none⟩ = some (.slice A2 m c2) := b1.cell 1
  have r2 : w1.cell? ⟨w.heap.size, 2, none⟩ = some (.slice Ah m ch) := b1.cell 2
  have hlt1 := b1.lt
  have b2 := Blk.new w1 84 #[.slice A1 n c1, .slice A2 m c2]
  have b1' := b1.alloc (.cells #[.slice A1 n c1, .slice A2 m c2] 84)
  have hB2 := hB1.alloc hB1.size (.cells #[.slice A1 n c1, .slice A2 m c2] 84)
  have hw1 : withinB (d : Int) 0 ((n : Int) - 1) = true := withinB_true.2 (by omega)
  have hM := HMI.out _ hB2
  clear hb1' hB0 b0 HC HMI
  go_wp2_with (first | (go_at_call 29; refine (stack_within _ _ _ _).mono ?_; rintro e w' ⟨rfl, rfl⟩) | (go_at_call 30; refine hM.mono ?_; rintro e w3 ⟨v3, rfl, ho3, hb3⟩; obtain ⟨A3, g3, c3, rfl, hA3⟩ := own_slice ho3))
  have b3 := b2.below hb3 b2.lt
  have b4 := b1'.below hb3 b1'.lt
  have hB3 := hB2.trans (hb3.mono hB2.size)
  have hz2 : (w1.alloc (.cells #[.slice A1 n c1, .slice A2 m c2] 84)).heap.size = w1.heap.size + 1 := World.size_alloc _ _
  clear hM b1 b2 b1' hB1 hB2 r0 r1 r2 hb3 hz2
  go_loop [9, 38] (fun o i => ∃ k : Nat, k ≤ m ∧ i = .int .i64 k ∧ o = .slice none 0 0) (fun _ i => m - (intOf i).toNat)
  case atStart => exact ⟨0, by omega, rfl, rfl⟩
  case round =>
    obtain ⟨k, hk, rfl, rfl⟩ := hrel
    by_cases hlt : k < m
    · obtain ⟨rfl, hg3, hg3l⟩ := hA3 (by omega)
      have q : w3.cell? ⟨g3, k, none⟩ = some (.int .i64 0) := (ho3.cellAt k (by omega)).trans (flatN_oneGet (f := intCell fun _ => 0) (u := fun _ => .int .i64 0) (fun _ => rfl) hlt)
      have hki : (k : Int) < (m : Int) := by omega
      go_wp2
      go_round
      case rel => exact ⟨k + 1, by omega, by go_num, rfl⟩
      case measure => simp [intOf]; omega
    · obtain rfl : m = k := by omega
      clear ho3 hA3
      have t0 : w3.cell? ⟨w.heap.size, 2, none⟩ = some (.slice Ah m ch) := b4.cell 2
      have t1 : w3.cell? ⟨w1.heap.size, 0, none⟩ = some (.slice A1 n c1) := b3.cell 0
      have t2 : w3.cell? ⟨w1.heap.size, 1, none⟩ = some (.slice A2 m c2) := b3.cell 1
      have l3 := b3.lt
      have l4 := b4.lt
      go_wp2
      have hS0 : w3.drew.cell? ⟨w.heap.size, 2, none⟩ = some (.slice Ah m ch) ∧ w3.drew.cell? ⟨w1.heap.size, 0, none⟩ = some (.slice A1 n c1) ∧ w3.drew.cell? ⟨w1.heap.size, 1, none⟩ = some (.slice A2 m c2) := ⟨t0, t1, t2⟩
      refine wp_region_any (by kernel_rfl) ?_
      refine any_mid (S := fun w' => w'.cell? ⟨w.heap.size, 2, none⟩ = some (.slice Ah m ch) ∧ w'.cell? ⟨w1.heap.size, 0, none⟩ = some (.slice A1 n c1) ∧ w'.cell? ⟨w1.heap.size, 1, none⟩ = some (.slice A2 m c2))
        6 2 _ _ [0, 1, 2, 4] (by kernel_rfl) (by intro c a w d v h; cases d <;> exact h) (by kernel_rfl) (by kernel_rfl) (by kernel_rfl) (by kernel_rfl) (by kernel_rfl) (by kernel_rfl) hS0 ?_
      iterate 4
        refine wpIf_step (v := ?_) rfl rfl (fun W hS => ?_) ?_
        rotate_left
        · obtain ⟨s0, s1, s2⟩ := hS
          go_simp
          rfl
      refine wpIf_nil ?_
      refine anyHL_all (rs := [3]) (by kernel_rfl) (by decide) (by decide) ?_
      intro i hi
      obtain rfl : i = 3 := by simpa using hi
      refine wpOp_lit rfl rfl ?_
      have hB4 : Below w.heap.size w w3.drew := hB3.drew
      have hSC := HSU.out _ hB4
      go_simp
      refine hSC.mono ?_
      rintro e w5 ⟨g, out, rfl, hou, hdiff, hnear, hB5⟩
      have b5 := b3.drew.below hB5 b3.lt
      have b6 := b4.drew.below hB5 b4.lt
      have hB6 := hB4.trans (hB5.mono hB4.size)
      have hJC := HJO.out _ hB6
      have HDF := Lib.hid hdiff
      have HNR := Lib.hid hnear
      have t3 : w5.cell? ⟨w.heap.size, 2, none⟩ = some (.slice Ah m ch) := b6.cell 2
      have t4 : w5.cell? ⟨w1.heap.size, 0, none⟩ = some (.slice A1 n c1) := b5.cell 0
      have t5 : w5.cell? ⟨w1.heap.size, 1, none⟩ = some (.slice A2 m c2) := b5.cell 1
      clear hSC b3 b4 hB4 hB3 hB5 hdiff hnear t0 t1 t2 hS0
      refine ⟨⟨t3, t4, t5⟩, ?_⟩
      refine anyHL_all (rs := [5]) (by kernel_rfl) (by decide) (by decide) ?_
      intro i hi
      obtain rfl : i = 5 := by simpa using hi
      refine wpOp_lit rfl rfl ?_
      go_simp
      refine hJC.mono ?_
      rintro e w7 ⟨v7, lab, fo, f, rfl, hv7, hU, hfs, hB7⟩
      obtain ⟨A7, g7, c7, rfl, hA7⟩ := own_slice hv7
      obtain ⟨rfl, hg7, hg7l⟩ := hA7 (by omega)
      have b7 := b5.below hB7 b5.lt
      have b8 := b6.below hB7 b6.lt
      have hB8 := hB6.trans (hB7.mono hB6.size)
      have hou7 := own_below hou hB7
      have HU := Lib.hid hU
      have HFS := Lib.hid hfs
      refine ⟨⟨b8.cell 2, b7.cell 0, b7.cell 1⟩, by kernel_rfl, ?_⟩
      try simp only [List.drop_succ_cons, List.drop_zero]
      clear hJC hU hfs hB7 hB6 b5 b6 b7 b8 t3 t4 t5 hA7
      have hgl := hou7.lt g rfl
      have hg7l' := hv7.lt g7 rfl
      have hO0 := own_mono (base' := 0) hou7 (Nat.zero_le _)
      have hL0 := own_mono (base' := 0) hv7 (Nat.zero_le _)
      clear hou hou7 hv7
      go_wp2
      obtain ⟨B3, hB3e⟩ : ∃ B3, w7.heap.size = B3 := ⟨_, rfl⟩
      have hwB3 : w.heap.size ≤ B3 := by have := hB8.size; omega
      go_loopw [14, 62] (fun v i wr => ∃ (k : Nat) (pv : Nat → Int), k ≤ n ∧ i = .int .i64 k ∧ Below w.heap.size w wr ∧ wr.ownsRow 0 3 1 (.slice (some ⟨g, 0, none⟩) n n) n (flatN (intCell out) n) ∧ wr.ownsRow 0 3 1 (.slice (some ⟨g7, 0, none⟩) n c7) n (flatN (labCell lab) n) ∧ B3 ≤ wr.heap.size ∧ wr.ownsRow B3 3 1 v k (flatN (intCell pv) k) ∧ Hid (∀ i, i < k → pv i = P i - P d ∨ pv i = 1000000000000)) (fun _ i _ => n - (intOf i).toNat)
      case atStart => exact ⟨0, fun _ => 0, by omega, rfl, hB8, hO0, hL0, by omega, World.ownsRow_nil _ _ _ _, Lib.hid fun i h => by omega⟩
      clear hO0 hL0 hB8
      case round =>
        rename_i wr _
        obtain ⟨k, pv, hk, rfl, hWB, hWO, hWL, hsz, hWv, hP⟩ := hrel
        by_cases hlt : k < n
        · have q0 : wr.cell? ⟨g, k, none⟩ = some (.int .i64 (out k)) := (hWO.cellAt _ (by omega)).trans (flatN_oneGet (f := intCell out) (fun _ => rfl) hlt)
          have q1 : wr.cell? ⟨g, d, none⟩ = some (.int .i64 (out d)) := (hWO.cellAt _ (by omega)).trans (flatN_oneGet (f := intCell out) (fun _ => rfl) hd)
          have q2 : wr.cell? ⟨g7, k, none⟩ = some (.int .i64 (lab k : Int)) := (hWL.cellAt _ (by omega)).trans (labs_get hlt)
          have q3 : wr.cell? ⟨g7, d, none⟩ = some (.int .i64 (lab d : Int)) := (hWL.cellAt _ (by omega)).trans (labs_get hd)
          have hki : (k : Int) < (n : Int) := by omega
          have hdi : (d : Int) < (n : Int) := by omega
          have hk0 : (0 : Int) ≤ (k : Int) := by omega
          have hd0 : (0 : Int) ≤ (d : Int) := by omega
          by_cases he : lab k = lab d
          · have he1 : ((lab k : Int) == (lab d : Int)) = true := by simp [he]
            have hcd := conn_diff (fun j hj => HDF.out j (by obtain ⟨i, hi, e⟩ := hj; rw [← e]; exact (HFS.out i hi).1)) (HU.out.conn d k hd hlt he.symm)
            have HV : Hid (out k - out d = P k - P d ∨ out k - out d = 1000000000000) := Lib.hid (.inl hcd)
            have x1 := HNR.out k hlt
            have x2 := HNR.out d hd
            obtain ⟨x3, x4⟩ := x1
            obtain ⟨x5, x6⟩ := x2
            clear he hcd
            go_wp2
            go_quiet (fail)
            rename_i nq
            obtain ⟨W, hW⟩ : ∃ W, wr.drewN nq = W := ⟨_, rfl⟩
            rw [hW]
            replace hWB : Below w.heap.size w W := hW ▸ below_drewN hWB _
            replace hWO : W.ownsRow 0 3 1 (.slice (some ⟨g, 0, none⟩) n n) n (flatN (intCell out) n) := hW ▸ hWO
            replace hWL : W.ownsRow 0 3 1 (.slice (some ⟨g7, 0, none⟩) n c7) n (flatN (labCell lab) n) := hW ▸ hWL
            replace hWv := (show (wr.drewN nq).ownsRow B3 3 1 _ k (flatN (intCell pv) k) from hWv)
            rw [hW] at hWv
            replace hsz : B3 ≤ W.heap.size := hW ▸ hsz
            replace q0 : W.cell? ⟨g, k, none⟩ = some (.int .i64 (out k)) := hW ▸ q0
            replace q1 : W.cell? ⟨g, d, none⟩ = some (.int .i64 (out d)) := hW ▸ q1
            clear hW q2 q3
            go_wp2_with (first | (at_builtin; refine wpList_append_lies _ rfl _ _ _ rfl B3 3 i1 _ 1 8 Try.underlying43 hi1 hz1 hs1 hb1 rfl (by omega) _ k _ rfl (hWv.alloc _) ⟨W.heap.size, 0, none⟩ 1 1 (intCell (fun _ => out k - out d) k) rfl rfl ?d1 ?d2 ?d3 ?d4 ?d5 ?d6 _ rfl ?_))
            case d1 => exact World.news_of_block (cs := #[.int .i64 (out k - out d)]) (t := 3) (fr := (0, 0)) (heap_alloc_new W (.cells #[.int .i64 (out k - out d)] 3))
            case d2 => simp [intCell, Value.oneCell']
            case d3 => omega
            case d4 => simp [maxLen]; omega
            case d5 => first | omega | (simp; omega)
            case d6 => first | omega | (simp; omega)
            intro g6 cap6 w6 hf6 hgr6 hat6 hlt6
            rw [push_ints] at hf6
            have hB6 := (hWB.alloc hWB.size (.cells #[.int .i64 (out k - out d)] 3)).grown hgr6 (by simp; have := hWB.size; omega) (fun j e => by have h := (hWv.lt j e).1; omega)
            have hO6 := (hWO.alloc (.cells #[.int .i64 (out k - out d)] 3)).kept hgr6 (.inr (fun e => by have h := (hWv.lt g e.symm).1; omega))
            have hL6 := (hWL.alloc (.cells #[.int .i64 (out k - out d)] 3)).kept hgr6 (.inr (fun e => by have h := (hWv.lt g7 e.symm).1; omega))
            have hsz6 : B3 ≤ w6.heap.size := by have := hgr6.size; simp at this; omega
            clear hWv hWO hWL hWB hgr6
            go_wp2
            go_roundw
            case rel => exact ⟨k + 1, setF pv k (out k - out d), by omega, by go_num, hB6, hO6, hL6, hsz6, hf6, Lib.hid (push_all (q := fun i x => x = P i - P d ∨ x = 1000000000000) hP.out HV.out)⟩
            case measure => simp [intOf]; omega
          · have he1 : ((lab k : Int) == (lab d : Int)) = false := by simp; omega
            clear he
            go_wp2
            go_quiet (fail)
            rename_i nq
            obtain ⟨W, hW⟩ : ∃ W, wr.drewN nq = W := ⟨_, rfl⟩
            rw [hW]
            replace hWB : Below w.heap.size w W := hW ▸ below_drewN hWB _
            replace hWO : W.ownsRow 0 3 1 (.slice (some ⟨g, 0, none⟩) n n) n (flatN (intCell out) n) := hW ▸ hWO
            replace hWL : W.ownsRow 0 3 1 (.slice (some ⟨g7, 0, none⟩) n c7) n (flatN (labCell lab) n) := hW ▸ hWL
            replace hWv := (show (wr.drewN nq).ownsRow B3 3 1 _ k (flatN (intCell pv) k) from hWv)
            rw [hW] at hWv
            replace hsz : B3 ≤ W.heap.size := hW ▸ hsz
            replace q0 : W.cell? ⟨g, k, none⟩ = some (.int .i64 (out k)) := hW ▸ q0
            replace q1 : W.cell? ⟨g, d, none⟩ = some (.int .i64 (out d)) := hW ▸ q1
            clear hW q2 q3
            go_wp2_with (first | (at_builtin; refine wpList_append_lies _ rfl _ _ _ rfl B3 3 i1 _ 1 8 Try.underlying43 hi1 hz1 hs1 hb1 rfl (by omega) _ k _ rfl (hWv.alloc _) ⟨W.heap.size, 0, none⟩ 1 1 (intCell (fun _ => 1000000000000) k) rfl rfl ?f1 ?f2 ?f3 ?f4 ?f5 ?f6 _ rfl ?_))
            case f1 => exact World.news_of_block (cs := #[.int .i64 (1000000000000)]) (t := 3) (fr := (0, 0)) (heap_alloc_new W (.cells #[.int .i64 (1000000000000)] 3))
            case f2 => simp [intCell, Value.oneCell']
            case f3 => omega
            case f4 => simp [maxLen]; omega
            case f5 => first | omega | (simp; omega)
            case f6 => first | omega | (simp; omega)
            intro g6 cap6 w6 hf6 hgr6 hat6 hlt6
            rw [push_ints] at hf6
            have hB6 := (hWB.alloc hWB.size (.cells #[.int .i64 (1000000000000)] 3)).grown hgr6 (by simp; have := hWB.size; omega) (fun j e => by have h := (hWv.lt j e).1; omega)
            have hO6 := (hWO.alloc (.cells #[.int .i64 (1000000000000)] 3)).kept hgr6 (.inr (fun e => by have h := (hWv.lt g e.symm).1; omega))
            have hL6 := (hWL.alloc (.cells #[.int .i64 (1000000000000)] 3)).kept hgr6 (.inr (fun e => by have h := (hWv.lt g7 e.symm).1; omega))
            have hsz6 : B3 ≤ w6.heap.size := by have := hgr6.size; simp at this; omega
            clear hWv hWO hWL hWB hgr6
            go_wp2
            go_roundw
            case rel => exact ⟨k + 1, setF pv k (1000000000000), by omega, by go_num, hB6, hO6, hL6, hsz6, hf6, Lib.hid (push_all (q := fun i x => x = P i - P d ∨ x = 1000000000000) hP.out (.inr rfl))⟩
            case measure => simp [intOf]; omega
        · obtain rfl : n = k := by omega
          go_wp2
          go_ret3
          exact ⟨_, pv, rfl, own_mono hWv (by omega), hP.out, hWB⟩
end Go.Proofs.Ytncmdjhdfhhkjaa
