/- 'misses': no pair misses where the phases are differences of a potential. -/
import Derived.Test.YtncmdjhdfhhkjaaJoined
namespace Go.Proofs.Ytncmdjhdfhhkjaa
open Go.RowKit Go.Sort

/-- What 'misses' leaves. -/
def MissesPost (m : Nat) (w : World) (e : Ending) (w' : World) : Prop :=
  ∃ v, e = .returned v ∧ w'.ownsRow w.heap.size 3 1 v m (flatN (intCell fun _ => 0) m) ∧ Below w.heap.size w w'

set_option maxRecDepth 100000 in
set_option maxHeartbeats 4000000 in
theorem misses_any (A1 A2 Ah : Option Addr) (n m c1 c2 ch gh oh : Nat) (sc : List Scene) (ps : List SPair) (P : Nat → Int) (w : World) (hn : sc.length = n) (hm : ps.length = m) (h12 : m ≤ 12) (hok : NetOk sc ps) (hN : NetAt w A1 A2 sc ps)
    (hAh : 0 < m → Ah = some ⟨gh, oh, none⟩ ∧ gh < w.heap.size) (hph : ∀ k, k < m → w.cell? ⟨gh, oh + k, none⟩ = some (.int .i64 (P (pb ps k) - P (pa ps k)))) (hpot : ∀ i, i < n → -100000 ≤ P i ∧ P i ≤ 100000) :
    Calls Try.prog 30 #[.agg #[.slice A1 n c1, .slice A2 m c2], .slice Ah m ch] w (MissesPost m w) := by
  obtain ⟨i1, hi1, hz1, hs1, hb1⟩ := info_parts info_int
  have hends : ∀ k, k < m → pa ps k < n ∧ pb ps k < n ∧ (nth ps k).first = (pa ps k : Int) ∧ (nth ps k).second = (pb ps k : Int) := fun k hk => by have := hok.ends (k := k) (by omega); omega
  have hB0 : Below w.heap.size w (w.alloc (.cells #[.slice A1 n c1, .slice A2 m c2] 84)) := (Below.refl _ _).alloc (by simp) _
  have HS := Lib.hid (sums_any A1 A2 Ah n m c1 c2 ch gh oh sc ps P _ hn hm h12 hok (hN.below hB0) (fun h => ⟨(hAh h).1, Nat.lt_of_lt_of_le (hAh h).2 hB0.size⟩) (fun k hk => (hB0.cell (p := ⟨gh, _, none⟩) (hAh (by omega)).2).trans (hph k hk)) hpot)
  have hn60 : n ≤ 60 := by have := hok.few; omega
  have HEND := Lib.hid hends
  have HPS := Lib.hid hN.pairs
  have HN := Lib.hid hm
  have HAH := Lib.hid hAh
  have HPH := Lib.hid hph
  have HPOT := Lib.hid hpot
  clear hn hm hok hN hends hAh hph hpot
  have b0 := Blk.new w 84 #[.slice A1 n c1, .slice A2 m c2]
  have hz0 : (w.alloc (.cells #[.slice A1 n c1, .slice A2 m c2] 84)).heap.size = w.heap.size + 1 := World.size_alloc _ _
  go_enter Try.func30, Try.ntmps30
  go_wp2_with fail
  refine HS.out.mono ?_
  rintro e w2 ⟨g, out, rfl, hou, hdiff, hnear, hB2⟩
  have b2 := b0.below hB2 b0.lt
  have r1 : w2.cell? ⟨w.heap.size, 1, none⟩ = some (.slice A2 m c2) := b2.cell 1
  have hB3 := hB0.trans (hB2.mono (by omega))
  have hz2 := b2.lt
  have hgl := (hou.lt g rfl)
  rw [hz0] at hgl
  have HD := Lib.hid hdiff
  have HNR := Lib.hid hnear
  clear b0 hB0 hB2 hz0 HS hdiff hnear
  go_wp2
  obtain ⟨B3, hB3e⟩ : ∃ B3, w2.heap.size = B3 := ⟨_, rfl⟩
  go_loopw [6, 16] (fun v i wr => ∃ k : Nat, k ≤ m ∧ i = .int .i64 k ∧ Below w.heap.size w wr ∧ wr.ownsRow 0 3 1 (.slice (some ⟨g, 0, none⟩) n n) n (flatN (intCell out) n) ∧ B3 ≤ wr.heap.size ∧ wr.ownsRow B3 3 1 v k (flatN (intCell fun _ => 0) k)) (fun _ i _ => m - (intOf i).toNat)
  case atStart => exact ⟨0, by omega, rfl, hB3, own_mono hou (by omega), by omega, World.ownsRow_nil _ _ _ _⟩
  case round =>
    obtain ⟨k, hk, rfl, hB, hO, hsz, hv⟩ := hrel
    by_cases hlt : k < m
    · obtain ⟨he1, he2, he3, he4⟩ := HEND.out _ hlt
      obtain ⟨g2, o2, rfl, hg2, hc2⟩ := HPS.out (by rw [HN.out]; omega)
      obtain ⟨rfl, hghl⟩ := HAH.out (by omega)
      have p0 : wr.cell? ⟨g2, o2 + k * 2, none⟩ = some (.int .i64 (pa ps k : Int)) := (hB.cell (p := ⟨g2, _, none⟩) hg2).trans (by rw [← he3]; exact hc2 k (by rw [HN.out]; exact hlt) 0 _ rfl)
      have p1 : wr.cell? ⟨g2, o2 + k * 2 + 1, none⟩ = some (.int .i64 (pb ps k : Int)) := (hB.cell (p := ⟨g2, _, none⟩) hg2).trans (by rw [← he4]; exact hc2 k (by rw [HN.out]; exact hlt) 1 _ rfl)
      have p2 : wr.cell? ⟨gh, oh + k, none⟩ = some (.int .i64 (P (pb ps k) - P (pa ps k))) := (hB.cell (p := ⟨gh, _, none⟩) hghl).trans (HPH.out k hlt)
      have p3 : wr.cell? ⟨g, pa ps k, none⟩ = some (.int .i64 (out (pa ps k))) := (hO.cellAt _ (by omega)).trans (flatN_oneGet (f := intCell out) (fun _ => rfl) he1)
      have p4 : wr.cell? ⟨g, pb ps k, none⟩ = some (.int .i64 (out (pb ps k))) := (hO.cellAt _ (by omega)).trans (flatN_oneGet (f := intCell out) (fun _ => rfl) he2)
      have q1 := HD.out k hlt
      have q2 := HNR.out _ he1
      have q3 := HNR.out _ he2
      have q4 := HPOT.out _ he1
      have q5 := HPOT.out _ he2
      have hsum : IntKind.i64.wrap (IntKind.i64.wrap (P (pb ps k) - P (pa ps k) - out (pb ps k)) + out (pa ps k)) = 0 := by
        rw [show IntKind.i64.wrap (P (pb ps k) - P (pa ps k) - out (pb ps k)) = P (pb ps k) - P (pa ps k) - out (pb ps k) from IntWalk.i64_in _ (by omega)]
        exact (IntWalk.i64_in _ (by omega)).trans (by omega)
      have HSUM := Lib.hid hsum
      clear he3 he4 hc2 q1 q2 q3 q4 q5 hsum
      have hki : (k : Int) < (m : Int) := by omega
      have hk0 : (0 : Int) ≤ (k : Int) := by omega
      have hg2w : g2 < wr.heap.size := Nat.lt_of_lt_of_le hg2 hB.size
      have hghw : gh < wr.heap.size := Nat.lt_of_lt_of_le hghl hB.size
      have hgw : g < wr.heap.size := (hO.lt g rfl).2
      generalize pa ps k = a at *
      generalize pb ps k = b at *
      have hai : (a : Int) < (n : Int) := by omega
      have hbi : (b : Int) < (n : Int) := by omega
      have ha0 : (0 : Int) ≤ (a : Int) := by omega
      have hb0 : (0 : Int) ≤ (b : Int) := by omega
      have b1 := Blk.new wr 79 #[.int .i64 (a : Int), .int .i64 (b : Int)]
      have hB4 := hB.alloc hB.size (.cells #[.int .i64 (a : Int), .int .i64 (b : Int)] 79)
      have hO4 := hO.alloc (.cells #[.int .i64 (a : Int), .int .i64 (b : Int)] 79)
      have hv4 := hv.alloc (.cells #[.int .i64 (a : Int), .int .i64 (b : Int)] 79)
      have hsz4 : B3 ≤ (wr.alloc (.cells #[.int .i64 (a : Int), .int .i64 (b : Int)] 79)).heap.size := by rw [World.size_alloc]; omega
      go_wp2
      obtain ⟨X, hX⟩ : ∃ X, wr.heap.size = X := ⟨_, rfl⟩
      rw [hX] at b1 ⊢
      obtain ⟨V, hV⟩ : ∃ V, wr.alloc (.cells #[.int .i64 (a : Int), .int .i64 (b : Int)] 79) = V := ⟨_, rfl⟩
      have s2 : V.cell? ⟨gh, oh + k, none⟩ = some (.int .i64 (P b - P a)) := by rw [← hV]; exact (World.cell?_alloc_lt _ _ _ hghw).trans p2
      have s3 : V.cell? ⟨g, a, none⟩ = some (.int .i64 (out a)) := by rw [← hV]; exact (World.cell?_alloc_lt _ _ _ hgw).trans p3
      have s4 : V.cell? ⟨g, b, none⟩ = some (.int .i64 (out b)) := by rw [← hV]; exact (World.cell?_alloc_lt _ _ _ hgw).trans p4
      rw [hV] at b1 hB4 hO4 hv4 hsz4 ⊢
      have hXV := b1.lt
      have hgV : g < V.heap.size := (hO4.lt g rfl).2
      have hghV : gh < V.heap.size := by have := hB4.size; omega
      have hX2 : w.heap.size ≤ X := by have := hB.size; omega
      clear hV hX p0 p1 p2 p3 p4 hB hO hv hsz hg2w hghw hgw
      have hS0 : V.drew.cell? ⟨X, 0, none⟩ = some (.int .i64 (a : Int)) ∧ V.drew.cell? ⟨X, 1, none⟩ = some (.int .i64 (b : Int)) ∧ V.drew.cell? ⟨gh, oh + k, none⟩ = some (.int .i64 (P b - P a)) ∧ V.drew.cell? ⟨g, a, none⟩ = some (.int .i64 (out a)) ∧ V.drew.cell? ⟨g, b, none⟩ = some (.int .i64 (out b)) :=
        ⟨b1.cell 0, b1.cell 1, s2, s3, s4⟩
      refine wp_region_any (by kernel_rfl) ?_
      refine any_mid (S := fun w' => w'.cell? ⟨X, 0, none⟩ = some (.int .i64 (a : Int)) ∧ w'.cell? ⟨X, 1, none⟩ = some (.int .i64 (b : Int)) ∧ w'.cell? ⟨gh, oh + k, none⟩ = some (.int .i64 (P b - P a)) ∧ w'.cell? ⟨g, a, none⟩ = some (.int .i64 (out a)) ∧ w'.cell? ⟨g, b, none⟩ = some (.int .i64 (out b)))
        18 1 _ _ [0, 1, 2, 3, 4, 5, 6, 7, 8, 9, 10, 11, 12, 13, 14, 15, 16] (by kernel_rfl) (by intro c a w d v h; cases d <;> exact h) (by kernel_rfl) (by kernel_rfl) (by kernel_rfl) (by kernel_rfl) (by kernel_rfl) (by kernel_rfl) hS0 ?_
      iterate 17
        refine wpIf_step (v := ?_) rfl rfl (fun W hS => ?_) ?_
        rotate_left
        · obtain ⟨s0, s1, s2, s3, s4⟩ := hS
          go_simp
          rfl
      refine wpIf_nil ?_
      obtain ⟨s0, s1, s2, s3, s4⟩ := hS0
      refine anyHL_all (rs := [17]) (by kernel_rfl) (by decide) (by decide) ?_
      intro i hi
      obtain rfl : i = 17 := by simpa using hi
      refine wpOp_lit rfl rfl ?_
      go_simp
      refine ⟨?q, by kernel_rfl, ?_⟩
      case q => exact ⟨s0, s1⟩
      rw [HSUM.out]
      clear s0 s1 s2 s3 s4 b1
      have hv5 := hv4.alloc (.cells #[.int .i64 0] 3)
      have hO5 := hO4.alloc (.cells #[.int .i64 0] 3)
      have hB5 := hB4.alloc hB4.size (.cells #[.int .i64 0] 3)
      go_wp2_with (first | (at_builtin; refine wpList_append_lies _ rfl _ _ _ rfl B3 3 i1 _ 1 8 Try.underlying43 hi1 hz1 hs1 hb1 rfl (by omega) _ k _ rfl hv5.drew ⟨V.heap.size, 0, none⟩ 1 1 (intCell (fun _ => 0) k) rfl rfl ?c1 ?c2 ?c3 ?c4 ?c5 ?c6 _ rfl ?_))
      case c1 => exact World.news_of_block (cs := #[.int .i64 0]) (t := 3) (fr := (0, 0)) (heap_alloc_new V (.cells #[.int .i64 0] 3))
      case c2 => simp [intCell, Value.oneCell']
      case c3 => omega
      case c4 => simp [maxLen]; omega
      case c5 => first | omega | (simp; omega)
      case c6 => first | omega | (simp; omega)
      intro g6 cap6 w6 hf6 hgr6 hat6 hlt6
      have hB6 := hB5.drew.grown hgr6 (by simp; have := hB4.size; omega) (fun j e => by have h := (hv5.lt j e).1; omega)
      have hO6 := hO5.drew.kept hgr6 (.inr (fun e => by have h := (hv5.lt g e.symm).1; omega))
      have hsz6 : B3 ≤ w6.heap.size := by have := hgr6.size; simp at this; omega
      clear hv4 hv5 hO4 hO5 hB4 hB5 hgr6
      go_wp2
      go_roundw
      case rel => exact ⟨k + 1, by omega, by go_num, hB6, hO6, hsz6, hf6⟩
      case measure => simp [intOf]; omega
    · obtain rfl : m = k := by omega
      go_wp2
      go_ret
      exact ⟨_, rfl, own_mono hv (by omega), hB⟩
end Go.Proofs.Ytncmdjhdfhhkjaa
