/- 'joined': the scenes joined by all pairs but one. -/
import Derived.Test.YtncmdjhdfhhkjaaSums
namespace Go.Proofs.Ytncmdjhdfhhkjaa
open Go.RowKit Go.Sort

/-- What 'joined' leaves. -/
def JoinedPost (ps : List SPair) (n m : Nat) (wo : Int) (w : World) (e : Ending) (w' : World) : Prop :=
  ∃ v lab fo f, e = .returned v ∧ w'.ownsRow w.heap.size 3 1 v n (flatN (labCell lab) n) ∧ UnionOk ps n lab fo f (fun k => k < m ∧ (k : Int) ≠ wo) ∧ (∀ i, i < f → fo i < m ∧ (fo i : Int) ≠ wo) ∧ Below w.heap.size w w'
theorem UnionOk.weak {ps : List SPair} {n f : Nat} {lab fo : Nat → Nat} {done done' : Nat → Prop} (h : UnionOk ps n lab fo f done) (hd : ∀ k, done' k → done k) : UnionOk ps n lab fo f done' := ⟨h.conn, fun k hk => h.same k (hd k hk), h.low⟩
theorem UnionOk.or {ps : List SPair} {n f : Nat} {lab fo : Nat → Nat} {done : Nat → Prop} {k : Nat} (hs : lab (pa ps k) = lab (pb ps k) ∨ lab (pa ps k) ≠ lab (pb ps k)) (h : UnionOk ps n lab fo f done) (hp : pa ps k < n) (hq : pb ps k < n) :
    ∃ fo' f', UnionOk ps n (joinU lab (pa ps k) (pb ps k)) fo' f' (fun j => done j ∨ j = k) ∧ ∀ i, i < f' → (∃ j, j < f ∧ fo j = fo' i) ∨ fo' i = k := by
  rcases hs with hs | hs
  · exact ⟨fo, f, h.skip hp hq hs, fun i hi => .inl ⟨i, hi, rfl⟩⟩
  · exact ⟨pushL fo f k, f + 1, h.push hp hq, fun i hi => (pushL_in.1 ⟨i, hi, rfl⟩)⟩

set_option maxRecDepth 100000 in
set_option maxHeartbeats 4000000 in
theorem joined_any (A1 A2 : Option Addr) (n m c1 c2 : Nat) (wo : Int) (sc : List Scene) (ps : List SPair) (w : World) (hn : sc.length = n) (hm : ps.length = m) (hok : NetOk sc ps) (hN : NetAt w A1 A2 sc ps) :
    Calls Try.prog 32 #[.agg #[.slice A1 n c1, .slice A2 m c2], .int .i64 wo] w (JoinedPost ps n m wo w) := by
  have hends : ∀ k, k < m → pa ps k < n ∧ pb ps k < n ∧ (nth ps k).first = (pa ps k : Int) ∧ (nth ps k).second = (pb ps k : Int) := fun k hk => by have := hok.ends (k := k) (by omega); omega
  have hn60 : n ≤ 60 := by have := hok.few; omega
  have hm200 : m ≤ 200 := by have := hok.fewP; omega
  have HEND := Lib.hid hends
  have HPS := Lib.hid hN.pairs
  have HN := Lib.hid hm
  clear hn hm hok hN hends
  go_enter Try.func32, Try.ntmps32
  go_wp2_with fail
  have b0 := Blk.new w 84 #[.slice A1 n c1, .slice A2 m c2]
  have hB0 : Below w.heap.size w (w.alloc (.cells #[.slice A1 n c1, .slice A2 m c2] 84)) := (Below.refl _ _).alloc (by simp) _
  have hz0 : (w.alloc (.cells #[.slice A1 n c1, .slice A2 m c2] 84)).heap.size = w.heap.size + 1 := World.size_alloc _ _
  generalize (w.alloc (.cells #[.slice A1 n c1, .slice A2 m c2] 84)) = W at *
  refine (newUnion_any n _ (by omega)).mono ?_
  rintro e w2 ⟨vu, rfl, hou, hB2⟩
  obtain ⟨Au, gu, capu, rfl, hAu⟩ := own_slice hou
  have b2 := b0.below hB2 b0.lt
  have r1 : w2.cell? ⟨w.heap.size, 1, none⟩ = some (.slice A2 m c2) := b2.cell 1
  have hB3 := hB0.trans (hB2.mono (by omega))
  have hz2 := b2.lt
  have HAu := Lib.hid hAu
  have HZ := Lib.hid hz0
  clear hAu b0 hB0 hB2 hz0
  go_wp2
  go_loopw [17] (fun i wr => ∃ (t f : Nat) (lab fo : Nat → Nat), t ≤ m ∧ i = .int .i64 t ∧ Below w.heap.size w wr ∧ wr.ownsRow W.heap.size 3 1 (.slice Au n capu) n (flatN (labCell lab) n) ∧ Hid (UnionOk ps n lab fo f (fun k => k < t ∧ (k : Int) ≠ wo)) ∧ Hid (∀ i, i < f → fo i < m ∧ (fo i : Int) ≠ wo)) (fun i _ => m - (intOf i).toNat)
  case atStart => exact ⟨0, 0, id, id, by omega, rfl, hB3, hou, Lib.hid ((UnionOk.start (ps := ps) (n := n) (fo := id)).weak (fun k hk => by omega)), Lib.hid fun i hi => by omega⟩
  case round =>
    obtain ⟨t, f, lab, fo, ht, rfl, hB4, hu4, hU, hfm⟩ := hrel
    by_cases hltt : t < m
    · obtain ⟨he1, he2, he3, he4⟩ := HEND.out _ hltt
      obtain ⟨g2, o2, rfl, hg2, hc2⟩ := HPS.out (by rw [HN.out]; omega)
      obtain ⟨rfl, hgb, hglt⟩ := HAu.out (by omega)
      have p0 : wr.cell? ⟨g2, o2 + t * 2, none⟩ = some (.int .i64 (pa ps t : Int)) := (hB4.cell (p := ⟨g2, _, none⟩) hg2).trans (by rw [← he3]; exact hc2 t (by rw [HN.out]; exact hltt) 0 _ rfl)
      have p1 : wr.cell? ⟨g2, o2 + t * 2 + 1, none⟩ = some (.int .i64 (pb ps t : Int)) := (hB4.cell (p := ⟨g2, _, none⟩) hg2).trans (by rw [← he4]; exact hc2 t (by rw [HN.out]; exact hltt) 1 _ rfl)
      clear he3 he4 hc2
      have hti : (t : Int) < (m : Int) := by omega
      have hg2w : g2 < wr.heap.size := Nat.lt_of_lt_of_le hg2 hB4.size
      have hu5 := hu4.alloc (.cells #[.int .i64 (pa ps t : Int), .int .i64 (pb ps t : Int)] 79)
      have hB5 := hB4.alloc hB4.size (.cells #[.int .i64 (pa ps t : Int), .int .i64 (pb ps t : Int)] 79)
      by_cases he : (t : Int) = wo
      · have hb1 : ((t : Int) != wo) = false := by simp [he]
        have hb2 : ((t : Int) == wo) = true := by simp [he]
        have HE := Lib.hid he
        clear he
        go_wp2
        go_roundw
        case rel => exact ⟨t + 1, f, lab, fo, by omega, by go_num, hB5, hu5, Lib.hid (hU.out.weak fun k hk => ⟨by have := HE.out; omega, hk.2⟩), hfm⟩
        case measure => simp [intOf]; omega
      · have hb1 : ((t : Int) != wo) = true := by simp [he]
        have hb2 : ((t : Int) == wo) = false := by simp [he]
        have HE := Lib.hid he
        clear he
        go_wp2_with fail
        refine (join_any lab W.heap.size gu n capu (pa ps t) (pb ps t) _ (by omega) he1 he2 (fun i hi => by have := hU.out.low i hi; omega) hu5).mono ?_
        rintro e w6 ⟨rfl, hu6, hgr6⟩
        have hB6 := hB5.grown hgr6 hB5.size (fun j e => by injection e with e; have := HZ.out; omega)
        have hU6 := hU.out.or (k := t) (Decidable.em _) he1 he2
        obtain ⟨fo', f', hU7, hs7⟩ := hU6
        have HU7 : Hid (UnionOk ps n (joinU lab (pa ps t) (pb ps t)) fo' f' (fun k => k < t + 1 ∧ (k : Int) ≠ wo)) := Lib.hid (hU7.weak fun k hk => by
          by_cases e : k = t
          · exact .inr e
          · exact .inl ⟨by omega, hk.2⟩)
        have HS7 : Hid (∀ i, i < f' → fo' i < m ∧ (fo' i : Int) ≠ wo) := Lib.hid fun i hi => by
          rcases hs7 i hi with ⟨j, hj, e⟩ | e
          · rw [← e]; exact hfm.out j hj
          · rw [e]; exact ⟨hltt, HE.out⟩
        clear hU7 hs7 hB4 hB5 hu4 hu5 hgr6 p0 p1
        go_wp2
        go_roundw
        case rel => exact ⟨t + 1, f', joinU lab (pa ps t) (pb ps t), fo', by omega, by go_num, hB6, hu6, HU7, HS7⟩
        case measure => simp [intOf]; omega
    · obtain rfl : m = t := by omega
      go_wp2
      go_ret
      exact ⟨_, lab, fo, f, rfl, own_mono hu4 (by have := HZ.out; omega), hU.out, hfm.out, hB4⟩
end Go.Proofs.Ytncmdjhdfhhkjaa
