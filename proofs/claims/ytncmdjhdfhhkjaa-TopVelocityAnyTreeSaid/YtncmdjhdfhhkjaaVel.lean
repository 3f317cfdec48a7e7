/- The velocity follows from any pairs: the walk of the statement. -/
import Derived.Test.YtncmdjhdfhhkjaaCheckSer
import Derived.Test.YtncmdjhdfhhkjaaSolved
import Derived.Test.YtncmdjhdfhhkjaaStackOf
import Derived.Test.YtncmdjhdfhhkjaaShift
import Derived.Test.YtncmdjhdfhhkjaaTower
import Derived.Deep.CutRange
import Derived.Deep.DeepCutAuto
namespace Go.Proofs.Ytncmdjhdfhhkjaa
open Go.RowKit Go.Sort

def two {α : Type} (a b : α) (i : Nat) : α := if i = 0 then a else b
theorem solveErr_kinds {nm : ByteArray} {xs : List Epoch} (h : seriesErr nm xs = 0) : solveErr nm xs = 0 ∨ solveErr nm xs = 30 ∨ solveErr nm xs = 8 := by
  unfold solveErr
  rw [if_neg (by omega)]
  split
  · exact .inr (.inl rfl)
  · split
    · exact .inr (.inr rfl)
    · exact .inl rfl

/-- What the rounds find: the boxes of the series, of its own fit and of the two lists. -/
structure VelAt (w wr : World) (nm : ByteArray) (A B1 B2 : Option Addr) (n c m1 m2 cb1 cb2 g : Nat) (s : Array Value) : Prop where
  below : Below w.heap.size w wr
  b3 : Blk wr w.heap.size 24 #[.string nm, .slice A n c]
  b8 : Blk wr g 33 s
  b10 : Blk wr (g + 1) 38 #[.slice B1 m1 cb1, .slice B2 m2 cb2]
theorem VelAt.later {w wr wr' : World} {nm : ByteArray} {A B1 B2 : Option Addr} {n c m1 m2 cb1 cb2 g : Nat} {s : Array Value} (h : VelAt w wr nm A B1 B2 n c m1 m2 cb1 cb2 g s) (hb : Below wr.heap.size wr wr') : VelAt w wr' nm A B1 B2 n c m1 m2 cb1 cb2 g s :=
  ⟨h.below.trans (hb.mono h.below.size), h.b3.below hb h.b3.lt, h.b8.below hb h.b8.lt, h.b10.below hb h.b10.lt⟩
theorem VelAt.set4 {w wr : World} {nm : ByteArray} {A B1 B2 : Option Addr} {n c m1 m2 cb1 cb2 g X : Nat} {s : Array Value} (h : VelAt w wr nm A B1 B2 n c m1 m2 cb1 cb2 g s) (h0 : w.heap.size ≤ X) (h1 : w.heap.size ≠ X) (h2 : g ≠ X) (h3 : g + 1 ≠ X) (u0 u1 u2 u3 : Value) :
    VelAt w ((((wr.setCell ⟨X, 0, none⟩ u0).setCell ⟨X, 1, none⟩ u1).setCell ⟨X, 2, none⟩ u2).setCell ⟨X, 3, none⟩ u3) nm A B1 B2 n c m1 m2 cb1 cb2 g s :=
  ⟨(((h.below.setCell (p := ⟨X, 0, none⟩) h0 u0).setCell (p := ⟨X, 1, none⟩) h0 u1).setCell (p := ⟨X, 2, none⟩) h0 u2).setCell (p := ⟨X, 3, none⟩) h0 u3,
   (((h.b3.far (p := ⟨X, 0, none⟩) h1 u0).far (p := ⟨X, 1, none⟩) h1 u1).far (p := ⟨X, 2, none⟩) h1 u2).far (p := ⟨X, 3, none⟩) h1 u3,
   (((h.b8.far (p := ⟨X, 0, none⟩) h2 u0).far (p := ⟨X, 1, none⟩) h2 u1).far (p := ⟨X, 2, none⟩) h2 u2).far (p := ⟨X, 3, none⟩) h2 u3,
   (((h.b10.far (p := ⟨X, 0, none⟩) h3 u0).far (p := ⟨X, 1, none⟩) h3 u1).far (p := ⟨X, 2, none⟩) h3 u2).far (p := ⟨X, 3, none⟩) h3 u3⟩
/-- .. and the task. -/
def TaskIn (w wx : World) (g12 n m : Nat) (xs : List Epoch) (ps : List SPair) : Prop :=
  ∃ nms A1 A2 Ah Aw c1 c2 p ch cw, Blk wx g12 45 #[.slice A1 n c1, .slice A2 m c2, .slice Ah p ch, .slice Aw m cw] ∧ TaskAt wx A1 A2 Ah Aw (scenesL xs nms n) ps (phUpto xs ps m) (List.replicate m 1) ∧ (phUpto xs ps m).length = p ∧ n ≤ c1 ∧ c1 ≤ maxLen ∧ (∀ i, i < n → (nms i).size ≤ 100)

set_option maxRecDepth 100000 in
set_option maxHeartbeats 8000000 in
theorem velocity_true (nm : ByteArray) (A B1 B2 : Option Addr) (n c m1 m2 cb1 cb2 : Nat) (datum : Int) (xs : List Epoch) (p1 p2 : List SPair) (w : World) (hnm : nm.size ≤ maxLen) (hn : xs.length = n) (hnn : n ≤ maxLen) (hm1 : p1.length = m1) (hm2 : p2.length = m2)
    (hS : SliceAt w A 4 Epoch.enc xs) (hP1 : SliceAt w B1 2 SPair.enc p1) (hP2 : SliceAt w B2 2 SPair.enc p2) (hmm1 : m1 ≤ maxLen) (hmm2 : m2 ≤ maxLen) (hd1 : -9223372036854775808 ≤ datum) (hd2 : datum ≤ 9223372036854775807) :
    Calls Try.prog 3 #[.agg #[.string nm, .slice A n c], .agg #[.slice B1 m1 cb1, .slice B2 m2 cb2], .int .i64 datum] w fun e w' => e = .returned (.bool true) ∧ Below w.heap.size w w' := by
  obtain ⟨k0, k1, hB0, hz⟩ := blocks2 w #[.string nm, .slice A n c] #[.slice B1 m1 cb1, .slice B2 m2 cb2] 24 27
  have HN := Lib.hid hn
  have HM1 := Lib.hid hm1
  have HM2 := Lib.hid hm2
  have HCK := Lib.hid (fun W (hW : Below w.heap.size w W) => ref08_CheckSeries nm A n c xs W hnm hn hnn (hS.below hW))
  have HS := Lib.hid hS
  have HP1 := Lib.hid hP1
  have HP2 := Lib.hid hP2
  unfold maxLen at hnn hmm1 hmm2
  clear hn hm1 hm2 hS hP1 hP2
  go_enter Try.func3, Try.ntmps3
  go_wp2_with fail
  refine (solved_true _).mono ?_
  rintro e w1 ⟨rfl, hb1⟩
  have b3 := k0.below hb1 (by omega)
  have b4 := k1.below hb1 (by omega)
  have hB1 := hB0.trans (hb1.mono (by omega))
  have r0 : w1.cell? ⟨w.heap.size, 0, none⟩ = some (.string nm) := b3.cell 0
  have r1 : w1.cell? ⟨w.heap.size, 1, none⟩ = some (.slice A n c) := b3.cell 1
  have l3 := b3.lt
  clear hb1 hB0 k0 k1 hz
  obtain ⟨e0, he0⟩ : ∃ e0, seriesErr nm xs = e0 := ⟨_, rfl⟩
  have hck := HCK.out w1 hB1
  rw [he0] at hck
  have HE0 := Lib.hid he0
  clear he0
  go_wp2_with fail
  refine hck.mono ?_
  rintro e w2 ⟨rfl, hb2⟩
  have hB2 := hB1.trans (hb2.mono hB1.size)
  have b3' := b3.below hb2 b3.lt
  have b4' := b4.below hb2 b4.lt
  clear hck hb2 hB1 b3 b4 r0 r1 l3
  have r0 : w2.cell? ⟨w.heap.size, 0, none⟩ = some (.string nm) := b3'.cell 0
  have r1 : w2.cell? ⟨w.heap.size, 1, none⟩ = some (.slice A n c) := b3'.cell 1
  have r2 : w2.cell? ⟨w.heap.size + 1, 0, none⟩ = some (.slice B1 m1 cb1) := b4'.cell 0
  have r3 : w2.cell? ⟨w.heap.size + 1, 1, none⟩ = some (.slice B2 m2 cb2) := b4'.cell 1
  have l3 := b3'.lt
  have l4 := b4'.lt
  by_cases hok : e0 = 0 ∧ n ≤ 8 ∧ m1 ≤ 12 ∧ m2 ≤ 12
  · obtain ⟨rfl, h8, h12, h12'⟩ := hok
    obtain ⟨hnb, h0, _, hep⟩ := series_days HE0.out
    have hn0 : 0 < n := by rw [← HN.out]; exact h0
    obtain ⟨d, hd⟩ : ∃ d : Nat, datum % (n : Int) = (d : Int) := ⟨(datum % (n : Int)).toNat, by have := Int.emod_nonneg datum (show (n : Int) ≠ 0 by omega); omega⟩
    have hdn : d < n := by have := Int.emod_lt_of_pos datum (show (0 : Int) < (n : Int) by omega); omega
    have HMOD := Lib.hid (fun W => hd ▸ base_Mod datum (n : Int) W (by omega) (by omega) hd1 hd2)
    clear hd
    go_wp2_with fail
    refine (HMOD.out _).mono ?_
    rintro e w' ⟨rfl, rfl⟩
    go_wp2_with fail
    refine (copy_any nm A n c xs _ HN.out hn0 (by omega) (HS.out.below hB2)).mono ?_
    rintro e w3 ⟨v3, rfl, hv3, hb3⟩
    obtain ⟨g3, cp3, rfl, hg3, hg3l⟩ := hv3.form hn0
    have hS3 : SliceAt w3 (some ⟨g3, 0, none⟩) 4 Epoch.enc xs := sliceAt_of_own (n := n) (c := cp3) (base := _) (e := 51) (fun _ => rfl) HN.out hv3
    go_wp2_with fail
    refine (solve_any nm _ n cp3 xs w3 hnm HN.out (by unfold maxLen; omega) hS3).mono ?_
    rintro e w4 ⟨rfl, hb4⟩
    have hB3 := hB2.trans (hb3.mono hB2.size)
    have hB4 := hB3.trans (hb4.mono hB3.size)
    have b5 := (b3'.below hb3 b3'.lt).below hb4 (Nat.lt_of_lt_of_le b3'.lt hb3.size)
    have b6 := (b4'.below hb3 b4'.lt).below hb4 (Nat.lt_of_lt_of_le b4'.lt hb3.size)
    clear hb3 hb4 hS3 hv3 hg3 hg3l r0 r1 r2 r3 l3 l4 b3' b4' hB2 hB3 HCK HMOD
    obtain ⟨s0, s1, s2, s3, s4, s5, hsv⟩ := solveV_form nm xs
    have hkinds := solveErr_kinds HE0.out
    obtain ⟨e5, he5⟩ : ∃ e5, solveErr nm xs = e5 := ⟨_, rfl⟩
    rw [hsv, he5]
    rw [he5] at hkinds
    have HSV := Lib.hid hsv
    have HE5 := Lib.hid he5
    clear hsv he5
    by_cases h5 : e5 = 0
    · subst h5
      have r2 : w4.cell? ⟨w.heap.size + 1, 0, none⟩ = some (.slice B1 m1 cb1) := b6.cell 0
      have r3 : w4.cell? ⟨w.heap.size + 1, 1, none⟩ = some (.slice B2 m2 cb2) := b6.cell 1
      have l4 := b6.lt
      clear hkinds
      go_wp2
      obtain ⟨g, hg⟩ : ∃ g, w4.heap.size = g := ⟨_, rfl⟩
      have q := blocks2 w4 #[.int .i64 s0, .int .i64 s1, .int .i64 s2, .int .i64 s3, .int .i64 s4, .int .i64 s5] #[.slice B1 m1 cb1, .slice B2 m2 cb2] 33 38
      obtain ⟨q0, q1, q2, q3⟩ := q
      have hV : VelAt w ((w4.alloc (.cells #[.int .i64 s0, .int .i64 s1, .int .i64 s2, .int .i64 s3, .int .i64 s4, .int .i64 s5] 33)).alloc (.cells #[.slice B1 m1 cb1, .slice B2 m2 cb2] 38)) nm A B1 B2 n c m1 m2 cb1 cb2 g #[.int .i64 s0, .int .i64 s1, .int .i64 s2, .int .i64 s3, .int .i64 s4, .int .i64 s5] :=
        ⟨hB4.trans (q2.mono hB4.size), b5.below q2 b5.lt, hg ▸ q0, hg ▸ q1⟩
      rw [hg]
      clear q0 q1 q2 q3 hg r2 r3 l4 b5 b6 hB4
      go_loopw [11] (fun i wr => ∃ k : Nat, k ≤ 2 ∧ i = .int .i64 k ∧ VelAt w wr nm A B1 B2 n c m1 m2 cb1 cb2 g #[.int .i64 s0, .int .i64 s1, .int .i64 s2, .int .i64 s3, .int .i64 s4, .int .i64 s5]) (fun i _ => 2 - (intOf i).toNat)
      case atStart => exact ⟨0, by omega, rfl, hV⟩
      clear hV
      case round =>
        obtain ⟨k, hk, rfl, hV⟩ := hrel
        by_cases hlt : k < 2
        · obtain ⟨B, m, cb, ps, hc, hP, hm, hm12⟩ : ∃ (B : Option Addr) (m cb : Nat) (ps : List SPair), wr.cell? ⟨g + 1, k, none⟩ = some (.slice B m cb) ∧ SliceAt w B 2 SPair.enc ps ∧ ps.length = m ∧ m ≤ 12 := by
            rcases (by omega : k = 0 ∨ k = 1) with rfl | rfl
            · exact ⟨B1, m1, cb1, p1, hV.b10.cell 0, HP1.out, HM1.out, h12⟩
            · exact ⟨B2, m2, cb2, p2, hV.b10.cell 1, HP2.out, HM2.out, h12'⟩
          have HP := Lib.hid hP
          have HM := Lib.hid hm
          have hki : (k : Int) < 2 := by omega
          have hk0 : (0 : Int) ≤ (k : Int) := by omega
          have r0 : wr.cell? ⟨w.heap.size, 0, none⟩ = some (.string nm) := hV.b3.cell 0
          have r1 : wr.cell? ⟨w.heap.size, 1, none⟩ = some (.slice A n c) := hV.b3.cell 1
          have l3 := hV.b3.lt
          have l10 := hV.b10.lt
          clear hP hm
          have HSTK := Lib.hid (fun W (hW : Below w.heap.size w W) => stackOf_any nm A B n c m cb xs ps W HN.out hn0 h8 HM.out hm12 (HS.out.below hW) (HP.out.below hW) (fun i hi => (epoch_small (hep i (by rw [HN.out]; exact hi))).2.2.1))
          go_upto_region 13 with fail
          go_cut [12] from 67 to 191 (fun s12 wx => ∃ g12 : Nat, s12 = .pointer (some ⟨g12, 0, none⟩) ∧ VelAt w wx nm A B1 B2 n c m1 m2 cb1 cb2 g #[.int .i64 s0, .int .i64 s1, .int .i64 s2, .int .i64 s3, .int .i64 s4, .int .i64 s5] ∧ TaskIn w wx g12 n m xs ps)
          case first =>
            have hS0 : wr.drew.cell? ⟨g + 1, k, none⟩ = some (.slice B m cb) ∧ wr.drew.cell? ⟨w.heap.size, 0, none⟩ = some (.string nm) ∧ wr.drew.cell? ⟨w.heap.size, 1, none⟩ = some (.slice A n c) := ⟨hc, r0, r1⟩
            refine wp_region_any (by kernel_rfl) ?_
            refine any_mid (S := fun w' => w'.cell? ⟨g + 1, k, none⟩ = some (.slice B m cb) ∧ w'.cell? ⟨w.heap.size, 0, none⟩ = some (.string nm) ∧ w'.cell? ⟨w.heap.size, 1, none⟩ = some (.slice A n c))
              6 2 _ _ [0, 1, 2, 3] (by kernel_rfl) (by intro c a w d v h; cases d <;> exact h) (by kernel_rfl) (by kernel_rfl) (by kernel_rfl) (by kernel_rfl) (by kernel_rfl) (by kernel_rfl) hS0 ?_
            iterate 4
              refine wpIf_step (v := ?_) rfl rfl (fun W hS => ?_) ?_
              rotate_left
              · obtain ⟨s0, s1, s2⟩ := hS
                go_simp
                rfl
            refine wpIf_nil ?_
            refine anyHL_all (rs := [4, 5]) (by kernel_rfl) (by decide) (by decide) ?_
            intro i hi
            rcases (by simpa using hi : i = 4 ∨ i = 5) with rfl | rfl
            · refine wpOp_lit rfl rfl ?_
              go_simp
              refine (HSTK.out wr.drew hV.below.drew).mono ?_
              rintro e w5 ⟨nms, A1, A2, Ah, Aw, c1, c2, p, ch, cw, rfl, hT, hp, hc1, hc1m, hfit, hb5⟩
              have hV5 := hV.later (wr' := w5) ⟨hb5.os, hb5.tape, hb5.output, hb5.size, hb5.block⟩
              have t0 : w5.cell? ⟨g + 1, k, none⟩ = some (.slice B m cb) := (hb5.cell (p := ⟨g + 1, k, none⟩) l10).trans hc
              refine ⟨⟨t0, hV5.b3.cell 0, hV5.b3.cell 1⟩, ?_⟩
              refine anyHL_all (rs := [5]) (by kernel_rfl) (by decide) (by decide) ?_
              intro i hi
              obtain rfl : i = 5 := by simpa using hi
              refine wpOp_lit rfl rfl ?_
              go_simp
              have hV6 := hV5.later ((Below.refl _ _).alloc (Nat.le_refl _) (.cells #[.slice none 0 0, .slice none 0 0, .slice none 0 0, .slice none 0 0] 45))
              have t1 := (World.cell?_alloc_lt w5 (.cells #[.slice none 0 0, .slice none 0 0, .slice none 0 0, .slice none 0 0] 45) ⟨g + 1, k, none⟩ hV5.b10.lt).trans t0
              refine ⟨⟨t1, hV6.b3.cell 0, hV6.b3.cell 1⟩, by kernel_rfl, ?_⟩
              have hb6 : Below w5.heap.size w5 (w5.alloc (.cells #[.slice A1 n c1, .slice A2 m c2, .slice Ah p ch, .slice Aw m cw] 45)) := (Below.refl _ _).alloc (Nat.le_refl _) _
              have hV7 := hV5.later hb6
              have hT7 := hT.below hb6
              have b12 := Blk.new w5 45 #[.slice A1 n c1, .slice A2 m c2, .slice Ah p ch, .slice Aw m cw]
              clear hb5 hV5 hV6 t0 t1 hV hS0 r0 r1 l3 l10 hc
              go_wp2_with fail
              go_meet
              exact ⟨w5.heap.size, rfl, hV7, nms, A1, A2, Ah, Aw, c1, c2, p, ch, cw, b12, hT7.toAt HM.out hp, hp, hc1, hc1m, hfit⟩
            · refine wpOp_lit rfl rfl ?_
              go_simp
              refine anyHL_all (rs := [4]) (by kernel_rfl) (by decide) (by decide) ?_
              intro i hi
              obtain rfl : i = 4 := by simpa using hi
              refine wpOp_lit rfl rfl ?_
              go_simp
              have ha : Below wr.heap.size wr (wr.alloc (.cells #[.slice none 0 0, .slice none 0 0, .slice none 0 0, .slice none 0 0] 45)).drew := ((Below.refl _ _).alloc (Nat.le_refl _) _).drew
              have hVa := hV.later ha
              have ba : Blk (wr.alloc (.cells #[.slice none 0 0, .slice none 0 0, .slice none 0 0, .slice none 0 0] 45)).drew wr.heap.size 45 #[.slice none 0 0, .slice none 0 0, .slice none 0 0, .slice none 0 0] := (Blk.new _ _ _).drew
              refine (HSTK.out _ hVa.below).mono ?_
              rintro e w5 ⟨nms, A1, A2, Ah, Aw, c1, c2, p, ch, cw, rfl, hT, hp, hc1, hc1m, hfit, hb5⟩
              have hV5 := hVa.later hb5
              have b12 := ba.below hb5 ba.lt
              have t0 : w5.cell? ⟨g + 1, k, none⟩ = some (.slice B m cb) := (hb5.cell (p := ⟨g + 1, k, none⟩) hVa.b10.lt).trans ((ha.cell (p := ⟨g + 1, k, none⟩) l10).trans hc)
              refine ⟨⟨t0, hV5.b3.cell 0, hV5.b3.cell 1⟩, by kernel_rfl, ?_⟩
              have hXl := hV.b3.lt
              have hX8 := hV.b8.lt
              have hX10 := hV.b10.lt
              have hXb := hV.below.size
              have e0 : w5.cell? ⟨wr.heap.size, 0, none⟩ = some (.slice none 0 0) := b12.cell 0
              have e1 : w5.cell? ⟨wr.heap.size, 1, none⟩ = some (.slice none 0 0) := b12.cell 1
              have e2 : w5.cell? ⟨wr.heap.size, 2, none⟩ = some (.slice none 0 0) := b12.cell 2
              have e3 : w5.cell? ⟨wr.heap.size, 3, none⟩ = some (.slice none 0 0) := b12.cell 3
              have f0 := b12.frozen
              have l12 := b12.lt
              have hT7 := hT.set4 (g := wr.heap.size) (by simp) (.slice A1 n c1) (.slice A2 m c2) (.slice Ah p ch) (.slice Aw m cw)
              have b13 := (((b12.set_ 0 (.slice A1 n c1)).set_ 1 (.slice A2 m c2)).set_ 2 (.slice Ah p ch)).set_ 3 (.slice Aw m cw)
              have hV7 := hV5.set4 (X := wr.heap.size) hXb (by omega) (by omega) (by omega) (.slice A1 n c1) (.slice A2 m c2) (.slice Ah p ch) (.slice Aw m cw)
              have HT7 := Lib.hid hT7
              have HB13 := Lib.hid b13
              have HV7 := Lib.hid hV7
              clear hb5 hV5 hVa ba b12 ha t0 hV hS0 r0 r1 l3 l10 hc hT hT7 b13 hV7
              go_wp2_with fail
              go_meet
              exact ⟨wr.heap.size, rfl, HV7.out, nms, A1, A2, Ah, Aw, c1, c2, p, ch, cw, HB13.out, HT7.out.toAt HM.out hp, hp, hc1, hc1m, hfit⟩
          case rest =>
            obtain ⟨g12, rfl, hV2, nms, A1, A2, Ah, Aw, c1, c2, p, ch, cw, b12, hT, hp, hc1, hc1m, hfit⟩ := hcut
            have x0 : wc.cell? ⟨g12, 0, none⟩ = some (.slice A1 n c1) := b12.cell 0
            have x1 : wc.cell? ⟨g12, 1, none⟩ = some (.slice A2 m c2) := b12.cell 1
            have x2 : wc.cell? ⟨g12, 2, none⟩ = some (.slice Ah p ch) := b12.cell 2
            have x3 : wc.cell? ⟨g12, 3, none⟩ = some (.slice Aw m cw) := b12.cell 3
            have hpm := phUpto_len xs ps m
            have hsl : (scenesL xs nms n).length = n := by simp [scenesL]
            have hfit' : NamesFit (scenesL xs nms n) := fun i hi => by
              rw [hsl] at hi
              rw [scenesL, nth_range _ hi]
              have := hfit i hi
              show (nms i).size ≤ maxLen
              unfold maxLen; omega
            have hCT := checkTask_any A1 A2 Ah Aw n m p m c1 c2 ch cw (scenesL xs nms n) ps (phUpto xs ps m) (List.replicate m 1) wc hsl HM.out hp (by simp) (by unfold maxLen; omega) hc1 hc1m (by unfold maxLen; omega) (by unfold maxLen; omega) (by unfold maxLen; omega) hfit' hT
            obtain ⟨et, het⟩ : ∃ et, taskErr (scenesL xs nms n) ps (phUpto xs ps m) (List.replicate m 1) = et := ⟨_, rfl⟩
            rw [het] at hCT
            have HET := Lib.hid het
            have HSL := Lib.hid hsl
            have HPP := Lib.hid hp
            have HFIT := Lib.hid hfit'
            clear het hsl hp hfit hfit' hV hc r0 r1 l3 l10 HSTK
            go_wp2_with fail
            refine hCT.mono ?_
            rintro e w6 ⟨rfl, hb6⟩
            have hV6 := hV2.later hb6
            have hT6 := hT.below hb6
            have b6 := b12.below hb6 b12.lt
            clear hCT hV2 hT b12 x0 x1 x2 x3 hb6
            by_cases h0 : et = 0
            · subst h0
              obtain ⟨hok, hpl, _⟩ := taskErr_zero HET.out
              have hpm' : p = m := by rw [← HPP.out, hpl, HM.out]
              subst hpm'
              have y0 : w6.cell? ⟨g12, 0, none⟩ = some (.slice A1 n c1) := b6.cell 0
              have y1 : w6.cell? ⟨g12, 1, none⟩ = some (.slice A2 p c2) := b6.cell 1
              have y2 : w6.cell? ⟨g12, 2, none⟩ = some (.slice Ah p ch) := b6.cell 2
              have y3 : w6.cell? ⟨g12, 3, none⟩ = some (.slice Aw p cw) := b6.cell 3
              obtain ⟨gh, oh, hAh⟩ : ∃ gh oh, 0 < p → Ah = some ⟨gh, oh, none⟩ ∧ gh < w6.heap.size := by
                rcases Nat.eq_zero_or_pos p with hz | hz
                · exact ⟨0, 0, fun h => by omega⟩
                · obtain ⟨b, o, e1, e2, _⟩ := hT6.ph (by rw [HPP.out]; exact hz)
                  exact ⟨b, o, fun _ => ⟨e1, e2⟩⟩
              have hall : ∀ i, i < p → inDates xs.length (nth ps i) = true := fun i hi => by
                have := hok.pairs i (by rw [HM.out]; exact hi)
                rw [HSL.out] at this
                unfold inDates
                rw [HN.out, Bool.and_eq_true]
                exact ⟨withinB_true.2 (by omega), withinB_true.2 (by omega)⟩
              have hphs := (phUpto_all hall).2
              have hSO := solved_any A1 A2 Ah Aw n p c1 c2 ch cw gh oh d (scenesL xs nms n) ps (phUpto xs ps p) (List.replicate p 1) (fun i => (nth xs i).phase) w6 HSL.out HM.out HPP.out (by simp) hm12 hdn hc1 hc1m HFIT.out hT6 HET.out hAh
                (fun k hk => by
                  have := hphs k hk
                  rw [nth_eq (by rw [HPP.out]; exact hk)]
                  rw [List.getElem?_eq_getElem (by rw [HPP.out]; exact hk)] at this
                  exact Option.some.inj this)
                (fun i hi => by have := (epoch_small (hep i (by rw [HN.out]; exact hi))).2.2.1; omega)
              clear hok hpl hall hphs hAh hT6 b6
              go_wp2_with fail
              refine hSO.mono ?_
              rintro e w7 ⟨v7, pv, rfl, ho7, hpv, hb7⟩
              obtain ⟨g7, cp7, rfl, hg7, hg7l⟩ := ho7.form hn0
              have hV7 := hV6.later hb7
              have HPV := Lib.hid hpv
              have ho7' := own_mono' (base' := 0) ho7 (Nat.zero_le _)
              clear hSO hV6 ho7 hpv hb7 y0 y1 y2 y3
              have z0 : w7.cell? ⟨w.heap.size, 0, none⟩ = some (.string nm) := hV7.b3.cell 0
              have z1 : w7.cell? ⟨w.heap.size, 1, none⟩ = some (.slice A n c) := hV7.b3.cell 1
              have zl := hV7.b3.lt
              go_wp2
              clear z0 z1 zl
              obtain ⟨wo, rfl⟩ : ∃ wo : World, wo = wr := ⟨_, rfl⟩
              go_loopw [16, 17] (fun wh i wr => ∃ (j : Nat) (b : Bool), j ≤ n ∧ i = .int .i64 j ∧ wh = .bool b ∧ VelAt w wr nm A B1 B2 n c m1 m2 cb1 cb2 g #[.int .i64 s0, .int .i64 s1, .int .i64 s2, .int .i64 s3, .int .i64 s4, .int .i64 s5] ∧ wr.ownsRow 0 3 1 (.slice (some ⟨g7, 0, none⟩) n cp7) n (flatN (intCell pv) n) ∧ Hid (b = true → ∀ i, i < j → pv i ≠ 1000000000000)) (fun _ i _ => n - (intOf i).toNat)
              case atStart => exact ⟨0, true, by omega, rfl, rfl, hV7, ho7', Lib.hid fun _ i h => by omega⟩
              clear hV7 ho7' hg7 hg7l
              case round =>
                obtain ⟨j, b, hj, rfl, rfl, hV7, ho7, hb⟩ := hrel
                have z0 : wr.cell? ⟨w.heap.size, 0, none⟩ = some (.string nm) := hV7.b3.cell 0
                have z1 : wr.cell? ⟨w.heap.size, 1, none⟩ = some (.slice A n c) := hV7.b3.cell 1
                have zl := hV7.b3.lt
                by_cases hjl : j < n
                · obtain ⟨ba, oa, rfl, hba, hbc⟩ := HS.out (by rw [HN.out]; omega)
                  have t0 : wr.cell? ⟨g7, j, none⟩ = some (.int .i64 (pv j)) := (ho7.cellAt _ (by omega)).trans (flatN_oneGet (f := intCell pv) (fun _ => rfl) hjl)
                  have t1 : wr.cell? ⟨ba, oa + j * 4 + 2, none⟩ = some (.int .i64 (nth xs j).phase) := (hV7.below.cell (p := ⟨ba, _, none⟩) hba).trans (hbc j (by rw [HN.out]; exact hjl) 2 _ rfl)
                  have t2 : wr.cell? ⟨ba, oa + d * 4 + 2, none⟩ = some (.int .i64 (nth xs d).phase) := (hV7.below.cell (p := ⟨ba, _, none⟩) hba).trans (hbc d (by rw [HN.out]; exact hdn) 2 _ rfl)
                  have hji : (j : Int) < (n : Int) := by omega
                  have hdi : (d : Int) < (n : Int) := by omega
                  have hj0 : (0 : Int) ≤ (j : Int) := by omega
                  have hd0 : (0 : Int) ≤ (d : Int) := by omega
                  have hbaw : ba < wr.heap.size := by have := hV7.below.size; omega
                  have hg7w : g7 < wr.heap.size := (ho7.lt g7 rfl).2
                  have e1 := (epoch_small (hep j (by rw [HN.out]; exact hjl))).2.2.1
                  have e2 := (epoch_small (hep d (by rw [HN.out]; exact hdn))).2.2.1
                  have hww : IntKind.i64.wrap ((nth xs j).phase - (nth xs d).phase) = (nth xs j).phase - (nth xs d).phase := IntWalk.i64_in _ (by omega)
                  clear hbc e1 e2
                  by_cases hvoid : pv j = 1000000000000
                  · have v1 : (pv j == 1000000000000) = true := by simp [hvoid]
                    have v2 : (pv j != 1000000000000) = false := by simp [hvoid]
                    clear hvoid hww
                    cases b
                    all_goals
                      go_wp2
                      go_quiet (fail)
                      go_wp2
                      go_roundw
                      case rel => exact ⟨j + 1, false, by omega, by go_num, rfl, hV7.later (below_drewN (Below.refl _ _) _), ho7, Lib.hid fun h => by cases h⟩
                      case measure => simp [intOf]; omega
                  · have hpj : pv j = (nth xs j).phase - (nth xs d).phase := by
                      rcases HPV.out j hjl with h | h
                      · exact h
                      · exact absurd h hvoid
                    have v1 : (pv j == 1000000000000) = false := by simp [hvoid]
                    have v2 : (pv j != 1000000000000) = true := by simp [hvoid]
                    have v3 : (pv j == (nth xs j).phase - (nth xs d).phase) = true := by simp [hpj]
                    have v4 : (pv j != (nth xs j).phase - (nth xs d).phase) = false := by simp [hpj]
                    have HB : Hid (b = true → ∀ i, i < j + 1 → pv i ≠ 1000000000000) := Lib.hid fun hb' i hi => by
                      by_cases e : i = j
                      · rw [e]; exact hvoid
                      · exact hb.out hb' i (by omega)
                    clear hvoid hpj
                    cases b
                    all_goals
                      go_wp2
                      go_quiet (fail)
                      go_wp2
                      go_roundw
                      case rel => exact ⟨j + 1, _, by omega, by go_num, rfl, hV7.later (below_drewN (Below.refl _ _) _), ho7, (by first | exact HB | exact Lib.hid (fun _ => HB.out trivial) | exact Lib.hid (fun h => by cases h))⟩
                      case measure => simp [intOf]; omega
                · obtain rfl : n = j := by omega
                  cases b with
                  | false =>
                    go_wp2
                    go_roundw
                    case rel => exact ⟨k + 1, by omega, by go_num, hV7⟩
                    case measure => simp [intOf]; omega
                  | true =>
                    have hall : ∀ i, i < xs.length → pv i = (nth xs i).phase - (nth xs d).phase := fun i hi => by
                      rw [HN.out] at hi
                      rcases HPV.out i hi with h | h
                      · exact h
                      · exact absurd h (hb.out rfl i hi)
                    have hfo := fitOf_any nm A n c g7 cp7 xs pv wr hnm HN.out hn0 h8 (HS.out.below hV7.below) (ho7.lt g7 rfl).2 (fun i hi => (ho7.cellAt _ (by omega)).trans (flatN_oneGet (f := intCell pv) (fun _ => rfl) hi))
                    obtain ⟨ba, oa, rfl, hba, hbc⟩ := HS.out (by rw [HN.out]; omega)
                    obtain ⟨er, her⟩ : ∃ er, solveErr nm (withPh xs pv) = er := ⟨_, rfl⟩
                    obtain ⟨f0, f1, f2, f3, f4, f5, hfv⟩ := solveV_form nm (withPh xs pv)
                    have hdi : (d : Int) < (n : Int) := by omega
                    have hd0 : (0 : Int) ≤ (d : Int) := by omega
                    by_cases hr0 : er = 0
                    · subst hr0
                      obtain ⟨a0, a1, a2, a3, a4, a5, q1, q2, q3, q4, q5, q6, q7, q8⟩ := shift_law HE5.out her hall
                      rw [HSV.out] at q1
                      rw [hfv] at q2
                      have q1' := Value.agg.inj q1
                      have q2' := Value.agg.inj q2
                      simp only [Array.mk.injEq, List.cons.injEq, Value.int.injEq, and_true, true_and] at q1' q2'
                      obtain ⟨rfl, rfl, rfl, rfl, rfl, rfl⟩ := q1'
                      obtain ⟨rfl, rfl, rfl, rfl, e4, rfl⟩ := q2'
                      have hfo' : Calls Try.prog 12 #[.agg #[.string nm, .slice (some ⟨ba, oa, none⟩) n c], .slice (some ⟨g7, 0, none⟩) n cp7] wr fun e w' => e = .returned (.tuple #[.agg #[.int .i64 f0, .int .i64 f1, .int .i64 f2, .int .i64 f3, .int .i64 f4, .int .i64 f5], .bool true]) ∧ Below wr.heap.size wr w' := hfo.mono fun e w' h => ⟨by rw [h.1, hfv, her]; rfl, h.2⟩
                      obtain ⟨ph, hph⟩ : ∃ ph, (nth xs d).phase = ph := ⟨_, rfl⟩
                      rw [hph] at e4 q5 q6
                      have hphb := (epoch_small (hep d (by rw [HN.out]; exact hdn))).2.2.1
                      rw [hph] at hphb
                      obtain ⟨Z, hZ⟩ : ∃ Z, ph * f5 = Z := ⟨_, rfl⟩
                      rw [hZ] at e4 q5 q6
                      have w1 : IntKind.i64.wrap (ph * f5) = Z := by rw [hZ]; exact IntWalk.i64_in _ (by omega)
                      have w2 : IntKind.i64.wrap (s4 - f4) = Z := by rw [e4, show s4 - (s4 - Z) = Z by omega]; exact IntWalk.i64_in _ (by omega)
                      have HW1 := Lib.hid w1
                      have HW2 := Lib.hid w2
                      clear hfo q1 q2 q3 q4 q5 q6 q7 q8 e4 hZ hfv her hall hphb
                      go_wp2_with fail
                      refine hfo'.mono ?_
                      rintro e w9 ⟨rfl, hb9⟩
                      have hV9 := hV7.later hb9
                      clear hfo' hb9 hV7 z0 z1 zl ho7
                      have hal := (Below.refl w9.heap.size w9).alloc (Nat.le_refl _) (.cells #[.int .i64 f0, .int .i64 f1, .int .i64 f2, .int .i64 f3, .int .i64 f4, .int .i64 f5] 33)
                      have hV10 := hV9.later hal
                      have bn := Blk.new w9 33 #[.int .i64 f0, .int .i64 f1, .int .i64 f2, .int .i64 f3, .int .i64 f4, .int .i64 f5]
                      obtain ⟨G, hG⟩ : ∃ G, w9.heap.size = G := ⟨_, rfl⟩
                      go_wp2
                      rw [hG] at bn
                      generalize (w9.alloc (.cells #[.int .i64 f0, .int .i64 f1, .int .i64 f2, .int .i64 f3, .int .i64 f4, .int .i64 f5] 33)) = W at *
                      have y0 : W.cell? ⟨G, 0, none⟩ = some (.int .i64 f0) := bn.cell 0
                      have y1 : W.cell? ⟨G, 1, none⟩ = some (.int .i64 f1) := bn.cell 1
                      have y2 : W.cell? ⟨G, 2, none⟩ = some (.int .i64 f2) := bn.cell 2
                      have y3 : W.cell? ⟨G, 3, none⟩ = some (.int .i64 f3) := bn.cell 3
                      have y4 : W.cell? ⟨G, 4, none⟩ = some (.int .i64 f4) := bn.cell 4
                      have y5 : W.cell? ⟨G, 5, none⟩ = some (.int .i64 f5) := bn.cell 5
                      have x0 : W.cell? ⟨g, 0, none⟩ = some (.int .i64 f0) := hV10.b8.cell 0
                      have x1 : W.cell? ⟨g, 1, none⟩ = some (.int .i64 f1) := hV10.b8.cell 1
                      have x2 : W.cell? ⟨g, 2, none⟩ = some (.int .i64 f2) := hV10.b8.cell 2
                      have x3 : W.cell? ⟨g, 3, none⟩ = some (.int .i64 f3) := hV10.b8.cell 3
                      have x4 : W.cell? ⟨g, 4, none⟩ = some (.int .i64 s4) := hV10.b8.cell 4
                      have x5 : W.cell? ⟨g, 5, none⟩ = some (.int .i64 f5) := hV10.b8.cell 5
                      have z1 : W.cell? ⟨w.heap.size, 1, none⟩ = some (.slice (some ⟨ba, oa, none⟩) n c) := hV10.b3.cell 1
                      have z2 : W.cell? ⟨ba, oa + d * 4 + 2, none⟩ = some (.int .i64 ph) := (hV10.below.cell (p := ⟨ba, _, none⟩) hba).trans (by rw [← hph]; exact hbc d (by rw [HN.out]; exact hdn) 2 _ rfl)
                      have lG := bn.lt
                      have lg := hV10.b8.lt
                      have lw := hV10.b3.lt
                      have lb : ba < W.heap.size := by have := hV10.below.size; omega
                      clear hG bn hph hbc hV9 hal
                      go_quiet (fail)
                      go_wp2
                      go_roundw
                      case rel => exact ⟨k + 1, by omega, by go_num, hV10.later (below_drewN (Below.refl _ _) _)⟩
                      case measure => simp [intOf]; omega
                    · have hr1 : (er == 0) = false := by simp [hr0]
                      have hfo' : Calls Try.prog 12 #[.agg #[.string nm, .slice (some ⟨ba, oa, none⟩) n c], .slice (some ⟨g7, 0, none⟩) n cp7] wr fun e w' => e = .returned (.tuple #[.agg #[.int .i64 f0, .int .i64 f1, .int .i64 f2, .int .i64 f3, .int .i64 f4, .int .i64 f5], .bool false]) ∧ Below wr.heap.size wr w' := hfo.mono fun e w' h => ⟨by rw [h.1, hfv, her, hr1], h.2⟩
                      clear hfo hfv her hr0 hr1 hall hbc
                      go_wp2_with fail
                      refine hfo'.mono ?_
                      rintro e w9 ⟨rfl, hb9⟩
                      have hV9 := hV7.later hb9
                      have hV10 := hV9.later ((Below.refl _ _).alloc (Nat.le_refl _) (.cells #[.int .i64 f0, .int .i64 f1, .int .i64 f2, .int .i64 f3, .int .i64 f4, .int .i64 f5] 33))
                      clear hfo' hb9 hV7 z0 z1 zl ho7 hV9
                      go_wp2
                      go_quiet (fail)
                      go_wp2
                      go_roundw
                      case rel => exact ⟨k + 1, by omega, by go_num, hV10.later (below_drewN (Below.refl _ _) _)⟩
                      case measure => simp [intOf]; omega
            · have h1 : (et == 0) = false := by simp [h0]
              have h2 : (et != 0) = true := by simp [h0]
              clear h0
              go_wp2
              go_roundw
              case rel => exact ⟨k + 1, by omega, by go_num, hV6⟩
              case measure => simp [intOf]; omega
        · obtain rfl : k = 2 := by omega
          go_wp2
          go_ret
          exact ⟨rfl, hV.below⟩
    · rcases hkinds with rfl | rfl | rfl
      · exact absurd rfl h5
      · clear h5
        go_wp2
        go_ret
        exact ⟨rfl, hB4.alloc hB4.size _⟩
      · clear h5
        go_wp2
        go_ret
        exact ⟨rfl, hB4.alloc hB4.size _⟩
  · by_cases a0 : e0 = 0
    · subst a0
      by_cases a1 : n ≤ 8
      · by_cases a2 : m1 ≤ 12
        · have a3 : ¬ m2 ≤ 12 := fun a3 => hok ⟨rfl, a1, a2, a3⟩
          clear hok
          go_wp2
          go_ret
          exact ⟨rfl, hB2⟩
        · clear hok
          go_wp2
          go_ret
          exact ⟨rfl, hB2⟩
      · clear hok
        go_wp2
        go_ret
        exact ⟨rfl, hB2⟩
    · have a1 : (e0 == 0) = false := by simp [a0]
      have a2 : (e0 != 0) = true := by simp [a0]
      clear hok a0
      go_wp2
      go_ret
      exact ⟨rfl, hB2⟩
end Go.Proofs.Ytncmdjhdfhhkjaa
