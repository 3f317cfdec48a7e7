/- 'from' yields the steps of a forest that begin at a scene: a contract for whatever loop keeps all but two blocks. -/
import Derived.RangeFuncNested
import Derived.RangeFuncBound
import Derived.RangeFuncCalls
import Derived.RangeFuncLeaves
import Derived.Shelf.Abstract
import Derived.Shelf.RegionOpen
import Derived.WalkKit
import Derived.OwnWalkIn
import Derived.TacticsInMore
import Derived.LoopNIn
import Derived.LoopIn
import Derived.Test.YtncmdjhdfhhkjaaEnds
import Derived.Test.YtncmdjhdfhhkjaaForest
namespace Go.Proofs.Ytncmdjhdfhhkjaa
open Go.RowKit Go.Sort

attribute [local go_sem] Oper.semAt_some

/-- All blocks below B but two lie as they lay. -/
structure Keeps2 (B g1 g2 : Nat) (w w' : World) : Prop where
  os : w'.os = w.os
  tape : w'.tape = w.tape
  output : w'.output = w.output
  size : w.heap.size ≤ w'.heap.size
  block : ∀ k, k < B → k ≠ g1 → k ≠ g2 → w'.heap[k]? = w.heap[k]?
theorem Keeps2.refl (B g1 g2 : Nat) (w : World) : Keeps2 B g1 g2 w w := ⟨rfl, rfl, rfl, Nat.le_refl _, fun _ _ _ _ => rfl⟩
theorem Keeps2.trans {B g1 g2 : Nat} {a b c : World} (h : Keeps2 B g1 g2 a b) (k : Keeps2 B g1 g2 b c) : Keeps2 B g1 g2 a c :=
  ⟨k.os.trans h.os, k.tape.trans h.tape, k.output.trans h.output, Nat.le_trans h.size k.size, fun i hi h1 h2 => (k.block i hi h1 h2).trans (h.block i hi h1 h2)⟩
theorem Keeps2.of_below {B B' g1 g2 : Nat} {w w' : World} (h : Below B' w w') (hB : B ≤ B') : Keeps2 B g1 g2 w w' := ⟨h.os, h.tape, h.output, h.size, fun k hk _ _ => h.block k (by omega)⟩
theorem Keeps2.mono {B B' g1 g2 : Nat} {w w' : World} (h : Keeps2 B g1 g2 w w') (hB : B' ≤ B) : Keeps2 B' g1 g2 w w' := ⟨h.os, h.tape, h.output, h.size, fun k hk => h.block k (by omega)⟩
theorem Keeps2.of_grown {B g1 g2 : Nat} {w w' : World} {row : Option Nat} (h : w.grownBy w' row) (hB : B ≤ w.heap.size) (hr : ∀ k, row = some k → B ≤ k ∨ k = g1 ∨ k = g2) : Keeps2 B g1 g2 w w' :=
  ⟨h.os, h.tape, h.output, h.size, fun k hk h1 h2 => h.block k (by omega) (fun e => by have := hr k e.symm; omega)⟩
theorem Keeps2.cell {B g1 g2 : Nat} {w w' : World} (h : Keeps2 B g1 g2 w w') {p : Addr} (hp : p.block < B ∧ p.block ≠ g1 ∧ p.block ≠ g2) : w'.cell? p = w.cell? p := World.cell?_of_block (h.block _ hp.1 hp.2.1 hp.2.2)
theorem grown_none {w w' : World} (h : Below w.heap.size w w') : w.grownBy w' none := ⟨h.os, h.tape, h.output, h.size, fun k hk _ => h.block k hk⟩

/-- A step of a forest that begins at scene s. -/
structure StepAt (ps : List SPair) (fo : Nat → Nat) (f s : Nat) where
  k : Nat
  up : Bool
  on : InL fo f k
  start : (if up then pa ps k else pb ps k) = s
def StepAt.to {ps : List SPair} {fo : Nat → Nat} {f s : Nat} (x : StepAt ps fo f s) : Nat := if x.up then pb ps x.k else pa ps x.k
def StepAt.sign {ps : List SPair} {fo : Nat → Nat} {f s : Nat} (x : StepAt ps fo f s) : Int := if x.up then 1 else -1
def stepEnc {ps : List SPair} {fo : Nat → Nat} {f s : Nat} (x : StepAt ps fo f s) : Array Value := #[.agg #[.int .i64 (x.k : Int), .int .i64 x.sign], .int .i64 (x.to : Int)]
theorem stepEnc_up {ps : List SPair} {fo : Nat → Nat} {f s : Nat} {k : Nat} (h : InL fo f k) (e : pa ps k = s) : stepEnc (⟨k, true, h, e⟩ : StepAt ps fo f s) = #[.agg #[.int .i64 (k : Int), .int .i64 1], .int .i64 (pb ps k : Int)] := rfl
theorem stepEnc_down {ps : List SPair} {fo : Nat → Nat} {f s : Nat} {k : Nat} (h : InL fo f k) (e : pb ps k = s) : stepEnc (⟨k, false, h, e⟩ : StepAt ps fo f s) = #[.agg #[.int .i64 (k : Int), .int .i64 (-1)], .int .i64 (pa ps k : Int)] := rfl
/-- All steps of the first t pairs have come. -/
def Came {ps : List SPair} {fo : Nat → Nat} {f s : Nat} (t : Nat) (ys : List (StepAt ps fo f s)) : Prop := ∀ i, i < t → ∀ x : StepAt ps fo f s, x.k = fo i → x ∈ ys
theorem Came.all {ps : List SPair} {fo : Nat → Nat} {f s : Nat} {ys : List (StepAt ps fo f s)} (h : Came f ys) (x : StepAt ps fo f s) : x ∈ ys := by
  obtain ⟨i, hi, e⟩ := x.on
  exact h i hi x e.symm

theorem Came.step {ps : List SPair} {fo : Nat → Nat} {f s t kk : Nat} {ys zs : List (StepAt ps fo f s)} (h : Came t ys) (hk : fo t = kk) (hsub : ∀ x ∈ ys, x ∈ zs)
    (hu : ∀ (h : InL fo f kk) (e : pa ps kk = s), (⟨kk, true, h, e⟩ : StepAt ps fo f s) ∈ zs) (hd : ∀ (h : InL fo f kk) (e : pb ps kk = s), (⟨kk, false, h, e⟩ : StepAt ps fo f s) ∈ zs) : Came (t + 1) zs := by
  intro i hi x hx
  by_cases hit : i = t
  · obtain ⟨k, up, on, st⟩ := x
    obtain rfl : k = kk := by rw [← hk, ← hit]; exact hx
    cases up
    · exact hd on st
    · exact hu on st
  · exact hsub x (h i (by omega) x hx)
/-- What the iterator has captured, and what it reads. -/
structure FromAt (B g1 g2 bp bg bs : Nat) (A1 A2 Af : Option Addr) (n m c1 c2 cf gp op gf f s : Nat) (ps : List SPair) (fo : Nat → Nat) (W : World) : Prop where
  cp : W.cell? ⟨bp, 0, none⟩ = some (.slice Af f cf)
  cg0 : W.cell? ⟨bg, 0, none⟩ = some (.slice A1 n c1)
  cg1 : W.cell? ⟨bg, 1, none⟩ = some (.slice A2 m c2)
  cg : Blk W bg 84 #[.slice A1 n c1, .slice A2 m c2]
  cs : W.cell? ⟨bs, 0, none⟩ = some (.int .i64 (s : Int))
  cf : ∀ i, i < f → W.cell? ⟨gf, i, none⟩ = some (.int .i64 (fo i : Int))
  ca : ∀ k, k < m → W.cell? ⟨gp, op + k * 2, none⟩ = some (.int .i64 (pa ps k : Int))
  cb : ∀ k, k < m → W.cell? ⟨gp, op + k * 2 + 1, none⟩ = some (.int .i64 (pb ps k : Int))
  size : B ≤ W.heap.size
theorem FromAt.keeps {B g1 g2 bp bg bs : Nat} {A1 A2 Af : Option Addr} {n m c1 c2 cf gp op gf f s : Nat} {ps : List SPair} {fo : Nat → Nat} {W W' : World} (h : FromAt B g1 g2 bp bg bs A1 A2 Af n m c1 c2 cf gp op gf f s ps fo W) (k : Keeps2 B g1 g2 W W')
    (h1 : bp < B ∧ bp ≠ g1 ∧ bp ≠ g2) (h2 : bg < B ∧ bg ≠ g1 ∧ bg ≠ g2) (h3 : bs < B ∧ bs ≠ g1 ∧ bs ≠ g2) (h4 : 0 < m → gp < B ∧ gp ≠ g1 ∧ gp ≠ g2) (h5 : 0 < f → gf < B ∧ gf ≠ g1 ∧ gf ≠ g2) : FromAt B g1 g2 bp bg bs A1 A2 Af n m c1 c2 cf gp op gf f s ps fo W' :=
  ⟨(k.cell (p := ⟨bp, 0, none⟩) h1).trans h.cp, (k.cell (p := ⟨bg, 0, none⟩) h2).trans h.cg0, (k.cell (p := ⟨bg, 1, none⟩) h2).trans h.cg1, (k.block bg h2.1 h2.2.1 h2.2.2).trans h.cg, (k.cell (p := ⟨bs, 0, none⟩) h3).trans h.cs,
    fun i hi => (k.cell (p := ⟨gf, i, none⟩) (h5 (by omega))).trans (h.cf i hi), fun i hi => (k.cell (p := ⟨gp, _, none⟩) (h4 (by omega))).trans (h.ca i hi), fun i hi => (k.cell (p := ⟨gp, _, none⟩) (h4 (by omega))).trans (h.cb i hi), Nat.le_trans h.size k.size⟩

set_option maxRecDepth 100000 in
set_option maxHeartbeats 4000000 in
theorem from1_in (N : Nat) (h1 : 1 ≤ N) (l B g1 g2 bp bg bs : Nat) (A1 A2 Af : Option Addr) (n m c1 c2 cf gp op gf f s : Nat) (ps : List SPair) (fo : Nat → Nat) (hfm : ∀ i, i < f → fo i < m) (hne : ∀ k, k < m → pa ps k < pb ps k) (hf30 : f ≤ 1000) (hAf : 0 < f → Af = some ⟨gf, 0, none⟩) (hA2 : 0 < m → A2 = some ⟨gp, op, none⟩)
    (b1 : bp < B ∧ bp ≠ g1 ∧ bp ≠ g2) (b2 : bg < B ∧ bg ≠ g1 ∧ bg ≠ g2) (b3 : bs < B ∧ bs ≠ g1 ∧ bs ≠ g2) (b4 : 0 < m → gp < B ∧ gp ≠ g1 ∧ gp ≠ g2) (b5 : 0 < f → gf < B ∧ gf ≠ g1 ∧ gf ≠ g2)
    (J Jx : List (StepAt ps fo f s) → World → Prop) (W : World) (hJ : AbidesFrom W.heap.size J)
    (hY : ∀ pre x V, J pre V → pre.length < 2 * f → YieldAt Fence.wide (N - 1) Try.prog l (stepEnc x) V fun e V' =>
      (e = .returned (.bool true) ∧ J (pre ++ [x]) V' ∧ Keeps2 B g1 g2 V V') ∨ (e = .returned (.bool false) ∧ Jx (pre ++ [x]) V'))
    (h0 : J [] W) (hW : FromAt B g1 g2 bp bg bs A1 A2 Af n m c1 c2 cf gp op gf f s ps fo W) :
    CallsIn Fence.wide N Try.prog 54 #[.func (.yield l) #[] #[], .pointer (some ⟨bp, 0, none⟩), .pointer (some ⟨bg, 0, none⟩), .pointer (some ⟨bs, 0, none⟩)] W fun e W' => (∃ v, e = .returned v) ∧
      ((∃ ys, (∀ x, x ∈ ys) ∧ J ys W') ∨ (∃ pre, True ∧ Jx pre W')) := by
  have hwp := hW.cp
  have i0 : ∀ w, (Instr.index 77 (.agg #[.int .i64 1, .int .i64 (-1)]) (.int .i64 0)).run Try.prog w = .ok (.int .i64 1) w := fun _ => by kernel_rfl
  have i1 : ∀ w, (Instr.index 77 (.agg #[.int .i64 1, .int .i64 (-1)]) (.int .i64 1)).run Try.prog w = .ok (.int .i64 (-1)) w := fun _ => by kernel_rfl
  refine callsIn_of_wp Try.func54 rfl trivial ?_ rfl
  simp only [Try.ntmps54, List.size_toArray, List.length_cons, List.length_nil, Nat.reduceAdd, Nat.reduceSub, Array.replicate_succ, Array.replicate_zero, List.push_toArray, List.append_toArray, List.nil_append, List.cons_append]
  gi_wp2
  gi_loopw [14] (fun i wr => ∃ (t : Nat) (pre : List (StepAt ps fo f s)), t ≤ f ∧ i = .int .i64 (t : Int) ∧ pre.length ≤ 2 * t ∧ Hid (Came t pre) ∧ J pre wr ∧ FromAt B g1 g2 bp bg bs A1 A2 Af n m c1 c2 cf gp op gf f s ps fo wr ∧ W.heap.size ≤ wr.heap.size)
    (fun i _ => f - (intOf i).toNat)
  case atStart => exact ⟨0, [], by omega, rfl, by simp, Lib.hid (fun i hi => by omega), h0, hW, Nat.le_refl _⟩
  case round =>
    obtain ⟨t, pre, ht, rfl, hpl, hcame, hJ0, hA, hsz⟩ := hrel
    by_cases hlt : t < f
    · obtain rfl := hAf (by omega)
      have hgf := b5 (by omega)
      have hk := hfm t hlt
      obtain rfl := hA2 (by omega)
      have hgp := b4 (by omega)
      have hfo : wr.cell? ⟨gf, t, none⟩ = some (.int .i64 (fo t : Int)) := hA.cf t hlt
      obtain ⟨kk, hkk⟩ : ∃ kk, fo t = kk := ⟨_, rfl⟩
      have hIn : InL fo f kk := ⟨t, hlt, hkk⟩
      rw [hkk] at hk hfo
      have HK := Lib.hid hkk
      clear hkk
      have hti : (t : Int) < (f : Int) := by omega
      gi_wp2
      refine wpIn_loop_rounds 3 ?_
      have HA := Lib.hid hA
      have hE : ∀ (V : World) (sg : Int), FromAt B g1 g2 bp bg bs A1 (some ⟨gp, op, none⟩) (some ⟨gf, 0, none⟩) n m c1 c2 cf gp op gf f s ps fo V → Calls Try.prog 55 #[.agg #[.slice A1 n c1, .slice (some ⟨gp, op, none⟩) m c2], .agg #[.int .i64 (kk : Int), .int .i64 sg]] (V.alloc (.cells #[.int .i64 (kk : Int), .int .i64 sg] 101)) _ :=
        fun V sg hV => ends_any A1 n m c1 c2 kk gp op (pa ps kk) (pb ps kk) sg _ hk (by rw [World.size_alloc]; have := hV.size; omega) ((World.cell?_alloc_lt _ _ ⟨gp, _, none⟩ (Nat.lt_of_lt_of_le hgp.1 hV.size)).trans (hV.ca kk hk)) ((World.cell?_alloc_lt _ _ ⟨gp, _, none⟩ (Nat.lt_of_lt_of_le hgp.1 hV.size)).trans (hV.cb kk hk))
      clear hA hfo hW hwp h0
      --ROUNDS
      rw [roundsIn_succ]
      have e0 := HA.out.cg0
      have e1 := HA.out.cg1
      have e2 := HA.out.cs
      have z0 : bg < wr.heap.size := Nat.lt_of_lt_of_le b2.1 HA.out.size
      have z1 : bs < wr.heap.size := Nat.lt_of_lt_of_le b3.1 HA.out.size
      gi_wp2_with fail
      refine ⟨trivial, callsIn_wide.2 ((hE wr (1) HA.out).mono ?_)⟩
      rintro e w2 ⟨rfl, hb2⟩
      have hgr2 : wr.grownBy w2 none := grown_none (((Below.refl _ wr).alloc (Nat.le_refl _) _).trans (hb2.mono (by simp)))
      have J2 : J _ w2 := hJ _ _ _ none hJ0 hgr2 (fun r e => by cases e)
      have A2 := Lib.hid (HA.out.keeps (Keeps2.of_grown hgr2 HA.out.size (fun r e => by cases e)) b1 b2 b3 b4 (fun _ => hgf))
      have bx2 := (Blk.new wr 101 #[.int .i64 (kk : Int), .int .i64 (1)]).below hb2 (by simp)
      have x0 := bx2.cell 0
      have x1 := bx2.cell 1
      have s2 : w2.cell? ⟨bs, 0, none⟩ = some (.int .i64 (s : Int)) := A2.out.cs
      have hsz2 := hgr2.size
      clear e0 e1 e2 z0 z1 hb2 hgr2
      by_cases hpa : pa ps kk = s
      · obtain ⟨fn, tmps, assign, body, hy, hR⟩ := hY _ ⟨kk, true, hIn, hpa⟩ w2 J2 (by omega)
        rw [stepEnc_up] at hy
        have hpai : ((pa ps kk : Nat) : Int) = (s : Int) := by rw [hpa]
        gi_wp2_with fail
        refine hR.mono ?_
        rintro e V2 (⟨rfl, K2, hk2⟩ | ⟨rfl, hJx⟩)
        · have B2 := Lib.hid (A2.out.keeps hk2 b1 b2 b3 b4 (fun _ => hgf))
          have hv2 := hk2.size
          clear hk2 x0 x1 s2 hy hR bx2
          gi_wp2_with fail
          rw [roundsIn_succ]
          have e0 := B2.out.cg0
          have e1 := B2.out.cg1
          have e2 := B2.out.cs
          have z0 : bg < V2.heap.size := Nat.lt_of_lt_of_le b2.1 B2.out.size
          have z1 : bs < V2.heap.size := Nat.lt_of_lt_of_le b3.1 B2.out.size
          gi_wp2_with fail
          refine ⟨trivial, callsIn_wide.2 ((hE V2 (-1) B2.out).mono ?_)⟩
          rintro e w4 ⟨rfl, hb4⟩
          have hgr4 : V2.grownBy w4 none := grown_none (((Below.refl _ V2).alloc (Nat.le_refl _) _).trans (hb4.mono (by simp)))
          have J4 : J _ w4 := hJ _ _ _ none K2 hgr4 (fun r e => by cases e)
          have A4 := Lib.hid (B2.out.keeps (Keeps2.of_grown hgr4 B2.out.size (fun r e => by cases e)) b1 b2 b3 b4 (fun _ => hgf))
          have bx4 := (Blk.new V2 101 #[.int .i64 (kk : Int), .int .i64 (-1)]).below hb4 (by simp)
          have x0 := bx4.cell 0
          have x1 := bx4.cell 1
          have s2 : w4.cell? ⟨bs, 0, none⟩ = some (.int .i64 (s : Int)) := A4.out.cs
          have hsz4 := hgr4.size
          clear e0 e1 e2 z0 z1 hb4 hgr4
          by_cases hpb : pb ps kk = s
          · have := hne kk hk
            omega
          · have hpbi : ¬ ((pb ps kk : Nat) : Int) = (s : Int) := by omega
            gi_wp2_with fail
            refine ⟨fun _ h => (by cases h), ?_⟩
            clear x0 x1 s2
            gi_wp2
            rw [roundsIn_succ]
            gi_wp2
            go_roundw
            case rel => exact ⟨t + 1, pre ++ [⟨kk, true, hIn, hpa⟩], by omega, by go_num, by first | omega | (simp only [List.length_append, List.length_cons, List.length_nil]; omega), Lib.hid (hcame.out.step HK.out (fun x hx => by first | exact hx | (simp only [List.mem_append]; first | exact .inl hx | exact .inl (.inl hx))) (fun h e => by simp) (fun h e => absurd e hpb)), J4, A4.out, by omega⟩
            case measure => simp [intOf]; omega
        · gi_wp2
          refine bodyPost_ret (results_none rfl _ _ _) rfl ?_
          exact ⟨⟨_, rfl⟩, .inr ⟨_, trivial, hJx⟩⟩
      · have hpai : ¬ ((pa ps kk : Nat) : Int) = (s : Int) := by omega
        gi_wp2_with fail
        refine ⟨fun _ h => (by cases h), ?_⟩
        clear x0 x1 s2 bx2
        gi_wp2_with fail
        rw [roundsIn_succ]
        have e0 := A2.out.cg0
        have e1 := A2.out.cg1
        have e2 := A2.out.cs
        have z0 : bg < w2.heap.size := Nat.lt_of_lt_of_le b2.1 A2.out.size
        have z1 : bs < w2.heap.size := Nat.lt_of_lt_of_le b3.1 A2.out.size
        gi_wp2_with fail
        refine ⟨trivial, callsIn_wide.2 ((hE w2 (-1) A2.out).mono ?_)⟩
        rintro e w4 ⟨rfl, hb4⟩
        have hgr4 : w2.grownBy w4 none := grown_none (((Below.refl _ w2).alloc (Nat.le_refl _) _).trans (hb4.mono (by simp)))
        have J4 : J _ w4 := hJ _ _ _ none J2 hgr4 (fun r e => by cases e)
        have A4 := Lib.hid (A2.out.keeps (Keeps2.of_grown hgr4 A2.out.size (fun r e => by cases e)) b1 b2 b3 b4 (fun _ => hgf))
        have bx4 := (Blk.new w2 101 #[.int .i64 (kk : Int), .int .i64 (-1)]).below hb4 (by simp)
        have x0 := bx4.cell 0
        have x1 := bx4.cell 1
        have s2 : w4.cell? ⟨bs, 0, none⟩ = some (.int .i64 (s : Int)) := A4.out.cs
        have hsz4 := hgr4.size
        clear e0 e1 e2 z0 z1 hb4 hgr4
        by_cases hpb : pb ps kk = s
        · obtain ⟨fn, tmps, assign, body, hy, hR⟩ := hY _ ⟨kk, false, hIn, hpb⟩ w4 J4 (by first | omega | (simp only [List.length_append, List.length_cons, List.length_nil]; omega))
          rw [stepEnc_down] at hy
          have hpbi : ((pb ps kk : Nat) : Int) = (s : Int) := by rw [hpb]
          gi_wp2_with fail
          refine hR.mono ?_
          rintro e V4 (⟨rfl, K4, hk4⟩ | ⟨rfl, hJx⟩)
          · have B4 := Lib.hid (A4.out.keeps hk4 b1 b2 b3 b4 (fun _ => hgf))
            have hv4 := hk4.size
            clear hk4 x0 x1 s2 hy hR
            gi_wp2
            rw [roundsIn_succ]
            gi_wp2
            go_roundw
            case rel => exact ⟨t + 1, (pre) ++ [⟨kk, false, hIn, hpb⟩], by omega, by go_num, by first | omega | (simp only [List.length_append, List.length_cons, List.length_nil]; omega), Lib.hid (hcame.out.step HK.out (fun x hx => by first | exact hx | (simp only [List.mem_append]; first | exact .inl hx | exact .inl (.inl hx))) (fun h e => absurd e hpa) (fun h e => by simp)), K4, B4.out, by omega⟩
            case measure => simp [intOf]; omega
          · gi_wp2
            refine bodyPost_ret (results_none rfl _ _ _) rfl ?_
            exact ⟨⟨_, rfl⟩, .inr ⟨_, trivial, hJx⟩⟩
        · have hpbi : ¬ ((pb ps kk : Nat) : Int) = (s : Int) := by omega
          gi_wp2_with fail
          refine ⟨fun _ h => (by cases h), ?_⟩
          clear x0 x1 s2
          gi_wp2
          rw [roundsIn_succ]
          gi_wp2
          go_roundw
          case rel => exact ⟨t + 1, pre, by omega, by go_num, by first | omega | (simp only [List.length_append, List.length_cons, List.length_nil]; omega), Lib.hid (hcame.out.step HK.out (fun x hx => by first | exact hx | (simp only [List.mem_append]; first | exact .inl hx | exact .inl (.inl hx))) (fun h e => absurd e hpa) (fun h e => absurd e hpb)), J4, A4.out, by omega⟩
          case measure => simp [intOf]; omega
    · obtain rfl : t = f := by omega
      gi_wp2
      go_end0
      exact ⟨⟨_, rfl⟩, .inl ⟨pre, fun x => hcame.out.all x, hJ0⟩⟩
end Go.Proofs.Ytncmdjhdfhhkjaa
