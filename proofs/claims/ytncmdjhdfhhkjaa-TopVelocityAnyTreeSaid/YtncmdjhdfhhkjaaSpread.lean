/- 'spread', the closure of 'sums' that calls itself: it finds the sums of all scenes that a forest joins with one. -/
import Derived.Test.YtncmdjhdfhhkjaaSpreadLaw
namespace Go.Proofs.Ytncmdjhdfhhkjaa
open Go.RowKit Go.Sort

attribute [local go_sem] Oper.semAt_some

/-- What 'spread' leaves. -/
def SpreadPost (S : SpS) (c : Int) (kn : Nat → Bool) (out : Nat → Int) (s : Nat) (W : World) (e : Ending) (w' : World) : Prop :=
  e = .returned (.tuple #[]) ∧ ∃ kn' out', SpreadAt S w' kn' out' ∧ Grew S c kn out kn' out' ∧ kn' s = true ∧ Keeps2 W.heap.size S.gk S.go W w'
def SpreadHolds (S : SpS) (u : Nat) : Prop := ∀ (kn : Nat → Bool) (out : Nat → Int) (s : Nat) (c : Int) (W : World), unknown kn S.n ≤ u → SpreadAt S W kn out → s < S.n → kn s = false → out s = S.P s + c → -200000 ≤ c → c ≤ 200000 →
  Calls Try.prog 40 #[.int .i64 (s : Int), .pointer (some ⟨S.bk, 0, none⟩), .pointer (some ⟨S.bg, 0, none⟩), .pointer (some ⟨S.bf, 0, none⟩), .pointer (some ⟨S.bo, 0, none⟩), .pointer (some ⟨S.bh, 0, none⟩), .pointer (some ⟨S.bs, 0, none⟩)] W (SpreadPost S c kn out s W)

theorem grown_drew (w : World) (row : Option Nat) : w.grownBy w.drew row := ⟨rfl, rfl, rfl, Nat.le_refl _, fun _ _ _ => rfl⟩
theorem step_sum {S : SpS} (hS : SpOk S) {s : Nat} {c o : Int} (x : StepAt S.ps S.fo S.f s) (hs : s < S.n) (ho : o = S.P s + c) (h1 : -200000 ≤ c) (h2 : c ≤ 200000) : wrap64 (o + wrap64 (x.sign * (S.P (pb S.ps x.k) - S.P (pa S.ps x.k)))) = S.P x.to + c := by
  obtain ⟨i, hi, e⟩ := x.on
  have h3 := hS.small i hi
  have h4 := hS.ends x.k (by omega)
  have p1 := hS.pot (pa S.ps x.k) (by omega)
  have p2 := hS.pot (pb S.ps x.k) (by omega)
  have h5 := x.start
  unfold StepAt.sign StepAt.to
  subst ho
  cases hu : x.up <;> rw [hu] at h5 <;> simp only [if_true, if_false, Bool.false_eq_true] at h5 ⊢ <;> have h6 := congrArg S.P h5
  · rw [show wrap64 (-1 * (S.P (pb S.ps x.k) - S.P (pa S.ps x.k))) = -1 * (S.P (pb S.ps x.k) - S.P (pa S.ps x.k)) from wrap64_in _ (by omega)]
    exact (wrap64_in _ (by omega)).trans (by omega)
  · rw [show wrap64 (1 * (S.P (pb S.ps x.k) - S.P (pa S.ps x.k))) = 1 * (S.P (pb S.ps x.k) - S.P (pa S.ps x.k)) from wrap64_in _ (by omega)]
    exact (wrap64_in _ (by omega)).trans (by omega)
theorem all_snoc {α : Type} {p : α → Prop} {pre : List α} {x : α} (h : ∀ y ∈ pre, p y) (hx : p x) : ∀ y ∈ pre ++ [x], p y := fun y hy => by
  rcases List.mem_append.1 hy with h1 | h1
  · exact h y h1
  · rw [List.mem_singleton.1 h1]; exact hx
theorem StepAt.bounds {S : SpS} (hS : SpOk S) {s : Nat} (x : StepAt S.ps S.fo S.f s) : x.k < S.m ∧ x.to < S.n := by
  obtain ⟨i, hi, e⟩ := x.on
  have h1 := hS.small i hi
  have h2 := hS.ends x.k (by omega)
  refine ⟨by omega, ?_⟩
  unfold StepAt.to
  split <;> omega

set_option maxRecDepth 100000 in
set_option maxHeartbeats 4000000 in
theorem spread_step (S : SpS) (hS : SpOk S) (u : Nat) (ih : SpreadHolds S u) : SpreadHolds S (u + 1) := by
  intro kn out s c W hu hA hs hkn hout hc1 hc2
  have a0 : W.cell? ⟨S.bk, 0, none⟩ = some (.slice (some ⟨S.gk, 0, none⟩) S.n S.ck) := hA.ck.cell 0
  have a1 : W.cell? ⟨S.bg, 0, none⟩ = some (.slice S.A1 S.n S.c1) := hA.cg.cell 0
  have a2 : W.cell? ⟨S.bg, 1, none⟩ = some (.slice S.A2 S.m S.c2) := hA.cg.cell 1
  have a3 : W.cell? ⟨S.bf, 0, none⟩ = some (.slice S.Af S.f S.cf) := hA.cf.cell 0
  have a4 : W.cell? ⟨S.gk, s, none⟩ = some (.bool (kn s)) := hA.knownAt hs
  have a5 : W.frozen? ⟨S.gk, s, none⟩ = false := hA.rk.frozenAt s
  have hsi : (s : Int) < (S.n : Int) := by omega
  have z0 : S.bk < W.heap.size := Nat.lt_of_lt_of_le hS.b1.1 hA.size
  have z1 : S.bg < W.heap.size := Nat.lt_of_lt_of_le hS.b2.1 hA.size
  have z2 : S.bf < W.heap.size := Nat.lt_of_lt_of_le hS.b3.1 hA.size
  have z3 : S.gk < W.heap.size := Nat.lt_of_lt_of_le hS.kB hA.size
  have n1 : S.bg ≠ S.gk := hS.b2.2.1
  have n2 : S.bf ≠ S.gk := hS.b3.2.1
  have hK0 : W.grownBy (W.setCell ⟨S.gk, s, none⟩ (.bool true)) (some S.gk) := (hA.rk.stored s (.bool true)).2
  have hA1 := (hA.known hS s).grown hS (World.grownBy_alloc _ (.cells #[.int .i64 (s : Int)] 3) none) (fun r e => by cases e)
  have hK1 := hK0.trans (World.grownBy_alloc _ (.cells #[.int .i64 (s : Int)] 3) _)
  have hb1 := Blk.new (W.setCell ⟨S.gk, s, none⟩ (.bool true)) 3 #[.int .i64 (s : Int)]
  have hzs : (W.setCell ⟨S.gk, s, none⟩ (.bool true)).heap.size = W.heap.size := by simp
  rw [hzs] at hb1
  have hz1 : ((W.setCell ⟨S.gk, s, none⟩ (.bool true)).alloc (.cells #[.int .i64 (s : Int)] 3)).heap.size = W.heap.size + 1 := by simp
  have HS := Lib.hid hS
  have HA := Lib.hid hA
  clear hS hA
  refine (callsIn_wide (n := 3)).1 ?_
  refine callsIn_of_wp_marks Try.func40 rfl trivial ?_ rfl
  simp only [Try.ntmps40, List.size_toArray, List.length_cons, List.length_nil, Nat.reduceAdd, Nat.reduceSub, Array.replicate_succ, Array.replicate_zero, List.push_toArray, List.append_toArray, List.nil_append, List.cons_append]
  gi_wp2_with fail
  generalize ((W.setCell ⟨S.gk, s, none⟩ (.bool true)).alloc (.cells #[.int .i64 (s : Int)] 3)) = W1 at *
  refine ⟨trivial, callsIn_wide.2 ((from_any S.A1 S.A2 S.Af S.n S.m S.c1 S.c2 s S.f S.cf W1).mono ?_)⟩
  rintro e w1 ⟨rfl, kg, kss, kf, hB1, hz2⟩
  rw [hz1] at kg kss kf hz2 ⊢
  have A1 := hA1.grown HS.out (grown_none hB1) (fun r e => by cases e)
  have bS := hb1.below hB1 hb1.lt
  have K1 : Keeps2 W.heap.size S.gk S.go W w1 := (Keeps2.of_grown hK1 (Nat.le_refl _) (fun r e => .inr (.inl (by injection e with e; exact e.symm)))).trans (Keeps2.of_below hB1 (by omega))
  clear hK0 hK1 hb1 hA1 hB1 hz1 hzs a5
  gi_wp2_with fail
  have hB : S.B ≤ w1.heap.size := A1.size
  have hBW : S.B ≤ W.heap.size := HA.out.size
  have c1 : S.gk < S.B := HS.out.kB
  have c2 : S.go < S.B := HS.out.oB
  have fA : FromAt w1.heap.size S.gk S.go (W.heap.size + 1 + 1 + 1) (W.heap.size + 1) (W.heap.size + 1 + 1) S.A1 S.A2 S.Af S.n S.m S.c1 S.c2 S.cf S.gp S.op S.gf S.f s S.ps S.fo w1 :=
    ⟨kf.cell 0, kg.cell 0, kg.cell 1, kg, kss.cell 0, A1.fo, A1.ea, A1.eb, Nat.le_refl _⟩
  have h7 := HS.out.b7
  have h8 := HS.out.b8
  refine wpIn_rangeFunc_ownH (α := StepAt S.ps S.fo S.f s) rfl (by omega) (gf := 54) (lb := #[.pointer (some ⟨W.heap.size + 1 + 1 + 1, 0, none⟩), .pointer (some ⟨W.heap.size + 1, 0, none⟩), .pointer (some ⟨W.heap.size + 1 + 1, 0, none⟩)]) rfl trivial (enters_of Try.func54 (by kernel_rfl) rfl)
    (steps_stops (3 - 1) (by omega) w1.heap.size S.gk S.go (W.heap.size + 1 + 1 + 1) (W.heap.size + 1) (W.heap.size + 1 + 1) S.A1 S.A2 S.Af S.n S.m S.c1 S.c2 S.cf S.gp S.op S.gf S.f s S.ps S.fo HS.out.small (fun k hk => (HS.out.ends k hk).1) (by have := HS.out.fewF; have := HS.out.fewM; omega) HS.out.row HS.out.rowP (by omega) (by omega) (by omega) (fun h => by have := h7 h; omega) (fun h => by have := h8 h; omega) w1 fA)
    (fun h k => h.trans k)
    (fun V l o o' hl ho _ _ => Keeps2.of_grown (grownBy_putObj' V l o') (by have := (Array.getElem?_eq_some_iff.1 ho).1; omega) (fun k e => .inl (by injection e with e; omega)))
    (Below.refl _ _) (fun _ => rfl)
    (fun pre V => ∃ kn' out', SpreadAt S V kn' out' ∧ Keeps2 W.heap.size S.gk S.go W V ∧ Blk V W.heap.size 3 #[.int .i64 (s : Int)] ∧ w1.heap.size ≤ V.heap.size ∧ Hid (Grew S c (setF kn s true) out kn' out' ∧ ∀ x ∈ pre, kn' (StepAt.to x) = true))
    (fun _ _ _ => False)
    (by
      rintro pre V V' row ⟨kn', out', h1, h2, h3, h4, h5⟩ hg hr
      refine ⟨kn', out', h1.grown HS.out hg (fun r e => by have := (hr r e).1; omega), h2.trans (Keeps2.of_grown hg (by omega) (fun r e => .inl (by have := (hr r e).1; omega))), h3.grown hg (fun e => by have := (hr _ e.symm).1; omega), Nat.le_trans h4 hg.size, h5⟩)
    (fun _ _ _ _ _ hs _ _ => hs)
    ⟨setF kn s true, out, A1, K1, bS, Nat.le_refl _, Lib.hid ⟨Grew.refl, fun x hx => by cases hx⟩⟩
    (fun x a' V => ∃ Bx, w1.heap.size ≤ Bx ∧ Blk V Bx 101 #[.int .i64 (x.k : Int), .int .i64 x.sign] ∧ a' = { tmps := #[.int .i64 (s : Int), .pointer (some ⟨S.bk, 0, none⟩), .pointer (some ⟨S.bg, 0, none⟩), .pointer (some ⟨S.bf, 0, none⟩), .pointer (some ⟨S.bo, 0, none⟩), .pointer (some ⟨S.bh, 0, none⟩), .pointer (some ⟨S.bs, 0, none⟩), .pointer (some ⟨W.heap.size, 0, none⟩), .pointer (some ⟨Bx, 0, none⟩), .int .i64 (x.to : Int), .slice (some ⟨S.gk, 0, none⟩) S.n S.ck, .int .i64 (s : Int), .pointer (some ⟨S.gk, s, none⟩), .agg #[.slice S.A1 S.n S.c1, .slice S.A2 S.m S.c2], .int .i64 (s : Int), .slice S.Af S.f S.cf, .func (.func 54) #[] #[.pointer (some ⟨W.heap.size + 1 + 1 + 1, 0, none⟩), .pointer (some ⟨W.heap.size + 1, 0, none⟩), .pointer (some ⟨W.heap.size + 1 + 1, 0, none⟩)], .agg #[.int .i64 (x.k : Int), .int .i64 x.sign], .int .i64 (x.to : Int), undef, undef, undef, undef, undef, undef, undef, undef, undef, undef, undef, undef, undef, undef, undef, undef, undef, undef, undef, undef, undef, undef, undef, undef], defers := [] })
    (by
      rintro x a' _ V V' row ⟨Bx, h1, h2, h3⟩ hg hr
      refine ⟨Bx, h1, h2.grown hg (fun e => ?_), h3⟩
      obtain ⟨_, o, ho, hc⟩ := hr _ e.symm
      rw [show V.heap[Bx]? = _ from h2] at ho
      cases ho
      cases hc)
    ?assign ?body ?done ?stop
  case assign =>
    rintro l pre x V K ⟨kn', out', h1, h2, h3, h4, h5⟩ hK
    unfold stepEnc
    gi_wp2
    have hg := World.grownBy_alloc V (.cells #[.int .i64 (x.k : Int), .int .i64 x.sign] 101) none
    exact hK _ _ ((KeepsOthers.alloc _ _).from _) (Keeps2.of_grown hg h4 (fun r e => by cases e)) ⟨kn', out', h1.grown HS.out hg (fun r e => by cases e), h2.trans (Keeps2.of_grown hg (by omega) (fun r e => by cases e)), h3.alloc _, by rw [World.size_alloc]; omega, h5⟩ ⟨V.heap.size, h4, Blk.new _ _ _, rfl⟩
  case body =>
    rintro l pre x a' V hl ⟨r, hr⟩ ⟨kn', out', h1, h2, h3, h4, h5⟩ ⟨Bx, hBx, bX, rfl⟩ hlen
    obtain ⟨hxm, hxn⟩ := StepAt.bounds HS.out x
    have d0 : V.cell? ⟨S.bk, 0, none⟩ = some (.slice (some ⟨S.gk, 0, none⟩) S.n S.ck) := h1.ck.cell 0
    have d1 : V.cell? ⟨S.gk, x.to, none⟩ = some (.bool (kn' x.to)) := h1.knownAt hxn
    have hxi : (x.to : Int) < (S.n : Int) := by omega
    cases hkx : kn' x.to with
    | true =>
      rw [hkx] at d1
      gi_wp2
      exact ⟨KeepsFrom.refl _ _, Keeps2.refl _ _ _ _, kn', out', h1, h2, h3, h4, Lib.hid ⟨h5.out.1, all_snoc h5.out.2 hkx⟩⟩
    | false =>
      rw [hkx] at d1
      have d2 : V.cell? ⟨S.bo, 0, none⟩ = some (.slice (some ⟨S.go, 0, none⟩) S.n S.co) := h1.co.cell 0
      have d3 : V.cell? ⟨S.go, s, none⟩ = some (.int .i64 (out' s)) := h1.outAt hs
      have d4 : V.cell? ⟨S.go, x.to, none⟩ = some (.int .i64 (out' x.to)) := h1.outAt hxn
      have d5 : V.cell? ⟨W.heap.size, 0, none⟩ = some (.int .i64 (s : Int)) := h3.cell 0
      have d6 : V.cell? ⟨Bx, 0, none⟩ = some (.int .i64 (x.k : Int)) := bX.cell 0
      have d7 : V.cell? ⟨Bx, 1, none⟩ = some (.int .i64 x.sign) := bX.cell 1
      have d8 : V.cell? ⟨S.bh, 0, none⟩ = some (.slice (some ⟨S.gh, S.oh, none⟩) S.m S.ch) := by rw [← HS.out.rowH (by omega)]; exact h1.ch.cell 0
      have d9 : V.cell? ⟨S.gh, S.oh + x.k, none⟩ = some (.int .i64 (S.P (pb S.ps x.k) - S.P (pa S.ps x.k))) := h1.ph _ hxm
      have e0 : V.frozen? ⟨S.go, x.to, none⟩ = false := h1.ro.frozenAt _
      have hxk : (x.k : Int) < (S.m : Int) := by omega
      have hsn0 : (0 : Int) ≤ (s : Int) := by omega
      have hxt0 : (0 : Int) ≤ (x.to : Int) := by omega
      have hxk0 : (0 : Int) ≤ (x.k : Int) := by omega
      gi_wp2_with fail
      refine wpIn_region_tail 15 (by kernel_rfl) (by kernel_rfl) ?hQ (by simp) ?_
      case hQ => rintro ⟨a, w, h⟩; exact h
      simp only [List.take_succ_cons, List.take_zero, List.drop_succ_cons, List.drop_zero]
      repeat still_step
      refine wpStill_nil ?_
      go_wp2
      have hsum : wrap64 (out' s + wrap64 (x.sign * (S.P (pb S.ps x.k) - S.P (pa S.ps x.k)))) = S.P x.to + c := step_sum HS.out x hs (by rw [h5.out.1.old s (setF_same _ _ _), hout]) hc1 hc2
      have hA2 := (h1.stored HS.out x.to (S.P x.to + c)).grown HS.out (grown_drew _ none) (fun r e => by cases e)
      have hgs := ((h1.ro.stored x.to (.int .i64 (S.P x.to + c))).2).trans (grown_drew _ _)
      rw [hsum]
      clear d0 d1 d2 d3 d4 d5 d6 d7 d8 d9 e0 bX
      generalize (V.setCell ⟨S.go, x.to, none⟩ (.int .i64 (S.P x.to + c))).drew = V1 at *
      have f0 : V1.cell? ⟨S.bs, 0, none⟩ = some (spreadFn S) := hA2.cs.cell 0
      unfold spreadFn at f0
      gi_wp2_with fail
      have hsz1 := hgs.size
      have hu1 : unknown kn' S.n ≤ u := by
        have e1 := unknown_mono S.n h5.out.1.more
        have e2 := unknown_set hs hkn
        omega
      refine ⟨trivial, CallsIn.inRound l (callsIn_wide.2 ((ih kn' _ x.to c V1 hu1 hA2 hxn hkx (setF_same _ _ _) hc1 hc2).mono ?_))⟩
      rintro e V2 ⟨rfl, kn2, out2, q1, q2, q3, q4⟩
      have K : Keeps2 V.heap.size S.gk S.go V V2 := (Keeps2.of_grown hgs (Nat.le_refl _) (fun r e => .inr (.inr (by injection e with e; exact e.symm)))).trans (q4.mono hsz1)
      have h3lt := h3.lt
      gi_wp2
      exact ⟨⟨K.size, fun k o hk ho _ => (K.block k (Array.getElem?_eq_some_iff.1 ho).1 (by omega) (by omega)).trans ho⟩, K.mono h4, kn2, out2, q1, h2.trans (K.mono (by omega)), (K.block _ h3lt (by omega) (by omega)).trans h3, Nat.le_trans h4 K.size, Lib.hid ⟨h5.out.1.trans (q2.of_store hkx q3), all_snoc (fun y hy => q2.more _ (h5.out.2 y hy)) q3⟩⟩
  case done =>
    rintro D ys V hD hall ⟨kn', out', h1, h2, h3, h4, h5⟩ hK
    gi_wp2
    have hg := grownBy_putObj' V D (.deferred none)
    have hgr := Grew.first h5.out.1 hout (fun k hk => ⟨fun e => h5.out.2 ⟨k, true, hk, e⟩ (hall _), fun e => h5.out.2 ⟨k, false, hk, e⟩ (hall _)⟩) hkn
    refine ⟨by simp, .inl ⟨_, _, rfl, run_takeDeferred hK, ?_⟩⟩
    exact ⟨_, results_none rfl _ _ _, rfl, kn', out', h1.grown HS.out hg (fun r e => by injection e with e; omega), hgr.1, hgr.2, h2.trans (Keeps2.of_grown hg (by omega) (fun r e => .inl (by injection e with e; omega)))⟩
  case stop =>
    rintro D c' pre V _ _ h _
    exact h.elim

theorem spread_any (S : SpS) (hS : SpOk S) : ∀ u, SpreadHolds S u
  | 0 => fun kn out s c W hu _ hs hkn _ _ _ => by have := unknown_set hs hkn; omega
  | u + 1 => spread_step S hS u (spread_any S hS u)
end Go.Proofs.Ytncmdjhdfhhkjaa
