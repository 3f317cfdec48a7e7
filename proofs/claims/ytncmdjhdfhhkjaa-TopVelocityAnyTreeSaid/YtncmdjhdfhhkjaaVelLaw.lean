/-
  For every series, every two lists of pairs and every datum: the statement 'the velocity follows from any pairs' returns true, and its arguments read behind the call as they read before. No condition.
-/
import Derived.Test.YtncmdjhdfhhkjaaRows
import Derived.Test.YtncmdjhdfhhkjaaVel
import Derived.Test.YtncmdjhdfhhkjaaOpenArgs
namespace Go.Proofs.Ytncmdjhdfhhkjaa
open Go.ChangeShapes Go.WideShapes Go.ChangeAt Go.RowKit Go.Joins Go.Deep

theorem own : ownKnob Try.prog.godebug = none := by kernel_rfl
section
variable {H : Type} {enc : TypeId × Value → H} {w : World} {base : Nat} {spare : Nat → Bool} {held : Bool}
set_option maxRecDepth 100000 in
theorem epoch_reads (n : Nat) (cs : List Value) (y : DataW H × List MemPlace) (h : DataW.trod enc Try.prog w base spare held n 51 cs = some y) : ∃ z : Epoch, cs = z.enc ∧ True := by
  obtain ⟨xs, m, _, _, hl, hx, hf⟩ := DataW.trod_struct Try.underlying51 h
  have hl4 : cs.length = 4 := hl.trans (by kernel_rfl)
  have hx4 : xs.length = 4 := hx
  match cs, hl4, xs, hx4 with
  | [c0, c1, c2, c3], _, [x0, x1, x2, x3], _ =>
    have k3 : Try.prog.cellsOf 3 = 1 := by kernel_rfl
    have g0 : DataW.trod enc Try.prog w base spare held m 3 (([c0, c1, c2, c3].drop 0).take (Try.prog.cellsOf 3)) = some x0 := hf 0 _ rfl
    have g1 : DataW.trod enc Try.prog w base spare held m 3 (([c0, c1, c2, c3].drop 1).take (Try.prog.cellsOf 3)) = some x1 := hf 1 _ rfl
    have g2 : DataW.trod enc Try.prog w base spare held m 3 (([c0, c1, c2, c3].drop 2).take (Try.prog.cellsOf 3)) = some x2 := hf 2 _ rfl
    have g3 : DataW.trod enc Try.prog w base spare held m 3 (([c0, c1, c2, c3].drop 3).take (Try.prog.cellsOf 3)) = some x3 := hf 3 _ rfl
    rw [k3] at g0 g1 g2 g3
    replace g0 : DataW.trod enc Try.prog w base spare held m 3 [c0] = some x0 := g0
    replace g1 : DataW.trod enc Try.prog w base spare held m 3 [c1] = some x1 := g1
    replace g2 : DataW.trod enc Try.prog w base spare held m 3 [c2] = some x2 := g2
    replace g3 : DataW.trod enc Try.prog w base spare held m 3 [c3] = some x3 := g3
    obtain ⟨a, ha, _⟩ := int_reads Try.underlying3 g0
    obtain ⟨b, hb, _⟩ := int_reads Try.underlying3 g1
    obtain ⟨c, hc, _⟩ := int_reads Try.underlying3 g2
    obtain ⟨d, hd, _⟩ := int_reads Try.underlying3 g3
    obtain rfl := (List.cons.inj ha).1
    obtain rfl := (List.cons.inj hb).1
    obtain rfl := (List.cons.inj hc).1
    obtain rfl := (List.cons.inj hd).1
    exact ⟨⟨a, b, c, d⟩, rfl, trivial⟩
set_option maxRecDepth 100000 in
theorem pair_reads (n : Nat) (cs : List Value) (y : DataW H × List MemPlace) (h : DataW.trod enc Try.prog w base spare held n 77 cs = some y) : ∃ z : SPair, cs = z.enc ∧ True := by
  obtain ⟨xs, m, _, _, hl, hx, hf⟩ := DataW.trod_array Try.underlying77 h
  have hl2 : cs.length = 2 := hl.trans (by kernel_rfl)
  match cs, hl2, xs, hx with
  | [c0, c1], _, [x0, x1], _ =>
    have k3 : Try.prog.cellsOf 3 = 1 := by kernel_rfl
    have g0 : DataW.trod enc Try.prog w base spare held m 3 (([c0, c1].drop (0 * Try.prog.cellsOf 3)).take (Try.prog.cellsOf 3)) = some x0 := hf 0 (by omega)
    have g1 : DataW.trod enc Try.prog w base spare held m 3 (([c0, c1].drop (1 * Try.prog.cellsOf 3)).take (Try.prog.cellsOf 3)) = some x1 := hf 1 (by omega)
    rw [k3] at g0 g1
    replace g0 : DataW.trod enc Try.prog w base spare held m 3 [c0] = some x0 := g0
    replace g1 : DataW.trod enc Try.prog w base spare held m 3 [c1] = some x1 := g1
    obtain ⟨a, ha, _⟩ := int_reads Try.underlying3 g0
    obtain ⟨b, hb, _⟩ := int_reads Try.underlying3 g1
    obtain rfl := (List.cons.inj ha).1
    obtain rfl := (List.cons.inj hb).1
    exact ⟨⟨a, b⟩, rfl, trivial⟩
end

set_option maxRecDepth 100000 in
theorem velocity_lifted (os : Os) (started : os.Started) (H : Type) (enc : TypeId × Value → H) :
    ReturnsInHanded {} Try.checked os 3 .any (Rows.topVelocityAnyTreeSpec.pre6 enc Try.prog Try.f3 Rows.topVelocityAnyTreeRow.domain false) (Rows.topVelocityAnyTreeSpec.post enc Try.prog Try.f3 false true false false) := by
  refine returnsInHanded_of_change (C := Try.checked) own started (by kernel_rfl) Try.func3
    (ChangeSpec.witness6 (enc := enc) (C := Try.checked) false ⟨#[], #[.agg #[.string ⟨#[]⟩, .slice none 0 0], .agg #[.slice none 0 0, .slice none 0 0], .int .i64 0], []⟩ 8 (by kernel_rfl) (by kernel_rfl) (by kernel_rfl) (by kernel_rfl)) ?_
  intro W bs args ds gs before hval0 hW hcnd _
  have hval : ∀ (j : Nat) t v, Try.f3.params[j]? = some t → args[j]? = some v → Value.okWide Try.prog W .any bs t v := hval0
  have hW' := hW
  obtain ⟨p, q, hA0, hV, rfl, hfz, hnd⟩ := hW
  have hA : DataW.TrodAll enc Try.prog W 0 (fun _ => true) true Try.f3.params.toList args.toList ds p := hA0
  have hA1 := hA
  rw [Try.params3] at hA hval
  obtain ⟨v0, v1, v2, d0, d1, d2, p0, p1, p2, rfl, rfl, rfl, h0, h1, h2⟩ := trodAll_three hA
  obtain ⟨rfl, rfl⟩ := trodVars_none hV
  obtain ⟨a0, a1, y0, y1, f0, rfl, rfl, rfl, g0, g1⟩ := open_agg2 Try.underlying24 (by kernel_rfl) (by kernel_rfl) (hval 0 _ v0 rfl rfl) h0
  obtain ⟨b0, b1, z0, z1, f1, rfl, rfl, rfl, k0, k1⟩ := open_agg2 Try.underlying27 (by kernel_rfl) (by kernel_rfl) (hval 1 _ v1 rfl rfl) h1
  obtain ⟨datum, rfl, rfl, rfl, wd⟩ := open_int Try.underlying3 (hval 2 _ v2 rfl rfl) h2
  obtain ⟨nm, hnm, _, hnl⟩ := DataW.trod_string Try.underlying9 g0
  obtain rfl : a0 = .string nm := by simpa using hnm
  obtain ⟨A, n, c, xs, rfl, hn, hnc, hcm, hS, _⟩ := slice_reads Epoch.enc (fun _ => True) 4 Try.underlying22 (by kernel_rfl) (by omega) epoch_reads g1
  obtain ⟨B1, m1, cb1, q1, rfl, hm1, hmc1, hcm1, hP1, _⟩ := slice_reads SPair.enc (fun _ => True) 2 Try.underlying25 (by kernel_rfl) (by omega) pair_reads k0
  obtain ⟨B2, m2, cb2, q2, rfl, hm2, hmc2, hcm2, hP2, _⟩ := slice_reads SPair.enc (fun _ => True) 2 Try.underlying25 (by kernel_rfl) (by omega) pair_reads k1
  have hwd : -9223372036854775808 ≤ datum ∧ datum ≤ 9223372036854775807 := by
    simp only [Lit.wf, Bool.and_eq_true, decide_eq_true_eq] at wd
    exact wd
  refine (velocity_true nm A B1 B2 n c m1 m2 cb1 cb2 datum xs q1 q2 W hnl hn (Nat.le_trans hnc hcm) hm1 hm2 hS hP1 hP2 (Nat.le_trans hmc1 hcm1) (Nat.le_trans hmc2 hcm2) hwd.1 hwd.2).mono fun e W' ⟨he, hb⟩ => ?_
  subst he
  exact ⟨_, rfl, law_post laidOut (tb := 4) Try.underlying4 hW' hA1 (by rw [Try.params3]; intro t ht; simp at ht; rcases ht with rfl | rfl | rfl <;> exact ⟨by kernel_rfl, of_decide_eq_true (by kernel_rfl)⟩) (List.append_nil _) rfl rfl rfl rfl rfl hb⟩

theorem topVelocityAnyTree_holds : Rows.TopVelocityAnyTreeSaid :=
  OpenClaim.holds_of_wide 3 Try.f3 rfl rfl rfl rfl rfl rfl rfl ⟨rfl, rfl, rfl, rfl, rfl⟩ rfl rfl rfl rfl rfl (by kernel_rfl) Try.func3 (by kernel_rfl)
    (of_decide_eq_true (by kernel_rfl)) (by unfold Func.isWrapper; first | (rw [if_pos (by decide +kernel)]; kernel_rfl) | (rw [if_neg (by decide +kernel)]; exact ⟨rfl, rfl⟩))
    (fun os started H enc _ => velocity_lifted os started H enc)
end Go.Proofs.Ytncmdjhdfhhkjaa
