/- An observation is appended to observations behind a pointer. -/
import Derived.Test.YtncmdjhdfhhkjaaNormal
import Derived.Test.YtncmdjhdfhhkjaaHeld
import Derived.Deep.AppendLies
namespace Go.Proofs.Ytncmdjhdfhhkjaa
open Go.RowKit

theorem info_arr3 : (Try.prog.info? 63).map (fun i => (i.zero, i.size, i.bytes)) = some (some (.agg #[.int .i64 0, .int .i64 0, .int .i64 0]), 3, 24) := by kernel_rfl
theorem info_int : (Try.prog.info? 3).map (fun i => (i.zero, i.size, i.bytes)) = some (some (.int .i64 0), 1, 8) := by kernel_rfl

theorem own_blk_ne {w : World} {base : Nat} {e : TypeId} {size n : Nat} {v : Value} {xs : List Value} {g : Nat} {t : TypeId} {cs : Array Value} (h : w.ownsRow base e size v n xs) (hg : Blk w g t cs) (hne : e ≠ t) : v.ownBlock ≠ some g := by
  rcases h.2 with ⟨rfl, _⟩ | ⟨g', cap, cur, rfl, _, hh, _⟩
  · simp [Value.ownBlock]
  · intro he
    have : g' = g := by simpa [Value.ownBlock] using he
    subst this
    unfold Blk at hg
    rw [hh] at hg
    injection hg with hg
    injection hg with _ ht
    exact hne ht
theorem own_own_ne {w : World} {base base' : Nat} {e e' : TypeId} {size size' n n' : Nat} {v v' : Value} {xs xs' : List Value} (h : w.ownsRow base e size v n xs) (h' : w.ownsRow base' e' size' v' n' xs') (hne : e ≠ e') :
    v.ownBlock = none ∨ v.ownBlock ≠ v'.ownBlock := by
  rcases h'.2 with ⟨rfl, _⟩ | ⟨g', cap, cur, rfl, _, hh, _⟩
  · by_cases e0 : v.ownBlock = none
    · exact .inl e0
    · exact .inr e0
  · exact .inr (own_blk_ne h hh hne)

theorem new_ne {w : World} {base base' : Nat} {e e' : TypeId} {size size' k k' : Nat} {v v' : Value} {xs xs' : List Value} {g H n cap : Nat} (h2 : w.ownsRow base e size v k xs) (h1 : w.ownsRow base' e' size' v' k' xs') (hne : e ≠ e') (hat : v'.ownBlock = some g ∨ g = H) (hH : w.heap.size ≤ H) :
    (Value.slice (some ⟨g, 0, none⟩) n cap).ownBlock = none ∨ (Value.slice (some ⟨g, 0, none⟩) n cap).ownBlock ≠ v.ownBlock := by
  right
  have e1 : (Value.slice (some ⟨g, 0, none⟩) n cap).ownBlock = some g := by simp [Value.ownBlock]
  rw [e1]
  rcases hat with hat | rfl
  · rw [← hat]
    rcases own_own_ne h1 h2 (Ne.symm hne) with h | h
    · rw [h] at hat; cases hat
    · exact h
  · intro hh
    have := (h2.lt g hh.symm).2
    omega

/-- What 'add' leaves behind. -/
def AddPost (B base G n : Nat) (xs1 xs2 : List Value) (x y z val : Int) (w : World) (e : Ending) (w' : World) : Prop :=
  e = .returned (.tuple #[]) ∧ Below B w w' ∧ ∃ g1 c1 g2 c2, Blk w' G 62 #[.slice (some ⟨g1, 0, none⟩) (n + 1) c1, .slice (some ⟨g2, 0, none⟩) (n + 1) c2] ∧
    w'.ownsRow base 63 3 (.slice (some ⟨g1, 0, none⟩) (n + 1) c1) (n + 1) (xs1 ++ [.int .i64 x, .int .i64 y, .int .i64 z]) ∧ w'.ownsRow base 3 1 (.slice (some ⟨g2, 0, none⟩) (n + 1) c2) (n + 1) (xs2 ++ [.int .i64 val])
theorem add_end {B base G n g1 c1 g2 c2 : Nat} {v1 v2 : Value} {xs1 xs2 : List Value} {x y z val : Int} {w w2 : World} (hBb : B ≤ base) (hbG : B ≤ G) (hG2 : Blk w2 G 62 #[v1, v2]) (hB2 : Below base w w2)
    (h1 : w2.ownsRow base 63 3 (.slice (some ⟨g1, 0, none⟩) (n + 1) c1) (n + 1) (xs1 ++ [.int .i64 x, .int .i64 y, .int .i64 z])) (h2 : w2.ownsRow base 3 1 (.slice (some ⟨g2, 0, none⟩) (n + 1) c2) (n + 1) (xs2 ++ [.int .i64 val])) :
    AddPost B base G n xs1 xs2 x y z val w (.returned (.tuple #[])) ((w2.setCell ⟨G, 0, none⟩ (.slice (some ⟨g1, 0, none⟩) (n + 1) c1)).setCell ⟨G, 1, none⟩ (.slice (some ⟨g2, 0, none⟩) (n + 1) c2)) := by
  have n1 := own_blk_ne h1 hG2 (by decide)
  have n2 := own_blk_ne h2 hG2 (by decide)
  refine ⟨rfl, ((hB2.mono hBb).setCell (p := ⟨G, 0, none⟩) hbG _).setCell (p := ⟨G, 1, none⟩) hbG _, g1, c1, g2, c2, (hG2.set_ 0 _).set_ 1 _, ?_, ?_⟩
  · exact ownsRow_setCell_other (a := ⟨G, 1, none⟩) (ownsRow_setCell_other (a := ⟨G, 0, none⟩) h1 n1 _) n1 _
  · exact ownsRow_setCell_other (a := ⟨G, 1, none⟩) (ownsRow_setCell_other (a := ⟨G, 0, none⟩) h2 n2 _) n2 _

set_option maxRecDepth 100000 in
set_option maxHeartbeats 4000000 in
theorem add_any (B base G gb n : Nat) (v1 v2 : Value) (xs1 xs2 : List Value) (x y z val : Int) (w : World) (hG : Blk w G 62 #[v1, v2]) (hBb : B ≤ base) (hbG : B ≤ G) (hgb : Blk w gb 3 #[.int .i64 x, .int .i64 y, .int .i64 z])
    (hbs : base ≤ w.heap.size) (ho1 : w.ownsRow base 63 3 v1 n xs1) (ho2 : w.ownsRow base 3 1 v2 n xs2) (hn : n ≤ 1000) (hne : v2.ownBlock ≠ some gb) :
    Calls Try.prog 58 #[.pointer (some ⟨G, 0, none⟩), .int .i64 val, .slice (some ⟨gb, 0, none⟩) 3 3] w (AddPost B base G n xs1 xs2 x y z val w) := by
  obtain ⟨i3, hi3, hz3, hs3, hb3⟩ := info_parts info_arr3
  obtain ⟨i1, hi1, hz1, hs1, hb1⟩ := info_parts info_int
  have g0 : w.cell? ⟨G, 0, none⟩ = some v1 := hG.cell 0
  have g1 : w.cell? ⟨G, 1, none⟩ = some v2 := hG.cell 1
  have c0 : w.cell? ⟨gb, 0, none⟩ = some (.int .i64 x) := hgb.cell 0
  have c1 : w.cell? ⟨gb, 1, none⟩ = some (.int .i64 y) := hgb.cell 1
  have c2 : w.cell? ⟨gb, 2, none⟩ = some (.int .i64 z) := hgb.cell 2
  have hsp : ∀ W : World, (Instr.arrayAt 63 (.slice (some ⟨gb, 0, none⟩) 3 3)).run Try.prog W = .ok (.pointer (some ⟨gb, 0, none⟩)) W := fun _ => by kernel_rfl
  have ag1 : v1.ownBlock ≠ some G := own_blk_ne ho1 hG (by decide)
  have ab1 : v1.ownBlock ≠ some gb := own_blk_ne ho1 hgb (by decide)
  have ag2 : v2.ownBlock ≠ some G := own_blk_ne ho2 hG (by decide)
  have nl1 : ∀ k, w.heap.size ≤ k → some k ≠ v1.ownBlock := fun k hk e => by have := (ho1.lt k e.symm).2; omega
  have h12 : v2.ownBlock = none ∨ v2.ownBlock ≠ v1.ownBlock := own_own_ne ho2 ho1 (by decide)
  have lG := hG.lt
  have lb := hgb.lt
  go_enter Try.func58, Try.ntmps58
  go_wp2_with fail
  have hS0 : w.drew.cell? ⟨G, 0, none⟩ = some v1 ∧ w.drew.cell? ⟨G, 1, none⟩ = some v2 ∧ w.drew.cell? ⟨gb, 0, none⟩ = some (.int .i64 x) ∧ w.drew.cell? ⟨gb, 1, none⟩ = some (.int .i64 y) ∧ w.drew.cell? ⟨gb, 2, none⟩ = some (.int .i64 z) := ⟨g0, g1, c0, c1, c2⟩
  refine wp_region_any (by kernel_rfl) ?_
  refine wpAny_take (i := 1) (v := ?_) rfl (by kernel_rfl) (by kernel_rfl) (by kernel_rfl) (fun _ _ _ h => h) (Or.inl ⟨by rfl, ?_⟩) ?_
  rotate_left
  · intro W
    go_simp
    rfl
  refine any_mid (S := fun w' => w'.cell? ⟨G, 0, none⟩ = some v1 ∧ w'.cell? ⟨G, 1, none⟩ = some v2 ∧ w'.cell? ⟨gb, 0, none⟩ = some (.int .i64 x) ∧ w'.cell? ⟨gb, 1, none⟩ = some (.int .i64 y) ∧ w'.cell? ⟨gb, 2, none⟩ = some (.int .i64 z))
    18 4 _ _ [0, 2, 3, 4, 5, 6, 7, 8, 11, 12, 13, 14, 15] (by kernel_rfl) (by intro c a w d v h; cases d <;> exact h) (by kernel_rfl) (by kernel_rfl) (by kernel_rfl) (by kernel_rfl) (by kernel_rfl) (by kernel_rfl) hS0 ?_
  iterate 13
    refine wpIf_step (v := ?_) rfl rfl (fun W hS => ?_) ?_
    rotate_left
    · obtain ⟨s0, s1, s2, s3, s4⟩ := hS
      go_simp
      rfl
  refine wpIf_nil ?_
  refine anyHL_all (rs := [9, 16]) (by kernel_rfl) (by decide) (by decide) ?_
  intro i hi
  rcases (by simpa using hi : i = 9 ∨ i = 16) with rfl | rfl
  · refine wpOp_lit rfl rfl ?_
    go_simp
    refine anyHL_all (rs := [10, 16]) (by kernel_rfl) (by decide) (by decide) ?_
    intro i hi
    rcases (by simpa using hi : i = 10 ∨ i = 16) with rfl | rfl
    · refine wpOp_lit rfl rfl ?_
      refine wp_append_lies _ _ _ _ rfl base 63 i3 _ 3 24 Try.underlying60 hi3 hz3 hs3 hb3 rfl (by omega) v1 n xs1 rfl ((ho1.alloc _).drew) ⟨w.heap.size, 0, none⟩ 1 1 [.int .i64 x, .int .i64 y, .int .i64 z] rfl rfl (World.news_of_block (cs := #[.int .i64 x, .int .i64 y, .int .i64 z]) (t := 63) (fr := (0, 0)) (heap_alloc_new w (.cells #[.int .i64 x, .int .i64 y, .int .i64 z] 63))) (by simp [Value.oneCell']) (by omega) (by simp [maxLen]; omega) (by omega) (by first | omega | (simp; omega)) _ rfl ?_
      intro g1' cap1 w1 hown1 hgrow1 hat1 hlt1
      have h1v2 := new_ne (n := n + 1) (cap := cap1) ho2 ho1 (by decide) hat1 (by simp; try omega)
      have hG1 := ((hG.alloc _).drew).grown hgrow1 (Ne.symm ag1)
      have hgb1 := ((hgb.alloc _).drew).grown hgrow1 (Ne.symm ab1)
      have hB1 := (((Below.refl base w).alloc hbs _).drew).grown hgrow1 (by first | omega | (simp; omega)) (fun k e => (ho1.lt k e).1)
      have hz1' : w.heap.size < w1.heap.size := by have := hgrow1.size; simp at this; omega
      refine ⟨⟨hG1.cell 0, hG1.cell 1, hgb1.cell 0, hgb1.cell 1, hgb1.cell 2⟩, ?_⟩
      refine anyHL_all (rs := [16]) (by kernel_rfl) (by decide) (by decide) ?_
      intro i hi
      obtain rfl : i = 16 := by simpa using hi
      refine wpOp_lit rfl rfl ?_
      have s0 : w1.cell? ⟨G, 0, none⟩ = some v1 := hG1.cell 0
      have s1 : w1.cell? ⟨G, 1, none⟩ = some v2 := hG1.cell 1
      have s2 : w1.cell? ⟨gb, 0, none⟩ = some (.int .i64 x) := hgb1.cell 0
      have s3 : w1.cell? ⟨gb, 1, none⟩ = some (.int .i64 y) := hgb1.cell 1
      have s4 : w1.cell? ⟨gb, 2, none⟩ = some (.int .i64 z) := hgb1.cell 2
      have lG1 := hG1.lt
      have lb1 := hgb1.lt
      go_simp
      refine anyHL_all (rs := [17]) (by kernel_rfl) (by decide) (by decide) ?_
      intro i hi
      obtain rfl : i = 17 := by simpa using hi
      refine wpOp_lit rfl rfl ?_
      refine wp_append_lies _ _ _ _ rfl base 3 i1 _ 1 8 Try.underlying43 hi1 hz1 hs1 hb1 rfl (by omega) v2 n xs2 rfl (((ho2.alloc _).drew.kept hgrow1 h12).alloc (.cells #[.int .i64 val] 3)) ⟨w1.heap.size, 0, none⟩ 1 1 [.int .i64 val] rfl rfl (World.news_of_block (cs := #[.int .i64 val]) (t := 3) (fr := (0, 0)) (heap_alloc_new w1 (.cells #[.int .i64 val] 3))) (by simp [Value.oneCell']) (by omega) (by simp [maxLen]; omega) (by omega) (by first | omega | (simp; omega)) _ rfl ?_
      intro g2' cap2 w2 hown2 hgrow2 hat2 hlt2
      have hG2 := (hG1.alloc _).grown hgrow2 (Ne.symm ag2)
      have hgb2 := (hgb1.alloc _).grown hgrow2 (Ne.symm hne)
      have hB2 := (hB1.alloc (by omega) _).grown hgrow2 (by first | omega | (simp; omega)) (fun k e => (ho2.lt k e).1)
      have hown1' := (hown1.alloc _).kept hgrow2 h1v2
      refine ⟨⟨hG2.cell 0, hG2.cell 1, hgb2.cell 0, hgb2.cell 1, hgb2.cell 2⟩, by kernel_rfl, ?_⟩
      try simp only [List.drop_succ_cons, List.drop_zero]
      have gf2 := hG2.frozen
      have gc0 : w2.cell? ⟨G, 0, none⟩ = some v1 := hG2.cell 0
      have gc1 : w2.cell? ⟨G, 1, none⟩ = some v2 := hG2.cell 1
      go_wp2
      go_end0
      exact add_end hBb hbG hG2 hB2 hown1' hown2
    · refine wpOp_lit rfl rfl ?_
      go_simp
      refine anyHL_all (rs := [10]) (by kernel_rfl) (by decide) (by decide) ?_
      intro i hi
      obtain rfl : i = 10 := by simpa using hi
      refine wpOp_lit rfl rfl ?_
      refine wp_append_lies _ _ _ _ rfl base 63 i3 _ 3 24 Try.underlying60 hi3 hz3 hs3 hb3 rfl (by omega) v1 n xs1 rfl (((ho1.alloc _).alloc _).drew) ⟨w.heap.size, 0, none⟩ 1 1 [.int .i64 x, .int .i64 y, .int .i64 z] rfl rfl (World.news_of_block (cs := #[.int .i64 x, .int .i64 y, .int .i64 z]) (t := 63) (fr := (0, 0)) ((Below.heap_alloc (w.alloc (.cells #[.int .i64 x, .int .i64 y, .int .i64 z] 63)) (.cells #[.int .i64 val] 3) w.heap.size (by simp)).trans (heap_alloc_new w (.cells #[.int .i64 x, .int .i64 y, .int .i64 z] 63)))) (by simp [Value.oneCell']) (by omega) (by simp [maxLen]; omega) (by omega) (by first | omega | (simp; omega)) _ rfl ?_
      intro g1' cap1 w1 hown1 hgrow1 hat1 hlt1
      have h1v2 := new_ne (n := n + 1) (cap := cap1) ho2 ho1 (by decide) hat1 (by simp; try omega)
      have hG1 := (((hG.alloc _).alloc _).drew).grown hgrow1 (Ne.symm ag1)
      have hgb1 := (((hgb.alloc _).alloc _).drew).grown hgrow1 (Ne.symm ab1)
      have hB1 := ((((Below.refl base w).alloc hbs _).alloc (by first | omega | (simp; omega)) _).drew).grown hgrow1 (by first | omega | (simp; omega)) (fun k e => (ho1.lt k e).1)
      have hz1' : w.heap.size < w1.heap.size := by have := hgrow1.size; simp at this; omega
      refine ⟨⟨hG1.cell 0, hG1.cell 1, hgb1.cell 0, hgb1.cell 1, hgb1.cell 2⟩, ?_⟩
      refine anyHL_all (rs := [17]) (by kernel_rfl) (by decide) (by decide) ?_
      intro i hi
      obtain rfl : i = 17 := by simpa using hi
      refine wpOp_lit rfl rfl ?_
      refine wp_append_lies _ _ _ _ rfl base 3 i1 _ 1 8 Try.underlying43 hi1 hz1 hs1 hb1 rfl (by omega) v2 n xs2 rfl (((ho2.alloc _).alloc _).drew.kept hgrow1 h12) ⟨w.heap.size + 1, 0, none⟩ 1 1 [.int .i64 val] rfl rfl (World.news_of_block (cs := #[.int .i64 val]) (t := 3) (fr := (0, 0)) ((hgrow1.block (w.heap.size + 1) (by simp) (nl1 _ (by omega))).trans (by have := heap_alloc_new (w.alloc (.cells #[.int .i64 x, .int .i64 y, .int .i64 z] 63)) (.cells #[.int .i64 val] 3); rw [World.size_alloc] at this; exact this))) (by simp [Value.oneCell']) (by omega) (by simp [maxLen]; omega) (by omega) (by first | omega | (simp; omega)) _ rfl ?_
      intro g2' cap2 w2 hown2 hgrow2 hat2 hlt2
      have hG2 := hG1.grown hgrow2 (Ne.symm ag2)
      have hgb2 := hgb1.grown hgrow2 (Ne.symm hne)
      have hB2 := hB1.grown hgrow2 (by first | omega | (simp; omega)) (fun k e => (ho2.lt k e).1)
      have hown1' := hown1.kept hgrow2 h1v2
      refine ⟨⟨hG2.cell 0, hG2.cell 1, hgb2.cell 0, hgb2.cell 1, hgb2.cell 2⟩, by kernel_rfl, ?_⟩
      try simp only [List.drop_succ_cons, List.drop_zero]
      have gf2 := hG2.frozen
      have gc0 : w2.cell? ⟨G, 0, none⟩ = some v1 := hG2.cell 0
      have gc1 : w2.cell? ⟨G, 1, none⟩ = some v2 := hG2.cell 1
      go_wp2
      go_end0
      exact add_end hBb hbG hG2 hB2 hown1' hown2
  · refine wpOp_lit rfl rfl ?_
    go_simp
    refine anyHL_all (rs := [9]) (by kernel_rfl) (by decide) (by decide) ?_
    intro i hi
    obtain rfl : i = 9 := by simpa using hi
    refine wpOp_lit rfl rfl ?_
    go_simp
    refine anyHL_all (rs := [10]) (by kernel_rfl) (by decide) (by decide) ?_
    intro i hi
    obtain rfl : i = 10 := by simpa using hi
    refine wpOp_lit rfl rfl ?_
    refine wp_append_lies _ _ _ _ rfl base 63 i3 _ 3 24 Try.underlying60 hi3 hz3 hs3 hb3 rfl (by omega) v1 n xs1 rfl (((ho1.alloc _).alloc _).drew) ⟨w.heap.size + 1, 0, none⟩ 1 1 [.int .i64 x, .int .i64 y, .int .i64 z] rfl rfl (World.news_of_block (cs := #[.int .i64 x, .int .i64 y, .int .i64 z]) (t := 63) (fr := (0, 0)) (by have := heap_alloc_new (w.alloc (.cells #[.int .i64 val] 3)) (.cells #[.int .i64 x, .int .i64 y, .int .i64 z] 63); rw [World.size_alloc] at this; exact this)) (by simp [Value.oneCell']) (by omega) (by simp [maxLen]; omega) (by omega) (by first | omega | (simp; omega)) _ rfl ?_
    intro g1' cap1 w1 hown1 hgrow1 hat1 hlt1
    have h1v2 := new_ne (n := n + 1) (cap := cap1) ho2 ho1 (by decide) hat1 (by simp; try omega)
    have hG1 := (((hG.alloc _).alloc _).drew).grown hgrow1 (Ne.symm ag1)
    have hgb1 := (((hgb.alloc _).alloc _).drew).grown hgrow1 (Ne.symm ab1)
    have hB1 := ((((Below.refl base w).alloc hbs _).alloc (by first | omega | (simp; omega)) _).drew).grown hgrow1 (by first | omega | (simp; omega)) (fun k e => (ho1.lt k e).1)
    have hz1' : w.heap.size < w1.heap.size := by have := hgrow1.size; simp at this; omega
    refine ⟨⟨hG1.cell 0, hG1.cell 1, hgb1.cell 0, hgb1.cell 1, hgb1.cell 2⟩, ?_⟩
    refine anyHL_all (rs := [17]) (by kernel_rfl) (by decide) (by decide) ?_
    intro i hi
    obtain rfl : i = 17 := by simpa using hi
    refine wpOp_lit rfl rfl ?_
    refine wp_append_lies _ _ _ _ rfl base 3 i1 _ 1 8 Try.underlying43 hi1 hz1 hs1 hb1 rfl (by omega) v2 n xs2 rfl (((ho2.alloc _).alloc _).drew.kept hgrow1 h12) ⟨w.heap.size, 0, none⟩ 1 1 [.int .i64 val] rfl rfl (World.news_of_block (cs := #[.int .i64 val]) (t := 3) (fr := (0, 0)) ((hgrow1.block w.heap.size (by first | omega | (simp; omega)) (nl1 _ (by omega))).trans ((Below.heap_alloc (w.alloc (.cells #[.int .i64 val] 3)) (.cells #[.int .i64 x, .int .i64 y, .int .i64 z] 63) w.heap.size (by simp)).trans (heap_alloc_new w (.cells #[.int .i64 val] 3))))) (by simp [Value.oneCell']) (by omega) (by simp [maxLen]; omega) (by omega) (by first | omega | (simp; omega)) _ rfl ?_
    intro g2' cap2 w2 hown2 hgrow2 hat2 hlt2
    have hG2 := hG1.grown hgrow2 (Ne.symm ag2)
    have hgb2 := hgb1.grown hgrow2 (Ne.symm hne)
    have hB2 := hB1.grown hgrow2 (by first | omega | (simp; omega)) (fun k e => (ho2.lt k e).1)
    have hown1' := hown1.kept hgrow2 h1v2
    refine ⟨⟨hG2.cell 0, hG2.cell 1, hgb2.cell 0, hgb2.cell 1, hgb2.cell 2⟩, by kernel_rfl, ?_⟩
    try simp only [List.drop_succ_cons, List.drop_zero]
    have gf2 := hG2.frozen
    have gc0 : w2.cell? ⟨G, 0, none⟩ = some v1 := hG2.cell 0
    have gc1 : w2.cell? ⟨G, 1, none⟩ = some v2 := hG2.cell 1
    go_wp2
    go_end0
    exact add_end hBb hbG hG2 hB2 hown1' hown2
end Go.Proofs.Ytncmdjhdfhhkjaa
