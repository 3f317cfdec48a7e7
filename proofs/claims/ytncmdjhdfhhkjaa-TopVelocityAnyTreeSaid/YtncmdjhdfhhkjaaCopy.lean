/- A copy of a series. -/
import Derived.Test.YtncmdjhdfhhkjaaRowsOf
import Derived.Test.YtncmdjhdfhhkjaaBlocks
namespace Go.Proofs.Ytncmdjhdfhhkjaa
open Go.RowKit Go.Sort

theorem info_epoch : (Try.prog.info? 51).map (fun i => (i.zero, i.size, i.bytes)) = some (some (.agg #[.int .i64 0, .int .i64 0, .int .i64 0, .int .i64 0]), 4, 32) := by kernel_rfl
def epochCell (xs : List Epoch) (k : Nat) : List Value := Epoch.enc (nth xs k)
theorem own_mono' {w : World} {base base' : Nat} {e : TypeId} {s n : Nat} {v : Value} {xs : List Value} (h : w.ownsRow base e s v n xs) (hb : base' ≤ base) : w.ownsRow base' e s v n xs := by
  refine ⟨h.1, ?_⟩
  rcases h.2 with h2 | ⟨g, cap, cur, h1, h2, h3⟩
  · exact .inl h2
  · exact .inr ⟨g, cap, cur, h1, by omega, h3⟩
set_option maxRecDepth 100000 in
set_option maxHeartbeats 1000000 in
theorem copy_any (nm : ByteArray) (A : Option Addr) (n c : Nat) (xs : List Epoch) (w : World) (hn : xs.length = n) (h0 : 0 < n) (hm : n ≤ 1000) (hS : SliceAt w A 4 Epoch.enc xs) :
    Calls Try.prog 8 #[.agg #[.string nm, .slice A n c]] w fun e w' => ∃ v, e = .returned (.agg #[.string nm, v]) ∧ w'.ownsRow w.heap.size 51 4 v n (flatN (epochCell xs) n) ∧ Below w.heap.size w w' := by
  obtain ⟨i1, hi1, hz1, hs1, hb1⟩ := info_parts info_epoch
  go_enter Try.func8, Try.ntmps8
  obtain ⟨b, off, rfl, hbs, hcell⟩ := hS (by omega)
  obtain ⟨k0, k1, k2, hB0, hz⟩ := blocks3 w #[.string nm, .slice (some ⟨b, off, none⟩) n c] #[.string ⟨#[]⟩, .slice none 0 0] #[] 24 24 51
  have hnews : ∀ j u, (flatN (epochCell xs) n)[j]? = some u → (((w.alloc (.cells #[.string nm, .slice (some ⟨b, off, none⟩) n c] 24)).alloc (.cells #[.string ⟨#[]⟩, .slice none 0 0] 24)).alloc (.cells #[] 51)).cell? ((⟨b, off, none⟩ : Addr).add j) = some u := fun j u hu => by
    have hlen : (flatN (epochCell xs) n).length = n * 4 := flatN_length (f := epochCell xs) (fun _ => rfl) n
    have hj : j < n * 4 := by rw [← hlen]; exact (List.getElem?_eq_some_iff.1 hu).1
    obtain ⟨k, r, rfl, hr⟩ : ∃ k r, j = k * 4 + r ∧ r < 4 := ⟨j / 4, j % 4, by omega, by omega⟩
    rw [flatN_get (f := epochCell xs) (fun _ => rfl) (by omega) hr] at hu
    have hplain : ∀ j, (⟨b, off, none⟩ : Addr).add j = ⟨b, off + j, none⟩ := fun j => by unfold Addr.add; split <;> simp_all
    rw [hplain, ← Nat.add_assoc]
    exact (hB0.cell (p := ⟨b, _, none⟩) hbs).trans (hcell k (by omega) r u hu)
  have hown0 : (((w.alloc (.cells #[.string nm, .slice (some ⟨b, off, none⟩) n c] 24)).alloc (.cells #[.string ⟨#[]⟩, .slice none 0 0] 24)).alloc (.cells #[] 51)).ownsRow (w.heap.size + 1 + 1) 51 4 (.slice (some ⟨w.heap.size + 1 + 1, 0, none⟩) 0 0) 0 [] :=
    ⟨rfl, .inr ⟨w.heap.size + 1 + 1, 0, #[], rfl, Nat.le_refl _, k2, Nat.le_refl _, Nat.zero_le _, rfl, rfl⟩⟩
  have hone : ∀ u ∈ flatN (epochCell xs) n, u.oneCell' = true := fun u hu => by
    obtain ⟨j, hj, e⟩ := List.mem_iff_getElem.1 hu
    have hlen : (flatN (epochCell xs) n).length = n * 4 := flatN_length (f := epochCell xs) (fun _ => rfl) n
    obtain ⟨k, r, rfl, hr⟩ : ∃ k r, j = k * 4 + r ∧ r < 4 := ⟨j / 4, j % 4, by omega, by omega⟩
    have hg := List.getElem?_eq_getElem hj
    rw [flatN_get (f := epochCell xs) (fun _ => rfl) (by omega) hr, e] at hg
    have : r = 0 ∨ r = 1 ∨ r = 2 ∨ r = 3 := by omega
    rcases this with rfl | rfl | rfl | rfl <;> (simp [epochCell, Epoch.enc] at hg; subst hg; rfl)
  have hnl : (flatN (epochCell xs) n).length = n * 4 := flatN_length (f := epochCell xs) (fun _ => rfl) n
  have HNL := Lib.hid hnl
  have HNE := Lib.hid hnews
  have HONE := Lib.hid hone
  clear hS hn hnews hone hnl hcell
  go_wp2_with (first | (at_builtin; refine wpList_append_lies _ rfl _ _ _ rfl (w.heap.size + 1 + 1) 51 i1 _ 4 32 Try.underlying22 hi1 hz1 hs1 hb1 rfl (by omega) _ 0 _ rfl hown0 ⟨b, off, none⟩ n c (flatN (epochCell xs) n) rfl HNL.out HNE.out HONE.out h0 (by unfold maxLen; omega) (by omega) (by first | omega | (simp; omega)) _ rfl ?_))
  intro g cap w' hown' hgrow hat hlt
  have c0 := k0.grown hgrow (by simp [Value.ownBlock]; omega)
  have c1 := k1.grown hgrow (by simp [Value.ownBlock])
  have r0 : w'.cell? ⟨w.heap.size, 0, none⟩ = some (.string nm) := c0.cell 0
  have f0 := c0.frozen 1
  have f1 := c1.frozen 0
  have f2 := c1.frozen 1
  have hB' := hB0.grown hgrow (by omega) (fun j e => by simp [Value.ownBlock] at e; omega)
  have e0 : w'.cell? ⟨w.heap.size, 1, none⟩ = some (.slice (some ⟨b, off, none⟩) n c) := c0.cell 1
  have e1 : w'.cell? ⟨w.heap.size + 1, 0, none⟩ = some (.string ⟨#[]⟩) := c1.cell 0
  have e2 : w'.cell? ⟨w.heap.size + 1, 1, none⟩ = some (.slice none 0 0) := c1.cell 1
  have l0 := c0.lt
  have l1 := c1.lt
  clear k0 k1 k2 hown0 hgrow HNE HONE HNL
  go_wp2
  have n1 := own_blk_ne hown' c0 (by decide)
  have n2 := own_blk_ne hown' c1 (by decide)
  have hO := ownsRow_setCell_other (a := ⟨w.heap.size + 1, 1, none⟩) (ownsRow_setCell_other (a := ⟨w.heap.size + 1, 0, none⟩) (ownsRow_setCell_other (a := ⟨w.heap.size, 1, none⟩) hown' n1 (.slice (some ⟨g, 0, none⟩) n cap)) n2 (.string nm)) n2 (.slice (some ⟨g, 0, none⟩) n cap)
  have hBB := ((hB'.setCell (p := ⟨w.heap.size, 1, none⟩) (by simp) (.slice (some ⟨g, 0, none⟩) n cap)).setCell (p := ⟨w.heap.size + 1, 0, none⟩) (by simp) (.string nm)).setCell (p := ⟨w.heap.size + 1, 1, none⟩) (by simp) (.slice (some ⟨g, 0, none⟩) n cap)
  have cc := ((c1.far (p := ⟨w.heap.size, 1, none⟩) (by simp) (.slice (some ⟨g, 0, none⟩) n cap)).set_ 0 (.string nm)).set_ 1 (.slice (some ⟨g, 0, none⟩) n cap)
  generalize (((w'.setCell ⟨w.heap.size, 1, none⟩ (.slice (some ⟨g, 0, none⟩) n cap)).setCell ⟨w.heap.size + 1, 0, none⟩ (.string nm)).setCell ⟨w.heap.size + 1, 1, none⟩ (.slice (some ⟨g, 0, none⟩) n cap)) = W at *
  have x0 : W.cell? ⟨w.heap.size + 1, 0, none⟩ = some (.string nm) := cc.cell 0
  have x1 : W.cell? ⟨w.heap.size + 1, 1, none⟩ = some (.slice (some ⟨g, 0, none⟩) n cap) := cc.cell 1
  exact bodyPost_ret (v := .agg #[.string nm, .slice (some ⟨g, 0, none⟩) n cap]) (by simp [results, Try.results8, go_sem, x0, x1]) rfl ⟨_, rfl, own_mono' hO (by omega), hBB⟩
end Go.Proofs.Ytncmdjhdfhhkjaa
