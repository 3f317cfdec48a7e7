/- 'from': a value that yields the steps. -/
import Derived.Test.YtncmdjhdfhhkjaaSteps
namespace Go.Proofs.Ytncmdjhdfhhkjaa
open Go.RowKit Go.Sort

theorem from_any (A1 A2 Af : Option Addr) (n m c1 c2 s f cf : Nat) (w : World) :
    Calls Try.prog 41 #[.agg #[.slice A1 n c1, .slice A2 m c2], .int .i64 (s : Int), .slice Af f cf] w fun e w' =>
      e = .returned (.func (.func 54) #[] #[.pointer (some ⟨w.heap.size + 1 + 1, 0, none⟩), .pointer (some ⟨w.heap.size, 0, none⟩), .pointer (some ⟨w.heap.size + 1, 0, none⟩)]) ∧
      Blk w' w.heap.size 84 #[.slice A1 n c1, .slice A2 m c2] ∧ Blk w' (w.heap.size + 1) 3 #[.int .i64 (s : Int)] ∧ Blk w' (w.heap.size + 1 + 1) 43 #[.slice Af f cf] ∧ Below w.heap.size w w' ∧ w'.heap.size = w.heap.size + 1 + 1 + 1 := by
  go_enter Try.func41, Try.ntmps41
  go_wp2
  obtain ⟨k0, k1, k2, hB0, hz⟩ := blocks3 w #[.slice A1 n c1, .slice A2 m c2] #[.int .i64 (s : Int)] #[.slice Af f cf] 84 3 43
  go_ret
  exact ⟨rfl, k0, k1, k2, hB0, hz⟩

/-- The value of 'from' has the contract of an iterator. -/
theorem steps_stops (N : Nat) (h1 : 1 ≤ N) (B g1 g2 bp bg bs : Nat) (A1 A2 Af : Option Addr) (n m c1 c2 cf gp op gf f s : Nat) (ps : List SPair) (fo : Nat → Nat) (hfm : ∀ i, i < f → fo i < m) (hne : ∀ k, k < m → pa ps k < pb ps k) (hf30 : f ≤ 1000) (hAf : 0 < f → Af = some ⟨gf, 0, none⟩) (hA2 : 0 < m → A2 = some ⟨gp, op, none⟩)
    (b1 : bp < B ∧ bp ≠ g1 ∧ bp ≠ g2) (b2 : bg < B ∧ bg ≠ g1 ∧ bg ≠ g2) (b3 : bs < B ∧ bs ≠ g1 ∧ bs ≠ g2) (b4 : 0 < m → gp < B ∧ gp ≠ g1 ∧ gp ≠ g2) (b5 : 0 < f → gf < B ∧ gf ≠ g1 ∧ gf ≠ g2)
    (w : World) (hW : FromAt B g1 g2 bp bg bs A1 A2 Af n m c1 c2 cf gp op gf f s ps fo w) :
    SeqStopsK Fence.wide N Try.prog 54 #[.pointer (some ⟨bp, 0, none⟩), .pointer (some ⟨bg, 0, none⟩), .pointer (some ⟨bs, 0, none⟩)] (stepEnc (ps := ps) (fo := fo) (f := f) (s := s)) (Keeps2 B g1 g2) (fun ys => ∀ x, x ∈ ys) (fun _ => True) (2 * f) w :=
  fun l J Jx W hB hJ _ hY h0 => from1_in N h1 l B g1 g2 bp bg bs A1 A2 Af n m c1 c2 cf gp op gf f s ps fo hfm hne hf30 hAf hA2 b1 b2 b3 b4 b5 J Jx W hJ hY h0 (hW.keeps (Keeps2.of_below hB hW.size) b1 b2 b3 b4 b5)
end Go.Proofs.Ytncmdjhdfhhkjaa
