/- 'ends': where a step begins and ends. -/
import Derived.Test.YtncmdjhdfhhkjaaNet
namespace Go.Proofs.Ytncmdjhdfhhkjaa
open Go.RowKit Go.Sort

set_option maxRecDepth 100000 in
set_option maxHeartbeats 2000000 in
theorem ends_any (A1 : Option Addr) (n m c1 c2 k g2 o2 P Q : Nat) (sg : Int) (w : World) (hk : k < m) (hg2 : g2 < w.heap.size) (p0 : w.cell? ⟨g2, o2 + k * 2, none⟩ = some (.int .i64 (P : Int))) (p1 : w.cell? ⟨g2, o2 + k * 2 + 1, none⟩ = some (.int .i64 (Q : Int))) :
    Calls Try.prog 55 #[.agg #[.slice A1 n c1, .slice (some ⟨g2, o2, none⟩) m c2], .agg #[.int .i64 (k : Int), .int .i64 sg]] w fun e w' => e = .returned (.tuple #[.int .i64 (if sg < 0 then (Q : Int) else P), .int .i64 (if sg < 0 then (P : Int) else Q)]) ∧ Below w.heap.size w w' := by
  have hkm : (k : Int) < (m : Int) := by omega
  go_enter Try.func55, Try.ntmps55
  go_wp2
  all_goals
    obtain ⟨k0, k1, k2, hB0, hz⟩ := blocks3 w #[.slice A1 n c1, .slice (some ⟨g2, o2, none⟩) m c2] #[.int .i64 (k : Int), .int .i64 sg] #[.int .i64 (P : Int), .int .i64 (Q : Int)] 84 101 79
    generalize (((w.alloc (.cells #[.slice A1 n c1, .slice (some ⟨g2, o2, none⟩) m c2] 84)).alloc (.cells #[.int .i64 (k : Int), .int .i64 sg] 101)).alloc (.cells #[.int .i64 (P : Int), .int .i64 (Q : Int)] 79)) = W at *
    have q0 : W.cell? ⟨w.heap.size + 1 + 1, 0, none⟩ = some (.int .i64 (P : Int)) := k2.cell 0
    have q1 : W.cell? ⟨w.heap.size + 1 + 1, 1, none⟩ = some (.int .i64 (Q : Int)) := k2.cell 1
    clear p0 p1 k0 k1 k2
    go_quiet (fail)
    go_wp2
    go_ret2
    exact ⟨rfl, below_drewN hB0 _⟩
end Go.Proofs.Ytncmdjhdfhhkjaa
