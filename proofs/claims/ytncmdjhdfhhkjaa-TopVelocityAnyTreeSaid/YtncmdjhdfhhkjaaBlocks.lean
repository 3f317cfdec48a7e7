/- Blocks that a call lays at its beginning. -/
import Derived.Test.YtncmdjhdfhhkjaaNormal
namespace Go.Proofs.Ytncmdjhdfhhkjaa
open Go.RowKit

theorem blocks1 (w : World) (c0 : Array Value) (t0 : TypeId) :
    Blk (w.alloc (.cells c0 t0)) w.heap.size t0 c0 ∧ Below w.heap.size w (w.alloc (.cells c0 t0)) ∧ (w.alloc (.cells c0 t0)).heap.size = w.heap.size + 1 :=
  ⟨Blk.new _ _ _, (Below.refl _ _).alloc (Nat.le_refl _) _, World.size_alloc _ _⟩
theorem blocks2 (w : World) (c0 c1 : Array Value) (t0 t1 : TypeId) :
    Blk ((w.alloc (.cells c0 t0)).alloc (.cells c1 t1)) w.heap.size t0 c0 ∧ Blk ((w.alloc (.cells c0 t0)).alloc (.cells c1 t1)) (w.heap.size + 1) t1 c1 ∧
    Below w.heap.size w ((w.alloc (.cells c0 t0)).alloc (.cells c1 t1)) ∧ ((w.alloc (.cells c0 t0)).alloc (.cells c1 t1)).heap.size = w.heap.size + 1 + 1 := by
  have h1 := Blk.new (w.alloc (.cells c0 t0)) t1 c1
  rw [World.size_alloc] at h1
  exact ⟨(Blk.new _ _ _).alloc _, h1, ((Below.refl _ _).alloc (Nat.le_refl _) _).alloc (by simp) _, by rw [World.size_alloc, World.size_alloc]⟩
theorem blocks3 (w : World) (c0 c1 c2 : Array Value) (t0 t1 t2 : TypeId) :
    Blk (((w.alloc (.cells c0 t0)).alloc (.cells c1 t1)).alloc (.cells c2 t2)) w.heap.size t0 c0 ∧ Blk (((w.alloc (.cells c0 t0)).alloc (.cells c1 t1)).alloc (.cells c2 t2)) (w.heap.size + 1) t1 c1 ∧
    Blk (((w.alloc (.cells c0 t0)).alloc (.cells c1 t1)).alloc (.cells c2 t2)) (w.heap.size + 1 + 1) t2 c2 ∧
    Below w.heap.size w (((w.alloc (.cells c0 t0)).alloc (.cells c1 t1)).alloc (.cells c2 t2)) ∧ (((w.alloc (.cells c0 t0)).alloc (.cells c1 t1)).alloc (.cells c2 t2)).heap.size = w.heap.size + 1 + 1 + 1 := by
  obtain ⟨a, b, c, d⟩ := blocks2 w c0 c1 t0 t1
  have h2 := Blk.new ((w.alloc (.cells c0 t0)).alloc (.cells c1 t1)) t2 c2
  rw [d] at h2
  exact ⟨a.alloc _, b.alloc _, h2, c.alloc (by omega) _, by rw [World.size_alloc, d]⟩
theorem cells12 {w : World} {g : Nat} {t : TypeId} {f : Nat → Int} (h : Blk w g t (ints12 f)) :
    w.cell? ⟨g, 0, none⟩ = some (.int .i64 (f 0)) ∧ w.cell? ⟨g, 1, none⟩ = some (.int .i64 (f 1)) ∧ w.cell? ⟨g, 2, none⟩ = some (.int .i64 (f 2)) ∧ w.cell? ⟨g, 3, none⟩ = some (.int .i64 (f 3)) ∧
    w.cell? ⟨g, 4, none⟩ = some (.int .i64 (f 4)) ∧ w.cell? ⟨g, 5, none⟩ = some (.int .i64 (f 5)) ∧ w.cell? ⟨g, 6, none⟩ = some (.int .i64 (f 6)) ∧ w.cell? ⟨g, 7, none⟩ = some (.int .i64 (f 7)) ∧
    w.cell? ⟨g, 8, none⟩ = some (.int .i64 (f 8)) ∧ w.cell? ⟨g, 9, none⟩ = some (.int .i64 (f 9)) ∧ w.cell? ⟨g, 10, none⟩ = some (.int .i64 (f 10)) ∧ w.cell? ⟨g, 11, none⟩ = some (.int .i64 (f 11)) :=
  ⟨h.cell 0, h.cell 1, h.cell 2, h.cell 3, h.cell 4, h.cell 5, h.cell 6, h.cell 7, h.cell 8, h.cell 9, h.cell 10, h.cell 11⟩
theorem cells2 {w : World} {g : Nat} {t : TypeId} {u v : Value} (h : Blk w g t #[u, v]) : w.cell? ⟨g, 0, none⟩ = some u ∧ w.cell? ⟨g, 1, none⟩ = some v := ⟨h.cell 0, h.cell 1⟩
end Go.Proofs.Ytncmdjhdfhhkjaa
