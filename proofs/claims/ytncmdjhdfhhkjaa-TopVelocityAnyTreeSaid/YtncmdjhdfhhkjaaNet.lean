/- Stacks of scenes as data; the length of a pair. -/
import Derived.Test.YtncmdjhdfhhkjaaUnion
import Derived.Test.YtncmdjhdfhhkjaaRegionB
import Derived.Deep.RegionHeld3
namespace Go.Proofs.Ytncmdjhdfhhkjaa
open Go.RowKit Go.Sort

structure Scene where
  name : ByteArray
  day : Int
  base : Int
instance : Inhabited Scene := ⟨⟨ByteArray.empty, 0, 0⟩⟩
def Scene.enc (x : Scene) : List Value := [.string x.name, .int .i64 x.day, .int .i64 x.base]
structure SPair where
  first : Int
  second : Int
instance : Inhabited SPair := ⟨⟨0, 0⟩⟩
def SPair.enc (x : SPair) : List Value := [.int .i64 x.first, .int .i64 x.second]
/-- The two ends of pair k. -/
def pa (ps : List SPair) (k : Nat) : Nat := (nth ps k).first.toNat
def pb (ps : List SPair) (k : Nat) : Nat := (nth ps k).second.toNat
/-- Right scenes and pairs, as far as numbers go. -/
structure NetOk (sc : List Scene) (ps : List SPair) : Prop where
  pairs : ∀ k, k < ps.length → 0 ≤ (nth ps k).first ∧ (nth ps k).first < (nth ps k).second ∧ (nth ps k).second < sc.length
  days : ∀ k, k < sc.length → 0 ≤ (nth sc k).day ∧ (nth sc k).day ≤ 100000
  bases : ∀ k, k < sc.length → -100000 ≤ (nth sc k).base ∧ (nth sc k).base ≤ 100000
  few : sc.length ≤ 60
  fewP : ps.length ≤ 200
theorem NetOk.ends {sc : List Scene} {ps : List SPair} (h : NetOk sc ps) {k : Nat} (hk : k < ps.length) : pa ps k < pb ps k ∧ pb ps k < sc.length ∧ (nth ps k).first = (pa ps k : Int) ∧ (nth ps k).second = (pb ps k : Int) := by
  have := h.pairs k hk
  unfold pa pb
  omega
/-- A stack in memory. -/
structure NetAt (w : World) (A1 A2 : Option Addr) (sc : List Scene) (ps : List SPair) : Prop where
  scenes : SliceAt w A1 3 Scene.enc sc
  pairs : SliceAt w A2 2 SPair.enc ps
theorem NetAt.below {w w' : World} {A1 A2 : Option Addr} {sc : List Scene} {ps : List SPair} (h : NetAt w A1 A2 sc ps) (hb : Below w.heap.size w w') : NetAt w' A1 A2 sc ps := ⟨h.scenes.below hb, h.pairs.below hb⟩

/-- The length of pair k. -/
def lenP (sc : List Scene) (ps : List SPair) (k : Nat) : Int :=
  max ((nth sc (pa ps k)).day - (nth sc (pb ps k)).day) (-((nth sc (pa ps k)).day - (nth sc (pb ps k)).day)) + max ((nth sc (pa ps k)).base - (nth sc (pb ps k)).base) (-((nth sc (pa ps k)).base - (nth sc (pb ps k)).base))

theorem quiet_add_left {P : Program} {f : FuncId} {args : Array Value} {w : World} {a n : Nat} {v : Value}
    (h : Calls P f args (w.drewN (a + n)) fun e w' => e = .returned v ∧ w.drewN (a + n) = w') : Calls P f args (w.drewN (a + n)) fun e w'' => e = .returned v ∧ ∃ m, w'' = w.drewN (a + m) :=
  h.mono fun _ _ ⟨he, hm⟩ => ⟨he, n, hm.symm⟩
theorem quiet_left {P : Program} {f : FuncId} {args : Array Value} {w : World} {n : Nat} {v : Value}
    (h : Calls P f args (w.drewN n) fun e w' => e = .returned v ∧ w.drewN n = w') : Calls P f args (w.drewN n) fun e w'' => e = .returned v ∧ ∃ m, w'' = w.drewN m :=
  h.mono fun _ _ ⟨he, hm⟩ => ⟨he, n, hm.symm⟩

set_option maxRecDepth 100000 in
set_option maxHeartbeats 4000000 in
theorem length_any (A1 A2 : Option Addr) (n m c1 c2 k : Nat) (sc : List Scene) (ps : List SPair) (w : World) (hn : sc.length = n) (hm : ps.length = m) (hok : NetOk sc ps) (hN : NetAt w A1 A2 sc ps) (hk : k < m) :
    Calls Try.prog 52 #[.agg #[.slice A1 n c1, .slice A2 m c2], .int .i64 (k : Int)] w fun e w' => e = .returned (.int .i64 (lenP sc ps k)) ∧ Below w.heap.size w w' := by
  obtain ⟨he1, he2, he3, he4⟩ := hok.ends (k := k) (by omega)
  obtain ⟨g2, o2, rfl, hg2, hc2⟩ := hN.pairs (by omega)
  obtain ⟨g1, o1, rfl, hg1, hc1⟩ := hN.scenes (by omega)
  have p0 : w.cell? ⟨g2, o2 + k * 2, none⟩ = some (.int .i64 (pa ps k : Int)) := by rw [← he3]; exact hc2 k (by omega) 0 _ rfl
  have p1 : w.cell? ⟨g2, o2 + k * 2 + 1, none⟩ = some (.int .i64 (pb ps k : Int)) := by rw [← he4]; exact hc2 k (by omega) 1 _ rfl
  have a0 : w.cell? ⟨g1, o1 + pa ps k * 3, none⟩ = some (.string (nth sc (pa ps k)).name) := hc1 _ (by omega) 0 _ rfl
  have a1 : w.cell? ⟨g1, o1 + pa ps k * 3 + 1, none⟩ = some (.int .i64 (nth sc (pa ps k)).day) := hc1 _ (by omega) 1 _ rfl
  have a2 : w.cell? ⟨g1, o1 + pa ps k * 3 + 2, none⟩ = some (.int .i64 (nth sc (pa ps k)).base) := hc1 _ (by omega) 2 _ rfl
  have b0 : w.cell? ⟨g1, o1 + pb ps k * 3, none⟩ = some (.string (nth sc (pb ps k)).name) := hc1 _ (by omega) 0 _ rfl
  have b1 : w.cell? ⟨g1, o1 + pb ps k * 3 + 1, none⟩ = some (.int .i64 (nth sc (pb ps k)).day) := hc1 _ (by omega) 1 _ rfl
  have b2 : w.cell? ⟨g1, o1 + pb ps k * 3 + 2, none⟩ = some (.int .i64 (nth sc (pb ps k)).base) := hc1 _ (by omega) 2 _ rfl
  have da := hok.days (pa ps k) (by omega)
  have db := hok.days (pb ps k) (by omega)
  have ea := hok.bases (pa ps k) (by omega)
  have eb := hok.bases (pb ps k) (by omega)
  obtain ⟨da1, da2⟩ := da
  obtain ⟨db1, db2⟩ := db
  obtain ⟨ea1, ea2⟩ := ea
  obtain ⟨eb1, eb2⟩ := eb
  have ia : ((pa ps k : Nat) : Int) < (n : Int) := by omega
  have ib : ((pb ps k : Nat) : Int) < (n : Int) := by omega
  have ia0 : (0 : Int) ≤ ((pa ps k : Nat) : Int) := by omega
  have ib0 : (0 : Int) ≤ ((pb ps k : Nat) : Int) := by omega
  have hkm : (k : Int) < (m : Int) := by omega
  clear hN hok hc1 hc2 hn hm he1 he2 he3 he4
  go_enter Try.func52, Try.ntmps52
  go_wp2
  obtain ⟨k0, k1, hB0, hz⟩ := blocks2 w #[.slice (some ⟨g1, o1, none⟩) n c1, .slice (some ⟨g2, o2, none⟩) m c2] #[.int .i64 (pa ps k : Int), .int .i64 (pb ps k : Int)] 84 79
  replace a0 := (hB0.cell (p := ⟨g1, _, none⟩) hg1).trans a0
  replace a1 := (hB0.cell (p := ⟨g1, _, none⟩) hg1).trans a1
  replace a2 := (hB0.cell (p := ⟨g1, _, none⟩) hg1).trans a2
  replace b0 := (hB0.cell (p := ⟨g1, _, none⟩) hg1).trans b0
  replace b1 := (hB0.cell (p := ⟨g1, _, none⟩) hg1).trans b1
  replace b2 := (hB0.cell (p := ⟨g1, _, none⟩) hg1).trans b2
  clear p0 p1
  generalize ((w.alloc (.cells #[.slice (some ⟨g1, o1, none⟩) n c1, .slice (some ⟨g2, o2, none⟩) m c2] 84)).alloc (.cells #[.int .i64 (pa ps k : Int), .int .i64 (pb ps k : Int)] 79)) = W at *
  have e0 : W.cell? ⟨w.heap.size, 0, none⟩ = some (.slice (some ⟨g1, o1, none⟩) n c1) := k0.cell 0
  have q0 : W.cell? ⟨w.heap.size + 1, 0, none⟩ = some (.int .i64 (pa ps k : Int)) := k1.cell 0
  have q1 : W.cell? ⟨w.heap.size + 1, 1, none⟩ = some (.int .i64 (pb ps k : Int)) := k1.cell 1
  have HL := Lib.hid (show lenP sc ps k = max ((nth sc (pa ps k)).day - (nth sc (pb ps k)).day) (-((nth sc (pa ps k)).day - (nth sc (pb ps k)).day)) + max ((nth sc (pa ps k)).base - (nth sc (pb ps k)).base) (-((nth sc (pa ps k)).base - (nth sc (pb ps k)).base)) from rfl)
  generalize pa ps k = P at *
  generalize pb ps k = Q at *
  generalize (nth sc P).day = dP at *
  generalize (nth sc P).base = bP at *
  generalize (nth sc P).name = nP at *
  generalize (nth sc Q).day = dQ at *
  generalize (nth sc Q).base = bQ at *
  generalize (nth sc Q).name = nQ at *
  have hgW : g1 < W.heap.size := by omega
  have hwW : w.heap.size < W.heap.size := by omega
  have hwW1 : w.heap.size + 1 < W.heap.size := by omega
  have n1 := World.new_ne W _ e0
  have n2 := World.new_ne W _ q0
  have n3 := World.new_ne W _ a0
  go_region_held3 (fun w' => w'.cell? ⟨w.heap.size, 0, none⟩ = some (.slice (some ⟨g1, o1, none⟩) n c1) ∧ w'.cell? ⟨w.heap.size + 1, 0, none⟩ = some (.int .i64 (P : Int)) ∧ w'.cell? ⟨w.heap.size + 1, 1, none⟩ = some (.int .i64 (Q : Int)) ∧
      w'.cell? ⟨g1, o1 + P * 3, none⟩ = some (.string nP) ∧ w'.cell? ⟨g1, o1 + P * 3 + 1, none⟩ = some (.int .i64 dP) ∧ w'.cell? ⟨g1, o1 + P * 3 + 2, none⟩ = some (.int .i64 bP) ∧
      w'.cell? ⟨g1, o1 + Q * 3, none⟩ = some (.string nQ) ∧ w'.cell? ⟨g1, o1 + Q * 3 + 1, none⟩ = some (.int .i64 dQ) ∧ w'.cell? ⟨g1, o1 + Q * 3 + 2, none⟩ = some (.int .i64 bQ))
    (first | go_keep) (first | fail)
  all_goals
    clear n1 n2 n3 e0 q0 q1 a0 a1 a2 b0 b1 b2 k0 k1
    have hw1 : IntKind.i64.wrap (dP - dQ) = dP - dQ := IntWalk.i64_in _ (by omega)
    have hw2 : IntKind.i64.wrap (bP - bQ) = bP - bQ := IntWalk.i64_in _ (by omega)
    have hw3 : IntKind.i64.wrap (max (dP - dQ) (-(dP - dQ)) + max (bP - bQ) (-(bP - bQ))) = max (dP - dQ) (-(dP - dQ)) + max (bP - bQ) (-(bP - bQ)) := IntWalk.i64_in _ (by omega)
    go_wp2
    go_quiet ((go_at_call 63; first | exact quiet_left (stack_size _ _ (by omega) (by omega)) | exact quiet_add_left (stack_size _ _ (by omega) (by omega))))
    go_wp2
    go_ret
    refine ⟨ret_int HL.out.symm, ?_⟩
    first
      | exact below_drewN ((hB0.alloc hB0.size _).alloc (by simp; omega) _) _
      | exact below_drewN ((hB0.alloc hB0.size _).alloc (by simp; omega) _).drew _
      | exact (below_drewN ((hB0.alloc hB0.size _).alloc (by simp; omega) _) _).drew
end Go.Proofs.Ytncmdjhdfhhkjaa
