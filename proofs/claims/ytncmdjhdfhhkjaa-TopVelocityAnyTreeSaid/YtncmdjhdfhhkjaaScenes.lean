/- The scenes of a stack: checkScenes returns the number and the error of the first wrong one. -/
import Derived.Test.YtncmdjhdfhhkjaaNameS
import Derived.Test.YtncmdjhdfhhkjaaNet
namespace Go.Proofs.Ytncmdjhdfhhkjaa
open Go.RowKit Go.Sort

/-- Two names are one. -/
def sameName (x y : Scene) : Bool := x.name.toList == y.name.toList
/-- The name of scene i stands ahead of it. -/
def nameAhead (sc : List Scene) (i : Nat) : Bool := (sc.take i).any (fun y => sameName y (nth sc i))
/-- The error of scene i, behind those ahead of it. -/
noncomputable def sceneErr (sc : List Scene) (i : Nat) : Int :=
  if nameB (nth sc i).name = false then 4 else if nameAhead sc i = true then 5
  else if (withinB (nth sc i).day 0 100000 && withinB (nth sc i).base (-100000) 100000) = false then 2 else 0
/-- The first number at which f is not 0, and what it is there; 0 and 0 if it is 0 at all. -/
def firstBad (f : Nat → Int) : Nat → Nat × Int
  | 0 => (0, 0)
  | n + 1 => if (firstBad f n).2 = 0 then (if f n = 0 then (0, 0) else (n, f n)) else firstBad f n
theorem firstBad_zero {f : Nat → Int} : ∀ {n : Nat}, (∀ j, j < n → f j = 0) → firstBad f n = (0, 0)
  | 0, _ => rfl
  | n + 1, h => by
    have := firstBad_zero (n := n) (fun j hj => h j (by omega))
    simp [firstBad, this, h n (by omega)]
theorem firstBad_hit {f : Nat → Int} {k : Nat} (h0 : ∀ j, j < k → f j = 0) (hk : f k ≠ 0) : ∀ {n : Nat}, k < n → firstBad f n = (k, f k)
  | 0, h => by omega
  | n + 1, h => by
    by_cases e : k = n
    · subst e; simp [firstBad, firstBad_zero h0, hk]
    · have := firstBad_hit h0 hk (n := n) (by omega)
      simp [firstBad, this, hk]
theorem firstBad_all {f : Nat → Int} : ∀ {n : Nat}, (firstBad f n).2 = 0 → ∀ j, j < n → f j = 0
  | 0, _ => fun j hj => by omega
  | n + 1, h => fun j hj => by
    unfold firstBad at h
    by_cases e : (firstBad f n).2 = 0
    · rw [if_pos e] at h
      by_cases e2 : f n = 0
      · by_cases ej : j = n
        · subst ej; exact e2
        · exact firstBad_all e j (by omega)
      · rw [if_neg e2] at h; exact absurd h e2
    · rw [if_neg e] at h; exact absurd h e
/-- The number and the error of the first wrong scene. -/
noncomputable def scenesErr (sc : List Scene) : Nat × Int := if 60 < sc.length then (0, 8) else firstBad (sceneErr sc) sc.length

/-- Each name fits in memory. -/
def NamesFit (sc : List Scene) : Prop := ∀ k, k < sc.length → (nth sc k).name.size ≤ maxLen

theorem ahead_hit {sc : List Scene} {i j : Nat} (hj : j < i) (hi : i < sc.length) (h : sameName (nth sc j) (nth sc i) = true) : nameAhead sc i = true := by
  unfold nameAhead
  rw [List.any_eq_true]
  exact ⟨nth sc j, by rw [nth_eq (by omega)]; exact List.mem_take_iff_getElem.2 ⟨j, by omega, rfl⟩, h⟩
theorem ahead_none {sc : List Scene} {i : Nat} (hi : i ≤ sc.length) (h : ∀ j, j < i → sameName (nth sc j) (nth sc i) = false) : nameAhead sc i = false := by
  unfold nameAhead
  rw [List.any_eq_false]
  intro x hx
  obtain ⟨j, hj, e⟩ := List.mem_take_iff_getElem.1 hx
  have := h j (by omega)
  rw [nth_eq (by omega), e] at this
  simp [this]
theorem checkScenes1_any (y : Scene) (nm : ByteArray) (g : Nat) (w : World) (hc : w.cell? ⟨g, 0, none⟩ = some (.string nm)) (hg : g < w.heap.size) :
    Calls Try.prog 61 #[.agg #[.string y.name, .int .i64 y.day, .int .i64 y.base], .pointer (some ⟨g, 0, none⟩)] w fun e w' => e = .returned (.bool (y.name.toList == nm.toList)) ∧ Below w.heap.size w w' := by
  go_enter Try.func61, Try.ntmps61
  go_wp2
  go_ret
  exact ⟨rfl, (Below.refl _ _).alloc (Nat.le_refl _) _⟩

set_option maxRecDepth 100000 in
set_option maxHeartbeats 1000000 in
theorem indexFuncS_any (A : Option Addr) (n c g : Nat) (sc : List Scene) (x : Scene) (w : World) (hn : n ≤ sc.length) (hm : n ≤ 1000) (hS : SliceAt w A 3 Scene.enc sc) (hx : Blk w g 76 #[.string x.name, .int .i64 x.day, .int .i64 x.base]) :
    Calls Try.prog 66 #[.slice A n c, .func (.func 61) #[] #[.pointer (some ⟨g, 0, none⟩)]] w fun e w' => (∃ r : Int, e = .returned (.int .i64 r) ∧ -1 ≤ r ∧ decide (0 ≤ r) = (sc.take n).any (fun y => sameName y x)) ∧ Below w.heap.size w w' := by
  have HX := Lib.hid hx
  have HS := Lib.hid hS
  clear hx hS
  go_enter Try.func66, Try.ntmps66
  go_wp2
  go_loopw [5, 8] (fun _ i wr => ∃ k : Nat, k ≤ n ∧ i = .int .i64 k ∧ Hid (∀ j, j < k → sameName (nth sc j) x = false) ∧ Below w.heap.size w wr) (fun _ i _ => n - (intOf i).toNat)
  case atStart => exact ⟨0, by omega, rfl, Lib.hid fun j h => by omega, Below.refl _ _⟩
  case round =>
    obtain ⟨k, hk, rfl, hz, hB⟩ := hrel
    by_cases hlt : k < n
    · obtain ⟨b, off, rfl, hbs, hcell⟩ := HS.out (by omega)
      have hB1 := hB.cell (p := ⟨b, off + k * 3, none⟩) hbs
      have c0 : wr.cell? ⟨b, off + k * 3, none⟩ = some (.string (nth sc k).name) := (hB.cell (p := ⟨b, _, none⟩) hbs).trans (hcell k (by omega) 0 _ rfl)
      have c1 : wr.cell? ⟨b, off + k * 3 + 1, none⟩ = some (.int .i64 (nth sc k).day) := (hB.cell (p := ⟨b, _, none⟩) hbs).trans (hcell k (by omega) 1 _ rfl)
      have c2 : wr.cell? ⟨b, off + k * 3 + 2, none⟩ = some (.int .i64 (nth sc k).base) := (hB.cell (p := ⟨b, _, none⟩) hbs).trans (hcell k (by omega) 2 _ rfl)
      have hki : (k : Int) < (n : Int) := by omega
      have hbx := HX.out.below hB HX.out.lt
      have hcall := checkScenes1_any (nth sc k) x.name g wr (hbx.cell 0) hbx.lt
      have hsz := hB.size
      clear hcell hB1
      cases hq : sameName (nth sc k) x with
      | true =>
        have hq' : ((nth sc k).name.toList == x.name.toList) = true := hq
        rw [hq'] at hcall
        have HQ := Lib.hid hq
        clear hq hq'
        go_wp2_with fail
        refine hcall.mono ?_
        rintro e w' ⟨rfl, hb⟩
        clear hcall
        go_wp2
        go_ret
        exact ⟨⟨_, rfl, by omega, by rw [show (sc.take n).any (fun y => sameName y x) = true from List.any_eq_true.2 ⟨nth sc k, by rw [nth_eq (by omega)]; exact List.mem_take_iff_getElem.2 ⟨k, by omega, rfl⟩, HQ.out⟩]; simp⟩, hB.trans (hb.mono hsz)⟩
      | false =>
        have hq' : ((nth sc k).name.toList == x.name.toList) = false := hq
        rw [hq'] at hcall
        have HQ := Lib.hid hq
        clear hq hq'
        go_wp2_with fail
        refine hcall.mono ?_
        rintro e w' ⟨rfl, hb⟩
        have hB2 := hB.trans (hb.mono hsz)
        clear hcall hb c0 c1 c2 hbx
        go_wp2
        go_roundw
        case rel => exact ⟨k + 1, by omega, by go_num, Lib.hid fun j hj => by
          by_cases e : j = k
          · rw [e]; exact HQ.out
          · exact hz.out j (by omega), hB2⟩
        case measure => simp [intOf]; omega
    · obtain rfl : n = k := by omega
      go_wp2
      go_ret
      refine ⟨⟨-1, rfl, by omega, ?_⟩, hB⟩
      rw [show (sc.take n).any (fun y => sameName y x) = false from List.any_eq_false.2 fun y hy => by
        obtain ⟨j, hj, e⟩ := List.mem_take_iff_getElem.1 hy
        have := hz.out j (by omega)
        rw [nth_eq (by omega), e] at this
        simp [this]]
      rfl
theorem containsFuncS_any (A : Option Addr) (n c g : Nat) (sc : List Scene) (x : Scene) (w : World) (hn : n ≤ sc.length) (hm : n ≤ 1000) (hS : SliceAt w A 3 Scene.enc sc) (hx : Blk w g 76 #[.string x.name, .int .i64 x.day, .int .i64 x.base]) :
    Calls Try.prog 60 #[.slice A n c, .func (.func 61) #[] #[.pointer (some ⟨g, 0, none⟩)]] w fun e w' => e = .returned (.bool ((sc.take n).any (fun y => sameName y x))) ∧ Below w.heap.size w w' := by
  have HC := Lib.hid (indexFuncS_any A n c g sc x w hn hm hS hx)
  clear hn hS hx
  go_enter Try.func60, Try.ntmps60
  go_wp2_with fail
  refine HC.out.mono ?_
  rintro e w' ⟨⟨r, rfl, hr, hd⟩, hb⟩
  have HD := Lib.hid hd
  clear hd HC
  go_wp2
  go_ret
  exact ⟨ret_bool HD.out, hb⟩
end Go.Proofs.Ytncmdjhdfhhkjaa
