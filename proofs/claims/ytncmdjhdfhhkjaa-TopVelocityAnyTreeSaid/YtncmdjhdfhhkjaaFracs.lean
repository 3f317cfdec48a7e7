/- Several fractions with one denominator. -/
import Derived.Test.YtncmdjhdfhhkjaaFrac
import Derived.Test.YtncmdjhdfhhkjaaRowsOf
namespace Go.Proofs.Ytncmdjhdfhhkjaa
open Go.RowKit Go.Sort

theorem frac_yes (num den : Int) (w : World) (hn : -4611686018427387904 ≤ num ∧ num ≤ 4611686018427387904) (hd : -4611686018427387904 ≤ den ∧ den ≤ 4611686018427387904) (h0 : den ≠ 0) (h : fracOk num den = true) :
    Calls Try.prog 35 #[.int .i64 num, .int .i64 den] w fun e w' => e = .returned (.tuple #[.agg #[.int .i64 (fnum num den), .int .i64 (fden num den)], .int .i64 0]) ∧ Below w.heap.size w w' := by
  have := frac_any num den w hn hd h0
  unfold fracV at this
  rw [if_pos h] at this
  exact this
theorem frac_no (num den : Int) (w : World) (hn : -4611686018427387904 ≤ num ∧ num ≤ 4611686018427387904) (hd : -4611686018427387904 ≤ den ∧ den ≤ 4611686018427387904) (h0 : den ≠ 0) (h : ¬ fracOk num den = true) :
    Calls Try.prog 35 #[.int .i64 num, .int .i64 den] w fun e w' => e = .returned (.tuple #[.agg #[.int .i64 0, .int .i64 0], .int .i64 8]) ∧ Below w.heap.size w w' := by
  have := frac_any num den w hn hd h0
  unfold fracV at this
  rw [if_neg h] at this
  exact this
theorem info_frac : (Try.prog.info? 32).map (fun i => (i.zero, i.size, i.bytes)) = some (some (.agg #[.int .i64 0, .int .i64 0]), 2, 16) := by kernel_rfl

def fracCell (zs : List Int) (den : Int) (k : Nat) : List Value := [.int .i64 (fnum (nth zs k) den), .int .i64 (fden (nth zs k) den)]
/-- What 'fracs' leaves where all are small. -/
def FracsPost (zs : List Int) (den : Int) (m : Nat) (w : World) (e : Ending) (w' : World) : Prop :=
  ∃ v, e = .returned (.tuple #[v, .int .i64 0]) ∧ w'.ownsRow w.heap.size 32 2 v m (flatN (fracCell zs den) m) ∧ Below w.heap.size w w'

theorem only_drewN {a w : World} {row : Option Nat} (h : a.grownBy w row) (n : Nat) : a.grownBy (w.drewN n) row := ⟨h.os, h.tape, h.output, h.size, h.block⟩
theorem own_below {w w' : World} {base : Nat} {e : TypeId} {s n : Nat} {v : Value} {xs : List Value} (h : w.ownsRow base e s v n xs) (hb : Below w.heap.size w w') : w'.ownsRow base e s v n xs :=
  h.kept (w' := w') (row := none) ⟨hb.os, hb.tape, hb.output, hb.size, fun j hj _ => hb.block j hj⟩ (by
    by_cases e0 : v.ownBlock = none
    · exact .inl e0
    · exact .inr e0)

set_option maxRecDepth 100000 in
set_option maxHeartbeats 2000000 in
theorem fracs_yes (den : Int) (zs : List Int) (A : Option Addr) (m c : Nat) (w : World) (hl : zs.length = m) (hm : m ≤ 20) (hz : ∀ k, k < m → -4611686018427387904 ≤ nth zs k ∧ nth zs k ≤ 4611686018427387904) (hd : -4611686018427387904 ≤ den ∧ den ≤ 4611686018427387904) (h0 : den ≠ 0)
    (hS : SliceAt w A 1 encI zs) (hok : ∀ k, k < m → fracOk (nth zs k) den = true) :
    Calls Try.prog 21 #[.int .i64 den, .slice A m c] w (FracsPost zs den m w) := by
  obtain ⟨i3, hi3, hz3, hs3, hb3⟩ := info_parts info_frac
  have HL := Lib.hid hl
  have H0 := Lib.hid h0
  clear hl h0
  go_enter Try.func21, Try.ntmps21
  go_wp2
  go_loopw [6, 13] (fun v i wr => ∃ k : Nat, k ≤ m ∧ i = .int .i64 k ∧ Below w.heap.size w wr ∧ wr.ownsRow w.heap.size 32 2 v k (flatN (fracCell zs den) k)) (fun _ i _ => m - (intOf i).toNat)
  case atStart => exact ⟨0, by omega, rfl, Below.refl _ _, World.ownsRow_nil _ _ _ _⟩
  case round =>
    obtain ⟨k, hk, rfl, hB, hown⟩ := hrel
    by_cases hlt : k < m
    · obtain ⟨g, o, rfl, hg, hcell⟩ := hS (by rw [HL.out]; omega)
      have d0 : wr.cell? ⟨g, o + k, none⟩ = some (.int .i64 (nth zs k)) := (hB.cell (p := ⟨g, _, none⟩) hg).trans (by have := hcell k (by rw [HL.out]; exact hlt) 0 _ rfl; simpa using this)
      have hgw : g < wr.heap.size := by have := hB.size; omega
      have HF := Lib.hid (frac_yes (nth zs k) den wr (hz k hlt) hd H0.out (hok k hlt))
      have hwz := hB.size
      clear hcell hz hok
      go_wp2_with fail
      refine HF.out.mono ?_
      rintro e w1 ⟨rfl, hB1⟩
      have hB2 := hB.trans (hB1.mono hB.size)
      have hown1 := own_below hown hB1
      have hz1 := hB2.size
      clear HF hown hB hB1
      go_wp2_with (first | (at_builtin; refine wpList_append_lies _ rfl _ _ _ rfl w.heap.size 32 i3 _ 2 16 Try.underlying70 hi3 hz3 hs3 hb3 rfl (by omega) _ k _ rfl ((hown1.alloc _).alloc _) ⟨w1.heap.size + 1, 0, none⟩ 1 1 (fracCell zs den k) rfl rfl ?c1 ?c2 ?c3 ?c4 ?c5 ?c6 _ rfl ?_))
      case c1 =>
        have := heap_alloc_new (w1.alloc (.cells #[.int .i64 (fnum (nth zs k) den), .int .i64 (fden (nth zs k) den)] 32)) (.cells #[.int .i64 (fnum (nth zs k) den), .int .i64 (fden (nth zs k) den)] 32)
        rw [World.size_alloc] at this
        exact World.news_of_block (cs := #[.int .i64 (fnum (nth zs k) den), .int .i64 (fden (nth zs k) den)]) this
      case c2 => simp [fracCell, Value.oneCell']
      case c3 => omega
      case c4 => simp [maxLen]; omega
      case c5 => omega
      case c6 => simp; omega
      intro g1 cap1 w2 hown2 hgrow2 hat2 hlt2
      have hB3 := ((hB2.alloc hz1 (.cells #[.int .i64 (fnum (nth zs k) den), .int .i64 (fden (nth zs k) den)] 32)).alloc (by simp; omega) (.cells #[.int .i64 (fnum (nth zs k) den), .int .i64 (fden (nth zs k) den)] 32)).grown hgrow2 (by simp; omega) (fun j e => (hown1.lt j e).1)
      clear hown1 hB2 hgrow2
      go_wp2
      go_roundw
      case rel => exact ⟨k + 1, by omega, by go_num, hB3, hown2⟩
      case measure => simp [intOf]; omega
    · have hk2 : m = k := by omega
      have HK := Lib.hid hk2
      clear hk2
      go_wp2
      go_ret2
      exact ⟨_, rfl, by rw [HK.out]; exact hown, hB⟩

set_option maxRecDepth 100000 in
set_option maxHeartbeats 2000000 in
theorem fracs_no (den : Int) (zs : List Int) (A : Option Addr) (m c k0 : Nat) (w : World) (hl : zs.length = m) (hm : m ≤ 20) (hz : ∀ k, k < m → -4611686018427387904 ≤ nth zs k ∧ nth zs k ≤ 4611686018427387904) (hd : -4611686018427387904 ≤ den ∧ den ≤ 4611686018427387904) (h0 : den ≠ 0)
    (hS : SliceAt w A 1 encI zs) (hk0 : k0 < m) (hok : ∀ k, k < k0 → fracOk (nth zs k) den = true) (hno : ¬ fracOk (nth zs k0) den = true) :
    Calls Try.prog 21 #[.int .i64 den, .slice A m c] w fun e w' => e = .returned (.tuple #[.slice none 0 0, .int .i64 8]) ∧ Below w.heap.size w w' := by
  obtain ⟨i3, hi3, hz3, hs3, hb3⟩ := info_parts info_frac
  have HL := Lib.hid hl
  have H0 := Lib.hid h0
  have HNO := Lib.hid hno
  clear hl h0 hno
  go_enter Try.func21, Try.ntmps21
  go_wp2
  go_loopw [6, 13] (fun v i wr => ∃ k : Nat, k ≤ k0 ∧ i = .int .i64 k ∧ Below w.heap.size w wr ∧ wr.ownsRow w.heap.size 32 2 v k (flatN (fracCell zs den) k)) (fun _ i _ => m - (intOf i).toNat)
  case atStart => exact ⟨0, by omega, rfl, Below.refl _ _, World.ownsRow_nil _ _ _ _⟩
  case round =>
    obtain ⟨k, hk, rfl, hB, hown⟩ := hrel
    have hlt : k < m := by omega
    obtain ⟨g, o, rfl, hg, hcell⟩ := hS (by rw [HL.out]; omega)
    have d0 : wr.cell? ⟨g, o + k, none⟩ = some (.int .i64 (nth zs k)) := (hB.cell (p := ⟨g, _, none⟩) hg).trans (by have := hcell k (by rw [HL.out]; exact hlt) 0 _ rfl; simpa using this)
    have hgw : g < wr.heap.size := by have := hB.size; omega
    have hwz := hB.size
    by_cases hkk : k < k0
    · have HF := Lib.hid (frac_yes (nth zs k) den wr (hz k hlt) hd H0.out (hok k hkk))
      clear hcell hz hok
      go_wp2_with fail
      refine HF.out.mono ?_
      rintro e w1 ⟨rfl, hB1⟩
      have hB2 := hB.trans (hB1.mono hB.size)
      have hown1 := own_below hown hB1
      have hz1 := hB2.size
      clear HF hown hB hB1
      go_wp2_with (first | (at_builtin; refine wpList_append_lies _ rfl _ _ _ rfl w.heap.size 32 i3 _ 2 16 Try.underlying70 hi3 hz3 hs3 hb3 rfl (by omega) _ k _ rfl ((hown1.alloc _).alloc _) ⟨w1.heap.size + 1, 0, none⟩ 1 1 (fracCell zs den k) rfl rfl ?c1 ?c2 ?c3 ?c4 ?c5 ?c6 _ rfl ?_))
      case c1 =>
        have := heap_alloc_new (w1.alloc (.cells #[.int .i64 (fnum (nth zs k) den), .int .i64 (fden (nth zs k) den)] 32)) (.cells #[.int .i64 (fnum (nth zs k) den), .int .i64 (fden (nth zs k) den)] 32)
        rw [World.size_alloc] at this
        exact World.news_of_block (cs := #[.int .i64 (fnum (nth zs k) den), .int .i64 (fden (nth zs k) den)]) this
      case c2 => simp [fracCell, Value.oneCell']
      case c3 => omega
      case c4 => simp [maxLen]; omega
      case c5 => omega
      case c6 => simp; omega
      intro g1 cap1 w2 hown2 hgrow2 hat2 hlt2
      have hB3 := ((hB2.alloc hz1 (.cells #[.int .i64 (fnum (nth zs k) den), .int .i64 (fden (nth zs k) den)] 32)).alloc (by simp; omega) (.cells #[.int .i64 (fnum (nth zs k) den), .int .i64 (fden (nth zs k) den)] 32)).grown hgrow2 (by simp; omega) (fun j e => (hown1.lt j e).1)
      clear hown1 hB2 hgrow2
      go_wp2
      go_roundw
      case rel => exact ⟨k + 1, by omega, by go_num, hB3, hown2⟩
      case measure => simp [intOf]; omega
    · have hkk2 : k = k0 := by omega
      have HF := Lib.hid (frac_no (nth zs k) den wr (hz k hlt) hd H0.out (by rw [hkk2]; exact HNO.out))
      clear hcell hz hok hkk2
      go_wp2_with fail
      refine HF.out.mono ?_
      rintro e w1 ⟨rfl, hB1⟩
      go_wp2
      go_ret2
      exact ⟨rfl, (hB.trans (hB1.mono hB.size)).alloc (hB.trans (hB1.mono hB.size)).size _⟩
end Go.Proofs.Ytncmdjhdfhhkjaa
