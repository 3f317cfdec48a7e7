/- Fractions in lowest terms. -/
import Derived.Test.YtncmdjhdfhhkjaaCof
import Derived.Test.YtncmdjhdfhhkjaaRegion
import Derived.RegionTactic
namespace Go.Proofs.Ytncmdjhdfhhkjaa
open Go.RowKit Go.Sort

/-- Numerator and denominator of num / den in lowest terms, the denominator above 0. -/
def fnum (num den : Int) : Int := num / (Int.gcd num den : Int) * den.sign
def fden (num den : Int) : Int := ((den.natAbs / Int.gcd num den : Nat) : Int)
def fracOk (num den : Int) : Bool := withinB (fnum num den) (-1000000000) 1000000000 && decide (fden num den ≤ 1000000000)

/-- What 'frac' returns. -/
def fracV (num den : Int) : Value := if fracOk num den then .tuple #[.agg #[.int .i64 (fnum num den), .int .i64 (fden num den)], .int .i64 0] else .tuple #[.agg #[.int .i64 0, .int .i64 0], .int .i64 8]
theorem fracV_ok {num den x y : Int} (h1 : fnum num den = x) (h2 : fden num den = y) (h3 : withinB x (-1000000000) 1000000000 = true) (h4 : ¬ 1000000000 < y) : Value.tuple #[.agg #[.int .i64 x, .int .i64 y], .int .i64 0] = fracV num den := by
  subst h1 h2
  unfold fracV fracOk
  rw [if_pos (by rw [h3]; simp; omega)]
theorem fracV_far {num den x : Int} (h1 : fnum num den = x) (h3 : ¬ withinB x (-1000000000) 1000000000 = true) : Value.tuple #[.agg #[.int .i64 0, .int .i64 0], .int .i64 8] = fracV num den := by
  subst h1
  unfold fracV fracOk
  rw [if_neg (by simp [h3])]
theorem fracV_big {num den y : Int} (h2 : fden num den = y) (h4 : 1000000000 < y) : Value.tuple #[.agg #[.int .i64 0, .int .i64 0], .int .i64 8] = fracV num den := by
  subst h2
  unfold fracV fracOk
  rw [if_neg (by simp; intro _; omega)]
theorem ret_val {u v : Value} (h : u = v) : Ending.returned u = .returned v := by rw [h]
theorem gcd_step (a b : Int) : Int.gcd b (a.tmod b) = Int.gcd a b := by
  rw [Int.gcd_comm a b]
  simp only [Int.gcd, Int.natAbs_tmod]
  rw [Nat.gcd_comm b.natAbs (a.natAbs % b.natAbs), ← Nat.gcd_rec]
theorem frac_parts {num den a q r : Int} (h1 : a * q = num) (h2 : a * r = den) (hg : (a.natAbs : Int) = (Int.gcd num den : Int)) (ha : a ≠ 0) : fnum num den = q * r.sign ∧ fden num den = (r.natAbs : Int) := by
  unfold fnum fden
  have hg' : Int.gcd num den = a.natAbs := by omega
  rw [hg', ← h1, ← h2]
  refine ⟨?_, ?_⟩
  · rcases Int.natAbs_eq a with h | h
    · rw [← h, Int.mul_ediv_cancel_left _ ha, Int.sign_mul]
      have : a.sign = 1 := Int.sign_eq_one_of_pos (by omega)
      rw [this, Int.one_mul]
    · have hneg : (a.natAbs : Int) = -a := by omega
      rw [hneg, Int.ediv_neg, Int.mul_ediv_cancel_left _ ha, Int.sign_mul]
      have : a.sign = -1 := Int.sign_eq_neg_one_of_neg (by omega)
      rw [this, Int.neg_one_mul, Int.neg_mul_neg]
  · rw [Int.natAbs_mul, Nat.mul_div_cancel_left _ (by omega)]

theorem tmod_small (a b : Int) (hb : ¬ b = 0) : (a.tmod b).natAbs < b.natAbs := by
  rw [Int.natAbs_tmod]; exact Nat.mod_lt _ (by omega)

set_option maxRecDepth 100000 in
set_option maxHeartbeats 2000000 in
theorem frac_any (num den : Int) (w : World) (hn : -4611686018427387904 ≤ num ∧ num ≤ 4611686018427387904) (hd : -4611686018427387904 ≤ den ∧ den ≤ 4611686018427387904) (h0 : den ≠ 0) :
    Calls Try.prog 35 #[.int .i64 num, .int .i64 den] w fun e w' => e = .returned (fracV num den) ∧ Below w.heap.size w w' := by
  obtain ⟨hn1, hn2⟩ := hn
  obtain ⟨hd1, hd2⟩ := hd
  have H0 := Lib.hid h0
  clear h0
  go_enter Try.func35, Try.ntmps35
  go_wp2
  go_loopw [6, 7] (fun x y wr => ∃ a b : Int, x = .int .i64 a ∧ y = .int .i64 b ∧ Hid (Int.gcd a b = Int.gcd num den) ∧ (-4611686018427387904 ≤ a ∧ a ≤ 4611686018427387904) ∧ (-4611686018427387904 ≤ b ∧ b ≤ 4611686018427387904) ∧ ∃ n, Hid (wr = (w.alloc (.cells #[.int .i64 0, .int .i64 0] 32)).drewN n)) (fun _ y _ => (intOf y).natAbs)
  case atStart => exact ⟨num, den, rfl, rfl, Lib.hid rfl, ⟨hn1, hn2⟩, ⟨hd1, hd2⟩, 0, Lib.hid rfl⟩
  case round =>
    obtain ⟨a, b, rfl, rfl, hg, ⟨ha1, ha2⟩, ⟨hb1, hb2⟩, nd, hw⟩ := hrel
    obtain rfl := hw.out
    clear hw
    by_cases hb : b = 0
    · subst hb
      have hg0 := hg.out
      rw [Int.gcd_zero_right] at hg0
      have ha : a ≠ 0 := by
        intro h
        rw [h] at hg0
        have : Int.gcd num den = 0 := by rw [← hg0]; rfl
        exact H0.out (Int.gcd_eq_zero_iff.1 this).2
      obtain ⟨q, hq⟩ : a ∣ num := by have := Int.gcd_dvd_left num den; rw [← hg0] at this; exact Int.natAbs_dvd.1 this
      obtain ⟨r, hr⟩ : a ∣ den := by have := Int.gcd_dvd_right num den; rw [← hg0] at this; exact Int.natAbs_dvd.1 this
      have hr0 : r ≠ 0 := fun h => H0.out (by rw [hr, h, Int.mul_zero])
      have t1 : num.tdiv a = q := by rw [hq]; exact Int.mul_tdiv_cancel_left _ ha
      have t2 : den.tdiv a = r := by rw [hr]; exact Int.mul_tdiv_cancel_left _ ha
      obtain ⟨f1, f2⟩ := frac_parts hq.symm hr.symm (by omega) ha
      have bq : q.natAbs ≤ num.natAbs := by rw [hq, Int.natAbs_mul]; exact Nat.le_mul_of_pos_left _ (by omega)
      have br : r.natAbs ≤ den.natAbs := by rw [hr, Int.natAbs_mul]; exact Nat.le_mul_of_pos_left _ (by omega)
      have bq1 : -4611686018427387904 ≤ q ∧ q ≤ 4611686018427387904 := by omega
      have br1 : -4611686018427387904 ≤ r ∧ r ≤ 4611686018427387904 := by omega
      obtain ⟨bq1, bq2⟩ := bq1
      obtain ⟨br1, br2⟩ := br1
      have ha0 : (a == 0) = false := by simpa using ha
      clear hq hr hg0 bq br hg hb1 hb2
      have wq : IntKind.i64.wrap q = q := IntWalk.i64_in _ (by omega)
      have wr' : IntKind.i64.wrap r = r := IntWalk.i64_in _ (by omega)
      have wq' : wrap64 q = q := wrap64_in _ (by omega)
      have wr'' : wrap64 r = r := wrap64_in _ (by omega)
      have F1 := Lib.hid f1
      have F2 := Lib.hid f2
      clear f1 f2
      rcases (by omega : r < 0 ∨ 0 < r) with hrn | hrp
      · have g1 := Lib.hid (show fnum num den = (-q) by rw [F1.out, Int.sign_eq_neg_one_of_neg hrn, Int.mul_neg_one])
        have g2 := Lib.hid (show fden num den = (-r) by rw [F2.out]; omega)
        go_wp2
        go_region
        all_goals go_wp2_with (first | (go_at_call 48; refine (series_small _ _ _ (by decide) (by decide)).mono ?_; rintro e w' ⟨rfl, rfl⟩))
        · refine bodyPost_ret (v := .tuple #[.agg #[.int .i64 0, .int .i64 0], .int .i64 8]) (by simp [results, Try.results35, go_sem]) rfl ⟨ret_val (fracV_big g2.out (by assumption)), ?_⟩
          exact ((((below_drewN ((Below.refl _ _).alloc (by simp) _) _).setCell (by simp) _).setCell (by simp) _).alloc (by simp) _)
        · refine bodyPost_ret (v := .tuple #[.agg #[.int .i64 (-q), .int .i64 (-r)], .int .i64 0]) (by simp [results, Try.results35, go_sem]) rfl ⟨ret_val (fracV_ok g1.out g2.out (by assumption) (by omega)), ?_⟩
          exact ((((below_drewN ((Below.refl _ _).alloc (by simp) _) _).setCell (by simp) _).setCell (by simp) _).alloc (by simp) _)
        · refine bodyPost_ret (v := .tuple #[.agg #[.int .i64 0, .int .i64 0], .int .i64 8]) (by simp [results, Try.results35, go_sem]) rfl ⟨ret_val (fracV_far g1.out (by assumption)), ?_⟩
          exact ((((below_drewN ((Below.refl _ _).alloc (by simp) _) _).setCell (by simp) _).setCell (by simp) _).alloc (by simp) _)
      · have g1 := Lib.hid (show fnum num den = q by rw [F1.out, Int.sign_eq_one_of_pos hrp, Int.mul_one])
        have g2 := Lib.hid (show fden num den = r by rw [F2.out]; omega)
        go_wp2
        go_region
        all_goals go_wp2_with (first | (go_at_call 48; refine (series_small _ _ _ (by decide) (by decide)).mono ?_; rintro e w' ⟨rfl, rfl⟩))
        · refine bodyPost_ret (v := .tuple #[.agg #[.int .i64 0, .int .i64 0], .int .i64 8]) (by simp [results, Try.results35, go_sem]) rfl ⟨ret_val (fracV_big g2.out (by assumption)), ?_⟩
          exact ((((below_drewN ((Below.refl _ _).alloc (by simp) _) _).setCell (by simp) _).setCell (by simp) _).alloc (by simp) _)
        · refine bodyPost_ret (v := .tuple #[.agg #[.int .i64 q, .int .i64 r], .int .i64 0]) (by simp [results, Try.results35, go_sem]) rfl ⟨ret_val (fracV_ok g1.out g2.out (by assumption) (by omega)), ?_⟩
          exact ((((below_drewN ((Below.refl _ _).alloc (by simp) _) _).setCell (by simp) _).setCell (by simp) _).alloc (by simp) _)
        · refine bodyPost_ret (v := .tuple #[.agg #[.int .i64 0, .int .i64 0], .int .i64 8]) (by simp [results, Try.results35, go_sem]) rfl ⟨ret_val (fracV_far g1.out (by assumption)), ?_⟩
          exact ((((below_drewN ((Below.refl _ _).alloc (by simp) _) _).setCell (by simp) _).setCell (by simp) _).alloc (by simp) _)
    · have hbb : (b == 0) = false := by simpa using hb
      have hbn : (b != 0) = true := by simpa using hb
      go_wp2
      go_quiet (fail)
      go_wp2
      refine ⟨⟨b, a.tmod b, rfl, rfl, Lib.hid ((gcd_step a b).trans hg.out), ⟨hb1, hb2⟩, by have := tmod_small a b hb; omega, nd + nq, Lib.hid (by rw [World.drewN_drewN])⟩, ?_⟩
      exact tmod_small a b hb
end Go.Proofs.Ytncmdjhdfhhkjaa
