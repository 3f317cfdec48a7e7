/- slices.ContainsFunc over integers, at whatever predicate that leaves the world alone. -/
import Derived.Test.YtncmdjhdfhhkjaaSeriesLaw
namespace Go.Proofs.Ytncmdjhdfhhkjaa
open Go.RowKit

/-- A value that answers for each integer, and leaves the world alone. -/
def PredI (fn : FuncId) (p : Int → Bool) : Prop := ∀ (x : Int) (w : World), Calls Try.prog fn #[.int .i64 x] w fun e w' => e = .returned (.bool (p x)) ∧ w = w'
def encI1 (x : Int) : List Value := [.int .i64 x]
theorem any_hit {p : Int → Bool} {xs : List Int} {k : Nat} (hk : k < xs.length) (h : p (nth xs k) = true) : xs.any p = true := by
  rw [List.any_eq_true]; rw [nth_eq hk] at h; exact ⟨_, List.getElem_mem hk, h⟩
theorem any_none {p : Int → Bool} {xs : List Int} (h : ∀ k, k < xs.length → p (nth xs k) = false) : xs.any p = false := by
  rw [List.any_eq_false]
  intro x hx
  obtain ⟨i, hi, e⟩ := List.mem_iff_getElem.1 hx
  have := h i hi
  rw [nth_eq hi, e] at this
  simp [this]

set_option maxRecDepth 100000 in
set_option maxHeartbeats 1000000 in
theorem indexFuncI_any (fn : FuncId) (p : Int → Bool) (hp : PredI fn p) (A : Option Addr) (n c : Nat) (xs : List Int) (w : World) (hn : xs.length = n) (hm : n ≤ maxLen) (hS : SliceAt w A 1 encI1 xs) (eg : ∀ args w, (callFunc fn args).run Try.prog w = .ok (.enter fn args) w) :
    Calls Try.prog 38 #[.slice A n c, .func (.func fn) #[] #[]] w fun e w' => (∃ r : Int, e = .returned (.int .i64 r) ∧ -1 ≤ r ∧ decide (0 ≤ r) = xs.any p) ∧ w = w' := by
  unfold maxLen at hm
  have HN := Lib.hid hn
  have HP := Lib.hid hp
  clear hn hp
  go_enter Try.func38, Try.ntmps38
  go_wp2
  go_loop [5, 8] (fun _ i => ∃ k : Nat, k ≤ n ∧ i = .int .i64 k ∧ Hid (∀ j, j < k → p (nth xs j) = false)) (fun _ i => n - (intOf i).toNat)
  case atStart => exact ⟨0, by omega, rfl, Lib.hid fun j h => by omega⟩
  case round =>
    obtain ⟨k, hk, rfl, hz⟩ := hrel
    by_cases hlt : k < n
    · obtain ⟨b, off, rfl, hbs, hcell⟩ := hS (by rw [HN.out]; omega)
      have c0 : w.cell? ⟨b, off + k, none⟩ = some (.int .i64 (nth xs k)) := by have := hcell k (by rw [HN.out]; exact hlt) 0 _ rfl; simpa using this
      have hki : (k : Int) < (n : Int) := by omega
      clear hcell hS
      have hcall := HP.out (nth xs k) w
      cases hq : p (nth xs k) with
      | true =>
        rw [hq] at hcall
        have HQ := Lib.hid hq
        clear hq
        go_wp2_with fail
        refine hcall.mono ?_
        rintro e w' ⟨rfl, rfl⟩
        go_wp2
        go_ret
        exact ⟨⟨_, rfl, by omega, by rw [any_hit (by rw [HN.out]; exact hlt) HQ.out]; simp⟩, rfl⟩
      | false =>
        rw [hq] at hcall
        have HQ := Lib.hid hq
        clear hq
        go_wp2_with fail
        refine hcall.mono ?_
        rintro e w' ⟨rfl, rfl⟩
        go_wp2
        go_round
        case rel => exact ⟨k + 1, by omega, by go_num, Lib.hid fun j hj => by
          by_cases e : j = k
          · rw [e]; exact HQ.out
          · exact hz.out j (by omega)⟩
        case measure => simp [intOf]; omega
    · obtain rfl : n = k := by omega
      clear hS
      go_wp2
      go_ret
      exact ⟨⟨-1, rfl, by omega, by rw [any_none fun j hj => hz.out j (by rw [← HN.out]; exact hj)]; rfl⟩, rfl⟩
theorem containsFuncI_any (fn : FuncId) (p : Int → Bool) (hp : PredI fn p) (A : Option Addr) (n c : Nat) (xs : List Int) (w : World) (hn : xs.length = n) (hm : n ≤ maxLen) (hS : SliceAt w A 1 encI1 xs) (eg : ∀ args w, (callFunc fn args).run Try.prog w = .ok (.enter fn args) w) :
    Calls Try.prog 25 #[.slice A n c, .func (.func fn) #[] #[]] w fun e w' => e = .returned (.bool (xs.any p)) ∧ w = w' := by
  have HC := Lib.hid (indexFuncI_any fn p hp A n c xs w hn hm hS eg)
  clear hn hS hp
  go_enter Try.func25, Try.ntmps25
  go_wp2_with fail
  refine HC.out.mono ?_
  rintro e w' ⟨⟨r, rfl, hr, hd⟩, rfl⟩
  have HD := Lib.hid hd
  clear hd HC
  go_wp2
  go_ret
  exact ⟨ret_bool HD.out, rfl⟩
end Go.Proofs.Ytncmdjhdfhhkjaa
