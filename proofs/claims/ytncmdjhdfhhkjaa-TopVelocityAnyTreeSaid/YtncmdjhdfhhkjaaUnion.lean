/- Scenes that are joined: newUnion, join, joined. -/
import Derived.Test.YtncmdjhdfhhkjaaBlocks
import Derived.Test.YtncmdjhdfhhkjaaFracs
namespace Go.Proofs.Ytncmdjhdfhhkjaa
open Go.RowKit Go.Sort

def labCell (u : Nat → Nat) (k : Nat) : List Value := [.int .i64 (u k : Int)]
theorem labCell_len (u : Nat → Nat) (k : Nat) : (labCell u k).length = 1 := rfl
theorem labs_get {u : Nat → Nat} {n k : Nat} (h : k < n) : (flatN (labCell u) n)[k]? = some (.int .i64 (u k : Int)) := by
  have := flatN_get (f := labCell u) (labCell_len u) (n := n) (k := k) (j := 0) h (by omega)
  simpa [labCell] using this
theorem labs_set {u u' : Nat → Nat} {k : Nat} : ∀ {n : Nat}, k < n → (∀ i, i < n → i ≠ k → u' i = u i) → (flatN (labCell u) n).set k (.int .i64 (u' k : Int)) = flatN (labCell u') n
  | 0, h, _ => by omega
  | n + 1, h, hu => by
    have hl := flatN_length (f := labCell u) (labCell_len u) n
    simp only [flatN]
    by_cases e : k = n
    · subst e
      rw [List.set_append_right _ _ (by rw [hl]; omega), hl, flatN_congr (f := labCell u) (g := labCell u') (fun i hi => by unfold labCell; rw [hu i (by omega) (by omega)])]
      simp [labCell]
    · rw [List.set_append_left _ _ (by rw [hl]; omega), labs_set (n := n) (by omega) (fun i hi hne => hu i (by omega) hne)]
      congr 1
      unfold labCell
      rw [hu n (by omega) (by omega)]

/-- The labels behind the joining of p and q. -/
def joinU (u : Nat → Nat) (p q i : Nat) : Nat := if u i = u p ∨ u i = u q then min (u p) (u q) else u i
def mixU (u : Nat → Nat) (p q k i : Nat) : Nat := if i < k then joinU u p q i else u i

theorem mixU_zero {u : Nat → Nat} {p q n : Nat} : flatN (labCell (mixU u p q 0)) n = flatN (labCell u) n := flatN_congr fun k _ => by unfold labCell mixU; rw [if_neg (by omega)]
theorem mixU_all {u : Nat → Nat} {p q n k : Nat} (h : n ≤ k) : flatN (labCell (mixU u p q k)) n = flatN (labCell (joinU u p q)) n := flatN_congr fun i hi => by unfold labCell mixU; rw [if_pos (by omega)]
theorem mix_hit {u : Nat → Nat} {p q n k : Nat} (hk : k < n) (h : u k = u p ∨ u k = u q) :
    (flatN (labCell (mixU u p q k)) n).set k (.int .i64 (if u q < u p then (u q : Int) else (u p : Int))) = flatN (labCell (mixU u p q (k + 1))) n := by
  have e : (if u q < u p then (u q : Int) else (u p : Int)) = ((mixU u p q (k + 1) k : Nat) : Int) := by
    have e2 : mixU u p q (k + 1) k = min (u p) (u q) := by unfold mixU joinU; rw [if_pos (by omega), if_pos h]
    rw [e2, Nat.min_def]
    by_cases h1 : u q < u p
    · rw [if_pos h1, if_neg (by omega)]
    · rw [if_neg h1]
      by_cases h2 : u p ≤ u q
      · rw [if_pos h2]
      · omega
  rw [e]
  exact labs_set hk (fun i _ hne => by unfold mixU; by_cases hi : i < k <;> simp [hi] <;> omega)
theorem mix_miss {u : Nat → Nat} {p q n k : Nat} (h : ¬ (u k = u p ∨ u k = u q)) : flatN (labCell (mixU u p q k)) n = flatN (labCell (mixU u p q (k + 1))) n :=
  flatN_congr fun i _ => by
    unfold labCell mixU
    by_cases hi : i = k
    · subst hi
      rw [if_neg (by omega), if_pos (by omega)]
      unfold joinU
      rw [if_neg h]
    · by_cases h2 : i < k
      · rw [if_pos h2, if_pos (by omega)]
      · rw [if_neg h2, if_neg (by omega)]
theorem neq_cast (a b : Nat) : ((a : Int) != (b : Int)) = decide (a ≠ b) := by
  by_cases h : a = b
  · subst h; simp
  · have : ¬ (a : Int) = (b : Int) := by omega
    rw [decide_eq_true h, bne_iff_ne]
    exact this

set_option maxRecDepth 100000 in
set_option maxHeartbeats 1000000 in
theorem newUnion_any (n : Nat) (w : World) (hn : n ≤ 1000) :
    Calls Try.prog 42 #[.int .i64 n] w fun e w' => ∃ v, e = .returned v ∧ w'.ownsRow w.heap.size 3 1 v n (flatN (labCell id) n) ∧ Below w.heap.size w w' := by
  obtain ⟨i1, hi1, hz1, hs1, hb1⟩ := info_parts info_int
  go_enter Try.func42, Try.ntmps42
  go_wp2
  go_loopw [3, 6] (fun v i wr => ∃ k : Nat, k ≤ n ∧ i = .int .i64 k ∧ Below w.heap.size w wr ∧ wr.ownsRow w.heap.size 3 1 v k (flatN (labCell id) k)) (fun _ i _ => n - (intOf i).toNat)
  case atStart => exact ⟨0, by omega, rfl, Below.refl _ _, World.ownsRow_nil _ _ _ _⟩
  case round =>
    obtain ⟨k, hk, rfl, hB, hown⟩ := hrel
    have hz := hB.size
    by_cases hlt : k < n
    · go_wp2_with (first | (at_builtin; refine wpList_append_lies _ rfl _ _ _ rfl w.heap.size 3 i1 _ 1 8 Try.underlying86 hi1 hz1 hs1 hb1 rfl (by omega) _ k _ rfl (hown.alloc _) ⟨wr.heap.size, 0, none⟩ 1 1 (labCell id k) rfl rfl ?c1 ?c2 ?c3 ?c4 ?c5 ?c6 _ rfl ?_))
      case c1 => exact World.news_of_block (cs := #[.int .i64 (k : Int)]) (heap_alloc_new wr _)
      case c2 => simp [labCell, Value.oneCell']
      case c3 => omega
      case c4 => simp [maxLen]; omega
      case c5 => omega
      case c6 => simp; omega
      intro g1 cap1 w2 hown2 hgrow2 hat2 hlt2
      have hB3 := (hB.alloc hz (.cells #[.int .i64 (k : Int)] 3)).grown hgrow2 (by simp; omega) (fun j e => (hown.lt j e).1)
      clear hown hB hgrow2
      go_wp2
      go_roundw
      case rel => exact ⟨k + 1, by omega, by go_num, hB3, hown2⟩
      case measure => simp [intOf]; omega
    · obtain rfl : n = k := by omega
      go_wp2
      go_ret
      exact ⟨_, rfl, hown, hB⟩

set_option maxRecDepth 100000 in
set_option maxHeartbeats 2000000 in
theorem join_any (u : Nat → Nat) (base g n cap p q : Nat) (w : World) (hn : n ≤ 1000) (hp : p < n) (hq : q < n) (hu : ∀ i, i < n → u i < 1000) (hown : w.ownsRow base 3 1 (.slice (some ⟨g, 0, none⟩) n cap) n (flatN (labCell u) n)) :
    Calls Try.prog 43 #[.slice (some ⟨g, 0, none⟩) n cap, .agg #[.int .i64 (p : Int), .int .i64 (q : Int)]] w fun e w' => e = .returned (.bool (decide (u p ≠ u q))) ∧
      w'.ownsRow base 3 1 (.slice (some ⟨g, 0, none⟩) n cap) n (flatN (labCell (joinU u p q)) n) ∧ w.grownBy w' (some g) := by
  have hg := (hown.lt g rfl).2
  have cp : w.cell? ⟨g, p, none⟩ = some (.int .i64 (u p : Int)) := (hown.cellAt p (by omega)).trans (labs_get hp)
  have cq : w.cell? ⟨g, q, none⟩ = some (.int .i64 (u q : Int)) := (hown.cellAt q (by omega)).trans (labs_get hq)
  have hpi : (p : Int) < (n : Int) := by omega
  have hqi : (q : Int) < (n : Int) := by omega
  have hp0 : (0 : Int) ≤ (p : Int) := by omega
  have hq0 : (0 : Int) ≤ (q : Int) := by omega
  go_enter Try.func43, Try.ntmps43
  go_wp2
  go_quiet (fail)
  go_wp2
  go_loopw [21] (fun i wr => ∃ k : Nat, k ≤ n ∧ i = .int .i64 k ∧ wr.ownsRow base 3 1 (.slice (some ⟨g, 0, none⟩) n cap) n (flatN (labCell (mixU u p q k)) n) ∧ w.grownBy wr (some g)) (fun i _ => n - (intOf i).toNat)
  case atStart =>
    refine ⟨0, by omega, rfl, ?_, ?_⟩
    · rw [mixU_zero]
      exact hown.alloc _
    · exact ⟨rfl, rfl, rfl, by simp, fun j hj _ => Below.heap_alloc w _ j hj⟩
  case round =>
    obtain ⟨k, hk, rfl, ho, hgr⟩ := hrel
    by_cases hlt : k < n
    · have ck : wr.cell? ⟨g, k, none⟩ = some (.int .i64 (u k : Int)) := by
        rw [ho.cellAt k (by omega), labs_get hlt]; simp [mixU]
      have fk := ho.frozenAt k
      by_cases e1 : u k = u p
      · have b1 : ((u k : Int) == (u p : Int)) = true := by simp [e1]
        have H := Lib.hid (show u k = u p ∨ u k = u q from .inl e1)
        clear e1
        go_wp2
        go_roundw
        case rel => exact ⟨k + 1, by omega, by go_num, (mix_hit hlt H.out) ▸ (ho.stored k _).1, hgr.trans (ho.stored k _).2⟩
        case measure => simp [intOf]; omega
      · have b1 : ((u k : Int) == (u p : Int)) = false := by simp; omega
        by_cases e2 : u k = u q
        · have b2 : ((u k : Int) == (u q : Int)) = true := by simp [e2]
          have H := Lib.hid (show u k = u p ∨ u k = u q from .inr e2)
          clear e1 e2
          go_wp2
          go_roundw
          case rel => exact ⟨k + 1, by omega, by go_num, (mix_hit hlt H.out) ▸ (ho.stored k _).1, hgr.trans (ho.stored k _).2⟩
          case measure => simp [intOf]; omega
        · have b2 : ((u k : Int) == (u q : Int)) = false := by simp; omega
          have H := Lib.hid (show ¬ (u k = u p ∨ u k = u q) from fun h => h.elim e1 e2)
          clear e1 e2
          go_wp2
          go_roundw
          case rel => exact ⟨k + 1, by omega, by go_num, (mix_miss H.out) ▸ ho, hgr⟩
          case measure => simp [intOf]; omega
    · have hk2 : n = k := by omega
      have HK := Lib.hid hk2
      clear hk2
      go_wp2
      go_ret
      exact ⟨ret_bool (neq_cast _ _), (mixU_all (Nat.le_of_eq HK.out)) ▸ ho, hgr⟩
end Go.Proofs.Ytncmdjhdfhhkjaa
