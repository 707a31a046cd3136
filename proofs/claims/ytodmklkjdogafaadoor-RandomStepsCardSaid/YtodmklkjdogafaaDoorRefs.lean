/-
  The reference's Perm and its comparison of lists.
-/
import Derived.Test.YtodmklkjdogafaaDoorPerm
import Derived.Maps.AppendAt
namespace Go.Proofs.YtodmklkjdogafaaDoor
open Go.RowKit

/-- A row of the call's own that holds these numbers. -/
def Own (base : Nat) (w : World) (v : Value) (xs : List Int) : Prop := w.ownsRow base 3 1 v xs.length (xs.map (Value.int .i64))
theorem row_app {w : World} {base : Nat} {v : Value} {xs : List Int} {x : Int} {n : Nat} (h : w.ownsRow base 3 1 v (n + 1) (xs.map (Value.int .i64) ++ [.int .i64 x])) : w.ownsRow base 3 1 v (n + 1) ((xs ++ [x]).map (Value.int .i64)) := by
  simpa using h
theorem own_cell {w : World} {base g cp n : Nat} {L : List Int} (h : w.ownsRow base 3 1 (.slice (some ⟨g, 0, none⟩) n cp) n (L.map (Value.int .i64))) (hL : L.length = n) {i : Nat} (hi : i < n) : w.cell? ⟨g, i, none⟩ = some (.int .i64 (L.getD i 0)) := by
  rw [h.cellAt i (by omega), List.getElem?_map, List.getElem?_eq_getElem (by omega), Pl.gd (by omega)]; rfl
theorem own_set {w : World} {base g cp n : Nat} {L : List Int} (h : w.ownsRow base 3 1 (.slice (some ⟨g, 0, none⟩) n cp) n (L.map (Value.int .i64))) (i : Nat) (x : Int) : (w.setCell ⟨g, i, none⟩ (.int .i64 x)).ownsRow base 3 1 (.slice (some ⟨g, 0, none⟩) n cp) n ((L.set i x).map (Value.int .i64)) := by
  have := (h.stored i (.int .i64 x)).1
  rwa [← List.map_set] at this

set_option maxHeartbeats 400000 in
theorem rperm_none (s : Nat) (n : Int) (w : World) (hn : n < 1 ∨ 1000 < n) :
    Calls Tryd.prog 16 #[.int .u64 s, .int .i64 n] w fun e w' => e = .returned (.slice none 0 0) ∧ Below w.heap.size w w' := by
  go_enter Tryd.func16, Tryd.ntmps16
  go_wp2_with fail
  all_goals
    go_ret
    exact ⟨rfl, Below.refl _ _⟩

set_option maxHeartbeats 4000000 in
set_option maxRecDepth 100000 in
theorem rperm_any (s N : Nat) (w : World) (hlt : s < 2 ^ 64) (hN1 : 1 ≤ N) (hN2 : N ≤ 1000) :
    Calls Tryd.prog 16 #[.int .u64 s, .int .i64 (N : Nat)] w fun e w' => ∃ g cp, e = .returned (.slice (some ⟨g, 0, none⟩) N cp) ∧ w'.ownsRow w.heap.size 3 1 (.slice (some ⟨g, 0, none⟩) N cp) N ((Pl.perm s N).map (Value.int .i64)) ∧ Below w.heap.size w w' := by
  obtain ⟨i0, hi, hz0, hz1, hz2⟩ := info_parts info3
  have n1 : ¬ ((N : Int) < 1) := by omega
  have n2 : ¬ ((1000 : Int) < N) := by omega
  go_enter Tryd.func16, Tryd.ntmps16
  go_wp2_with fail
  go_loopw [5, 6] (fun v i wr => ∃ k : Nat, k ≤ N ∧ i = .int .i64 (k : Nat) ∧ wr.ownsRow w.heap.size 3 1 v k ((Pl.nums k).map (Value.int .i64)) ∧ Below w.heap.size w wr)
    (fun _ i _ => N - (intOf i).toNat)
  case atStart => exact ⟨0, by omega, rfl, World.ownsRow_nil _ _ _ _, Below.refl _ _⟩
  case round =>
    obtain ⟨k, hk, rfl, hown, hB⟩ := hrel
    by_cases hkN : k < N
    · have hkI : (k : Int) < N := by omega
      have wk : IntKind.i64.wrap ((k : Int) + 1) = ((k + 1 : Nat) : Int) := by rw [IntKind.wrap_i64]; omega
      go_wp2_with (first
        | (at_builtin; refine wpList_append_own _ rfl _ _ 27 rfl w.heap.size 3 i0 (.int .i64 0) 1 8 Tryd.underlying27 hi hz0 hz1 hz2 rfl (by decide) _ _ _ rfl (hown.alloc _) ⟨wr.heap.size, 0, none⟩ 1 1 [_] rfl rfl (cell_one_new _ _ _) (by intro u hu; simp at hu; subst hu; rfl) (by unfold maxLen; omega) (by omega) (by have := hB.size; simp; omega) ?_))
      intro v' w1 hown1 hgrow _
      have hB1 : Below w.heap.size w w1 := (B_alloc hB _).grown hgrow (B_alloc hB _).size (fun j hj => (hown.lt j hj).1)
      have hrow := row_app hown1
      rw [← Pl.nums_succ] at hrow
      clear hown1 hgrow hown
      go_wp2_with fail
      go_roundw
      case rel => exact ⟨k + 1, by omega, by simp, hrow, hB1⟩
      all_goals first | (simp [intOf]; done) | (simp [intOf]; omega)
    · obtain rfl : N = k := by omega
      obtain ⟨g, cp, rfl⟩ := Joins.ownsRow_form hown (by omega)
      go_wp2_with fail
      have hN0 : ((N : Int) - 1) = ((N - 1 : Nat) : Int) := by omega
      rw [hN0]
      clear hN0
      go_loopw [0, 7] (fun sv iv wr => ∃ (S i : Nat) (L : List Int), sv = .int .u64 (S : Nat) ∧ iv = .int .i64 (i : Nat) ∧ S < 2 ^ 64 ∧ i < N ∧ L.length = N ∧ Pl.pm S L i = Pl.perm s N ∧ wr.ownsRow w.heap.size 3 1 (.slice (some ⟨g, 0, none⟩) N cp) N (L.map (Value.int .i64)) ∧ Below w.heap.size w wr)
        (fun _ iv _ => (intOf iv).toNat)
      case atStart => exact ⟨s, N - 1, _, rfl, rfl, hlt, by omega, Pl.nums_len N, rfl, hown, hB⟩
      case round =>
        clear hown hB
        obtain ⟨S, i, L, rfl, rfl, hS, hiN, hlen, hpm, hown, hB⟩ := hrel
        by_cases hi0 : i = 0
        · subst hi0
          rw [Pl.pm_zero] at hpm
          go_wp2_with fail
          go_ret
          exact ⟨g, cp, rfl, by rw [← hpm]; exact hown, hB⟩
        · obtain ⟨j, rfl⟩ : ∃ j, i = j + 1 := ⟨i - 1, by omega⟩
          have hnl := Pl.next_lt S
          have hX := Pl.half_lt hnl
          have hHf := fun W => half_any (Pl.next S) W hnl
          have hNf := rnext_any S
          rw [Pl.pm_succ] at hpm
          generalize Pl.half (Pl.next S) = X at hX hpm hHf
          generalize Pl.next S = Y at hnl hpm hHf hNf
          obtain ⟨K, hK⟩ : ∃ K, K = X % (j + 2) := ⟨_, rfl⟩
          have hKl : K < j + 2 := by rw [hK]; exact Nat.mod_lt _ (by omega)
          obtain ⟨i, hi⟩ : ∃ i : Nat, i = j + 1 := ⟨_, rfl⟩
          rw [← hi] at hpm hiN
          rw [show ((j + 1 : Nat) : Int) = (i : Int) from by omega]
          rw [show j + 2 = i + 1 from by omega] at hK hpm
          rw [← hK] at hpm
          have i1 : ¬ ((i : Int) ≤ 0) := by omega
          have i2 : IntKind.i64.wrap ((i : Int) + 1) = (i : Int) + 1 := by rw [IntKind.wrap_i64]; omega
          have i3 : IntKind.i64.wrap ((i : Int) - 1) = (j : Nat) := by rw [IntKind.wrap_i64]; omega
          have i4 : ¬ ((i : Int) + 1 = 0) := by omega
          have hKI : (X : Int) % ((i : Int) + 1) = (K : Int) := by rw [hK]; simp
          have hiI : (i : Int) < N := by omega
          have hKN : (K : Int) < N := by omega
          have c1 := own_cell hown hlen (i := i) (by omega)
          have f1 := hown.frozenAt i
          have c2 := own_cell hown hlen (i := K) (by omega)
          have f2 := hown.frozenAt K
          obtain ⟨xi, hxi⟩ : ∃ x, x = L.getD i 0 := ⟨_, rfl⟩
          obtain ⟨xk, hxk⟩ : ∃ x, x = L.getD K 0 := ⟨_, rfl⟩
          rw [← hxi] at c1
          rw [← hxk] at c2
          have Hsw : Pl.sw L i K = (L.set i xk).set K xi := by rw [Pl.sw, hxi, hxk]
          have HSW := Lib.hid Hsw
          have Hxi := Lib.hid hxi
          have Hxk := Lib.hid hxk
          clear hxi hxk Hsw
          have hgb := (hown.lt g rfl).1
          have HK := Lib.hid hK
          have Hi := Lib.hid hi
          clear hK hi
          by_cases hiK : i = K
          · subst hiK
            obtain rfl : xi = xk := by rw [Hxi.out, Hxk.out]
            clear c2 f2
            go_wp2_with (first | (go_at_call 11; refine (hNf _).mono ?_; rintro e w1 ⟨rfl, rfl⟩) | (go_at_call 20; refine (hHf _).mono ?_; rintro e w1 ⟨rfl, rfl⟩))
            go_roundw
            case rel => exact ⟨Y, j, Pl.sw L i i, rfl, rfl, hnl, by have := Hi.out; omega, by rw [Pl.sw_len]; exact hlen, hpm, by rw [HSW.out]; exact own_set (own_set hown i _) i _, by refine Below.setCell (Below.setCell hB ?_ _) ?_ _ <;> exact hgb⟩
            all_goals have := Hi.out
            all_goals first | (simp [intOf]; done) | (simp [intOf]; omega)
          · have hKi : ¬ K = i := fun h => hiK h.symm
            go_wp2_with (first | (go_at_call 11; refine (hNf _).mono ?_; rintro e w1 ⟨rfl, rfl⟩) | (go_at_call 20; refine (hHf _).mono ?_; rintro e w1 ⟨rfl, rfl⟩))
            go_roundw
            case rel => exact ⟨Y, j, Pl.sw L i K, rfl, rfl, hnl, by have := Hi.out; omega, by rw [Pl.sw_len]; exact hlen, hpm, by rw [HSW.out]; exact own_set (own_set hown i _) K _, by refine Below.setCell (Below.setCell hB ?_ _) ?_ _ <;> exact hgb⟩
            all_goals have := Hi.out
            all_goals first | (simp [intOf]; done) | (simp [intOf]; omega)

set_option maxHeartbeats 400000 in
theorem same_none (w : World) :
    Calls Tryd.prog 14 #[.slice none 0 0, .slice none 0 0] w fun e w' => e = .returned (.bool true) ∧ Below w.heap.size w w' := by
  go_enter Tryd.func14, Tryd.ntmps14
  go_wp2_with fail
  refine wp_loop_rounds 1 ?_
  rw [rounds_succ]
  go_wp2_with fail
  go_ret
  exact ⟨rfl, Below.refl _ _⟩

set_option maxHeartbeats 1000000 in
theorem same_any (g1 p1 g2 p2 N : Nat) (L : List Int) (w : World) (hN : N ≤ 1000) (h1 : ∀ i, i < N → w.cell? ⟨g1, i, none⟩ = some (.int .i64 (L.getD i 0))) (h2 : ∀ i, i < N → w.cell? ⟨g2, i, none⟩ = some (.int .i64 (L.getD i 0))) :
    Calls Tryd.prog 14 #[.slice (some ⟨g1, 0, none⟩) N p1, .slice (some ⟨g2, 0, none⟩) N p2] w fun e w' => e = .returned (.bool true) ∧ Below w.heap.size w w' := by
  go_enter Tryd.func14, Tryd.ntmps14
  go_wp2_with fail
  go_loopw [5] (fun i wr => ∃ k : Nat, k ≤ N ∧ i = .int .i64 (k : Nat) ∧ Below w.heap.size w wr)
    (fun i _ => N - (intOf i).toNat)
  case atStart => exact ⟨0, by omega, rfl, Below.refl _ _⟩
  case round =>
    obtain ⟨k, hk, rfl, hB⟩ := hrel
    by_cases hkN : k < N
    · have hkI : (k : Int) < N := by omega
      have wk : IntKind.i64.wrap ((k : Int) + 1) = ((k + 1 : Nat) : Int) := by rw [IntKind.wrap_i64]; omega
      have c1 := (hB.cell (cell_lt (h1 k hkN))).trans (h1 k hkN)
      have c2 := (hB.cell (cell_lt (h2 k hkN))).trans (h2 k hkN)
      generalize L.getD k 0 = x at c1 c2
      go_wp2_with fail
      go_quiet (fail)
      go_wp2_with fail
      go_roundw
      case rel => exact ⟨k + 1, by omega, by simp, B_drewN hB _⟩
      all_goals first | (simp [intOf]; done) | (simp [intOf]; omega)
    · obtain rfl : N = k := by omega
      go_wp2_with fail
      go_ret
      exact ⟨rfl, hB⟩
end Go.Proofs.YtodmklkjdogafaaDoor
