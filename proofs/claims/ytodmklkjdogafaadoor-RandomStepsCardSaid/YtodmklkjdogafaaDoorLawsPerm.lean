/-
  The walks of the laws RandomPerm and RandomSteps: each returns true. Condition: the table of steps reads as its initialiser lays it.
-/
import Derived.Test.YtodmklkjdogafaaDoorBridge
namespace Go.Proofs.YtodmklkjdogafaaDoor
open Go.RowKit

namespace Pl
/-- Which numbers were met among the first k. -/
def flags (L : List Int) (N k : Nat) : List Bool := (List.range N).map fun (j : Nat) => decide ((j : Int) ∈ L.take k)
theorem flags_len (L : List Int) (N k : Nat) : (flags L N k).length = N := by simp [flags]
theorem flags_zero (L : List Int) (N : Nat) : flags L N 0 = List.replicate N false := by
  refine List.ext_getElem (by simp [flags]) fun i h1 h2 => ?_
  simp [flags]
theorem nums_nodup (N : Nat) : (nums N).Nodup := by
  unfold List.Nodup
  rw [List.pairwise_iff_getElem]
  intro i j hi hj hij
  simp only [nums, List.getElem_map, List.getElem_range, ne_eq]
  omega
theorem perm_step (s N k : Nat) (h : 1 ≤ N) (hk : k < N) : ∃ j : Nat, j < N ∧ (perm s N).getD k 0 = (j : Int) ∧ (flags (perm s N) N k)[j]? = some false ∧ (flags (perm s N) N k).set j true = flags (perm s N) N (k + 1) := by
  have hp := perm_perm s h
  have hlen := perm_len s N
  generalize perm s N = L at hp hlen
  have hkl : k < L.length := by omega
  have hm : L[k] ∈ nums N := hp.mem_iff.1 (List.getElem_mem hkl)
  obtain ⟨j, hj, hjx⟩ := List.mem_map.1 hm
  have hjN : j < N := List.mem_range.1 hj
  have hnd : L.Nodup := hp.nodup_iff.2 (nums_nodup N)
  have hnot : ¬ (j : Int) ∈ L.take k := by
    intro hin
    obtain ⟨i, hi, hix⟩ := List.mem_iff_getElem.1 hin
    have hik : i < k := by simp at hi; omega
    rw [List.getElem_take] at hix
    unfold List.Nodup at hnd
    exact List.pairwise_iff_getElem.1 hnd i k (by omega) hkl hik (hix.trans hjx)
  refine ⟨j, hjN, by rw [gd hkl]; exact hjx.symm, by simp [flags, hjN, hnot], ?_⟩
  refine List.ext_getElem (by simp [flags]) fun i h1 h2 => ?_
  have hi : i < N := by simpa [flags] using h2
  simp only [flags, List.getElem_set, List.getElem_map, List.getElem_range, List.take_add_one, List.mem_append, List.getElem?_eq_getElem hkl, Option.toList_some, List.mem_singleton]
  by_cases hij : j = i
  · subst hij
    simp [hjx]
  · rw [if_neg hij]
    have : ¬ (i : Int) = L[k] := by rw [← hjx]; omega
    simp [this]
theorem steps_low (s M k : Nat) (h : 1 ≤ M) (hk : k < M) : (perm s (M + 1)).getD k 0 = if (perm (next s) M).getD k 0 = (last s (M + 1) : Int) then (M : Int) else (perm (next s) M).getD k 0 := by
  have hl := perm_len (next s) M
  rw [perm_steps s M h]
  rw [gd (by simp; omega), gd (by omega), List.getElem_append_left (by simp; omega)]
  simp
theorem steps_last (s M : Nat) (h : 1 ≤ M) : (perm s (M + 1)).getD M 0 = (last s (M + 1) : Int) := by
  have hl := perm_len (next s) M
  rw [perm_steps s M h]
  rw [gd (by simp; omega), List.getElem_append_right (by simp; omega)]
  simp
end Pl

/-- Block b holds these flags. -/
def Flg (W : World) (b : Nat) (l : List Bool) : Prop := W.heap[b]? = some (.cells (l.map Value.bool).toArray 4 (0, 0))
theorem Flg.cell {W : World} {b : Nat} {l : List Bool} (h : Flg W b l) {i : Nat} {x : Bool} (hi : l[i]? = some x) : W.cell? ⟨b, i, none⟩ = some (.bool x) := by
  unfold Flg at h
  obtain ⟨hi1, hi2⟩ := List.getElem?_eq_some_iff.1 hi
  simp [World.cell?, h, hi1, hi2]
theorem Flg.frozen {W : World} {b : Nat} {l : List Bool} (h : Flg W b l) (i : Nat) : W.frozen? ⟨b, i, none⟩ = false := by
  unfold Flg at h; simp [World.frozen?, h]
theorem Flg.set {W : World} {b : Nat} {l : List Bool} (h : Flg W b l) (i : Nat) (x : Bool) : Flg (W.setCell ⟨b, i, none⟩ (.bool x)) b (l.set i x) := by
  have := Joins.block_setCell (w := W) (i := i) h (.bool x)
  unfold Flg
  rw [this]
  simp [List.map_set]
theorem Flg.made (W : World) (L : List Int) (N : Nat) : Flg (W.alloc (.cells (madeCells #[.bool false] N) 4)) W.heap.size (Pl.flags L N 0) := by
  unfold Flg
  rw [World.alloc_heap_new W _, Pl.flags_zero]
  have e : madeCells #[Value.bool false] N = Array.replicate N (Value.bool false) := by
    refine Array.ext (by simp [madeCells]) fun i h1 h2 => ?_
    simp [madeCells, Nat.mod_one]
  rw [e]
  simp
theorem info4 : (Tryd.prog.info? 4).map (fun i => (i.zero, i.size, i.bytes)) = some (some (.bool false), 1, 1) := by kernel_rfl

set_option maxHeartbeats 1000000 in
theorem permlaw_none (s : Nat) (n : Int) (w : World) (hn : n < 1 ∨ 1000 < n) (hL : Laid w) :
    Calls Tryd.prog 6 #[.int .u64 s, .int .i64 n] w fun e w' => e = .returned (.bool true) ∧ Below w.heap.size w w' := by
  go_enter Tryd.func6, Tryd.ntmps6
  have B := Below.refl w.heap.size w
  go_wp2_with fail
  refine (head_any _ hL).mono ?_
  rintro e w1 ⟨rfl, B1⟩
  replace B := B_trans B B1
  go_wp2_with fail
  refine (perm_none s n _ hn).mono ?_
  rintro e w2 ⟨rfl, B2⟩
  replace B := B_trans B B2
  go_wp2_with fail
  all_goals
    go_ret
    exact ⟨ret_bool (by simp), B⟩

set_option maxHeartbeats 2000000 in
theorem permlaw_some (s N : Nat) (w : World) (hs : s < 2 ^ 64) (hN1 : 1 ≤ N) (hN2 : N ≤ 1000) (hL : Laid w) :
    Calls Tryd.prog 6 #[.int .u64 s, .int .i64 (N : Nat)] w fun e w' => e = .returned (.bool true) ∧ Below w.heap.size w w' := by
  have hmk : ∀ W : World, (Instr.makeSlice 32 (.int .i64 ((N : Nat) : Int)) (.int .i64 ((N : Nat) : Int))).run Tryd.prog W = .ok (.slice (some ⟨W.heap.size, 0, none⟩) N N) (W.alloc (.cells (madeCells #[.bool false] N) 4)) :=
    fun W => run_make_row' 32 4 (.bool false) 1 Tryd.underlying32 info4 rfl .i64 .i64 N (by omega) (by omega) W
  have n1 : ¬ ((N : Int) < 1) := by omega
  have n2 : ¬ ((1000 : Int) < N) := by omega
  go_enter Tryd.func6, Tryd.ntmps6
  have B := Below.refl w.heap.size w
  go_wp2_with fail
  refine (head_any _ hL).mono ?_
  rintro e w1 ⟨rfl, B1⟩
  replace B := B_trans B B1
  go_wp2_with fail
  refine (perm_any s N _ hs (hL.below B) hN1 hN2).mono ?_
  rintro e w2 ⟨rfl, hl, B2⟩
  have hne := hl.lt
  replace B := B_trans B B2
  have hp := fun k hk => Pl.perm_step s N k hN1 hk
  have hlen := Pl.perm_len s N
  generalize Pl.perm s N = L at hl hp hlen
  have HL := Lib.hid hlen
  clear hlen
  go_wp2_with fail
  go_loopw [30] (fun i wr => ∃ k : Nat, k ≤ N ∧ i = .int .i64 (k : Nat) ∧ Lst wr w1.heap.size L ∧ Flg wr w2.heap.size (Pl.flags L N k) ∧ Below w.heap.size w wr)
    (fun i _ => N - (intOf i).toNat)
  case atStart => exact ⟨0, by omega, rfl, hl.below (B_alloc (Below.refl _ _) _), Flg.made w2 L N, B_alloc B _⟩
  case round =>
    clear hl
    have Bw := B
    clear B
    obtain ⟨k, hk, rfl, hl, hf, hB⟩ := hrel
    by_cases hkN : k < N
    · obtain ⟨j, hj, hx, hfj, hset⟩ := hp k hkN
      clear hp
      have hkI : (k : Int) < N := by omega
      have hjI : (j : Int) < N := by omega
      have hjn : ¬ ((N : Int) ≤ j) := by omega
      have wk : IntKind.i64.wrap ((k : Int) + 1) = ((k + 1 : Nat) : Int) := by rw [IntKind.wrap_i64]; omega
      have c1 := hl.cell (i := k) (by rw [HL.out]; exact hkN)
      rw [hx] at c1
      have c2 := hf.cell hfj
      have f2 := hf.frozen j
      have HS := Lib.hid hset
      clear hset hfj hx
      go_wp2_with fail
      go_roundw
      case rel => exact ⟨k + 1, by omega, by simp, hl.far _ _ (by omega), by rw [← HS.out]; exact hf.set j true, hB.setCell (show w.heap.size ≤ w2.heap.size from Bw.size) _⟩
      all_goals first | (simp [intOf]; done) | (simp [intOf]; omega)
    · obtain rfl : N = k := by omega
      go_wp2_with fail
      go_ret
      exact ⟨ret_bool (by simp), hB⟩

set_option maxHeartbeats 1000000 in
theorem steplaw_none (s : Nat) (n : Int) (w : World) (_ : n < 2 ∨ 1000 < n) (hL : Laid w) :
    Calls Tryd.prog 7 #[.int .u64 s, .int .i64 n] w fun e w' => e = .returned (.bool true) ∧ Below w.heap.size w w' := by
  go_enter Tryd.func7, Tryd.ntmps7
  have B := Below.refl w.heap.size w
  go_wp2_with fail
  refine (head_any _ hL).mono ?_
  rintro e w1 ⟨rfl, B1⟩
  replace B := B_trans B B1
  go_wp2_with fail
  all_goals
    go_ret
    exact ⟨ret_bool (by simp), B⟩

set_option maxHeartbeats 2000000 in
theorem steplaw_some (s N M : Nat) (w : World) (hNM : M + 1 = N) (hs : s < 2 ^ 64) (hM1 : 1 ≤ M) (hM2 : M ≤ 999) (hL : Laid w) :
    Calls Tryd.prog 7 #[.int .u64 s, .int .i64 (N : Nat)] w fun e w' => e = .returned (.bool true) ∧ Below w.heap.size w w' := by
  have n1 : ¬ ((N : Int) < 2) := by omega
  have n2 : ¬ ((1000 : Int) < N) := by omega
  have wn : IntKind.i64.wrap ((N : Int) - 1) = (M : Int) := by rw [IntKind.wrap_i64]; omega
  have hMN : (M : Int) < N := by omega
  have hlow : ∀ k, k < M → (Pl.perm s N).getD k 0 = if (Pl.perm (Pl.next s) M).getD k 0 = (Pl.last s N : Int) then (M : Int) else (Pl.perm (Pl.next s) M).getD k 0 := by
    rw [← hNM]; exact fun k hk => Pl.steps_low s M k hM1 hk
  have hlast : (Pl.perm s N).getD M 0 = (Pl.last s N : Int) := by rw [← hNM]; exact Pl.steps_last s M hM1
  have hla : Pl.below s N = (Pl.last s N : Int) := by rw [Pl.below, if_neg (by omega), Pl.last]; simp
  have hl1 := Pl.perm_len s N
  have hl2 := Pl.perm_len (Pl.next s) M
  have hp1 := fun w hL => perm_any s N w hs hL (by omega) (by omega)
  have hp2 := fun w hL => perm_any (Pl.next s) M w (Pl.next_lt s) hL hM1 (by omega)
  have hbl := fun w hL => below_any s N w hs hL
  have hnx := next_any s
  rw [hla] at hbl
  generalize Pl.perm s N = L1 at *
  generalize Pl.perm (Pl.next s) M = L2 at *
  generalize (Pl.last s N : Int) = la at *
  have HNM := Lib.hid hNM
  have H1 := Lib.hid hl1
  have H2 := Lib.hid hl2
  have Hlow := Lib.hid hlow
  have Hlast := Lib.hid hlast
  clear hNM hl1 hl2 hlow hlast hla
  go_enter Tryd.func7, Tryd.ntmps7
  have B := Below.refl w.heap.size w
  go_wp2_with fail
  refine (head_any _ hL).mono ?_
  rintro e w1 ⟨rfl, B1⟩
  replace B := B_trans B B1
  go_wp2_with fail
  refine (hp1 _ (hL.below B)).mono ?_
  rintro e w2 ⟨rfl, r1, B2⟩
  replace B := B_trans B B2
  go_wp2_with fail
  refine (hnx _ (hL.below B)).mono ?_
  rintro e w3 ⟨rfl, B3⟩
  replace r1 := r1.below B3
  replace B := B_trans B B3
  go_wp2_with fail
  refine (hp2 _ (hL.below B)).mono ?_
  rintro e w4 ⟨rfl, r2, B4⟩
  replace r1 := r1.below B4
  replace B := B_trans B B4
  go_wp2_with fail
  refine (hbl _ (hL.below B)).mono ?_
  rintro e w5 ⟨rfl, B5⟩
  replace r1 := r1.below B5
  replace r2 := r2.below B5
  replace B := B_trans B B5
  clear hp1 hp2 hbl hnx
  go_wp2_with fail
  go_loopw [43] (fun i wr => ∃ k : Nat, k ≤ M ∧ i = .int .i64 (k : Nat) ∧ wr = w5)
    (fun i _ => M - (intOf i).toNat)
  case atStart => exact ⟨0, by omega, rfl, rfl⟩
  case round =>
    obtain ⟨k, hk, rfl, rfl⟩ := hrel
    by_cases hkM : k < M
    · have hkI : (k : Int) < M := by omega
      have hkN : (k : Int) < N := by omega
      have wk : IntKind.i64.wrap ((k : Int) + 1) = ((k + 1 : Nat) : Int) := by rw [IntKind.wrap_i64]; omega
      have hz := Hlow.out k hkM
      have c1 := r1.cell (i := k) (by have := H1.out; have := HNM.out; omega)
      have c2 := r2.cell (i := k) (by rw [H2.out]; exact hkM)
      generalize L1.getD k 0 = z at hz c1
      generalize L2.getD k 0 = y at hz c2
      by_cases hy : y = la
      · rw [if_pos hy] at hz
        subst hz hy
        go_wp2_with fail
        go_roundw
        case rel => exact ⟨k + 1, by omega, by simp, by first | rfl | trivial⟩
        all_goals first | (simp [intOf]; done) | (simp [intOf]; omega)
      · rw [if_neg hy] at hz
        subst hz
        go_wp2_with fail
        go_roundw
        case rel => exact ⟨k + 1, by omega, by simp, by first | rfl | trivial⟩
        all_goals first | (simp [intOf]; done) | (simp [intOf]; omega)
    · obtain rfl : M = k := by omega
      have c1 := r1.cell (i := M) (by have := H1.out; have := HNM.out; omega)
      rw [Hlast.out] at c1
      go_wp2_with fail
      go_ret
      exact ⟨ret_bool (by simp), B⟩

theorem perm_law (a n : Int) (w : World) (ha : (Lit.int .u64 a).wf = true) (_ : (Lit.int .i64 n).wf = true) (hL : Laid w) :
    Calls Tryd.prog 6 #[.int .u64 a, .int .i64 n] w fun e w' => e = .returned (.bool true) ∧ Below w.heap.size w w' := by
  obtain ⟨a, rfl, h⟩ := u64_nat ha
  by_cases hn : n < 1 ∨ 1000 < n
  · exact permlaw_none a n w hn hL
  · obtain ⟨N, rfl⟩ : ∃ N : Nat, n = N := ⟨n.toNat, by omega⟩
    exact permlaw_some a N w h (by omega) (by omega) hL
theorem steps_law (a n : Int) (w : World) (ha : (Lit.int .u64 a).wf = true) (_ : (Lit.int .i64 n).wf = true) (hL : Laid w) :
    Calls Tryd.prog 7 #[.int .u64 a, .int .i64 n] w fun e w' => e = .returned (.bool true) ∧ Below w.heap.size w w' := by
  obtain ⟨a, rfl, h⟩ := u64_nat ha
  by_cases hn : n < 2 ∨ 1000 < n
  · exact steplaw_none a n w hn hL
  · obtain ⟨N, rfl⟩ : ∃ N : Nat, n = N := ⟨n.toNat, by omega⟩
    exact steplaw_some a N (N - 1) w (by omega) h (by omega) (by omega) hL
end Go.Proofs.YtodmklkjdogafaaDoor
