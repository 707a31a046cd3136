/-
  The walks of the laws RandomMatchesReference, RandomDistinct, RandomRange and RandomMask: each returns true. Condition: the table of steps reads as its initialiser lays it.
-/
import Derived.Test.YtodmklkjdogafaaDoorHead
namespace Go.Proofs.YtodmklkjdogafaaDoor
open Go.RowKit

set_option maxHeartbeats 1000000 in
theorem distinct_any (a b : Nat) (w : World) (ha : a < 2 ^ 64) (hb : b < 2 ^ 64) (hL : Laid w) :
    Calls Tryd.prog 4 #[.int .u64 a, .int .u64 b] w fun e w' => e = .returned (.bool true) ∧ Below w.heap.size w w' := by
  have hi := Pl.next_inj ha hb
  have ha1 := next_any a
  have hb1 := next_any b
  go_enter Tryd.func4, Tryd.ntmps4
  go_wp2_with fail
  refine (head_any w hL).mono ?_
  rintro e w1 ⟨rfl, B1⟩
  have hL1 := hL.below B1
  go_wp2_with fail
  refine (ha1 _ hL1).mono ?_
  rintro e w2 ⟨rfl, B2⟩
  have hL2 := hL1.below B2
  replace B2 := B_trans B1 B2
  go_wp2_with fail
  refine (hb1 _ hL2).mono ?_
  rintro e w3 ⟨rfl, B3⟩
  replace B3 := B_trans B2 B3
  go_wp2_with fail
  go_ret
  refine ⟨ret_bool ?_, B3⟩
  by_cases h : a = b
  · subst h; simp
  · have h2 : ¬ Pl.next a = Pl.next b := fun e => h (hi e)
    rw [beq_false_of_ne (show (a : Int) ≠ b by omega), beq_false_of_ne (show ((Pl.next a : Nat) : Int) ≠ (Pl.next b : Nat) by omega)]; rfl

set_option maxHeartbeats 1000000 in
theorem match_none (s : Nat) (n : Int) (w : World) (hs : s < 2 ^ 64) (hn : n < 1 ∨ 1000 < n) (hL : Laid w) :
    Calls Tryd.prog 3 #[.int .u64 s, .int .i64 n] w fun e w' => e = .returned (.bool true) ∧ Below w.heap.size w w' := by
  go_enter Tryd.func3, Tryd.ntmps3
  have B := Below.refl w.heap.size w
  go_wp2_with fail
  refine (head_any _ hL).mono ?_
  rintro e w1 ⟨rfl, B1⟩
  replace B := B_trans B B1
  go_wp2_with fail
  refine (next_any s _ (hL.below B)).mono ?_
  rintro e w2 ⟨rfl, B2⟩
  replace B := B_trans B B2
  go_wp2_with fail
  refine (rnext_any s _).mono ?_
  rintro e w3 ⟨rfl, rfl⟩
  go_wp2_with fail
  refine (below_any s n _ hs (hL.below B)).mono ?_
  rintro e w4 ⟨rfl, B4⟩
  replace B := B_trans B B4
  go_wp2_with fail
  refine (rbelow_any s n _).mono ?_
  rintro e w5 ⟨rfl, rfl⟩
  go_wp2_with fail
  refine (perm_none s n _ hn).mono ?_
  rintro e w6 ⟨rfl, B6⟩
  replace B := B_trans B B6
  go_wp2_with fail
  refine (rperm_none s n _ hn).mono ?_
  rintro e w7 ⟨rfl, B7⟩
  replace B := B_trans B B7
  go_wp2_with fail
  refine (same_none _).mono ?_
  rintro e w8 ⟨rfl, B8⟩
  replace B := B_trans B B8
  go_wp2_with fail
  refine (mask_any s n _ hs (hL.below B)).mono ?_
  rintro e w9 ⟨rfl, B9⟩
  replace B := B_trans B B9
  go_wp2_with fail
  refine (rmask_any s n _).mono ?_
  rintro e w10 ⟨rfl, B10⟩
  replace B := B_trans B B10
  go_wp2_with fail
  go_ret
  exact ⟨ret_bool (by simp), B⟩

set_option maxHeartbeats 1000000 in
theorem match_some (s N : Nat) (w : World) (hs : s < 2 ^ 64) (hN1 : 1 ≤ N) (hN2 : N ≤ 1000) (hL : Laid w) :
    Calls Tryd.prog 3 #[.int .u64 s, .int .i64 (N : Nat)] w fun e w' => e = .returned (.bool true) ∧ Below w.heap.size w w' := by
  go_enter Tryd.func3, Tryd.ntmps3
  have B := Below.refl w.heap.size w
  go_wp2_with fail
  refine (head_any _ hL).mono ?_
  rintro e w1 ⟨rfl, B1⟩
  replace B := B_trans B B1
  go_wp2_with fail
  refine (next_any s _ (hL.below B)).mono ?_
  rintro e w2 ⟨rfl, B2⟩
  replace B := B_trans B B2
  go_wp2_with fail
  refine (rnext_any s _).mono ?_
  rintro e w3 ⟨rfl, rfl⟩
  go_wp2_with fail
  refine (below_any s N _ hs (hL.below B)).mono ?_
  rintro e w4 ⟨rfl, B4⟩
  replace B := B_trans B B4
  go_wp2_with fail
  refine (rbelow_any s N _).mono ?_
  rintro e w5 ⟨rfl, rfl⟩
  go_wp2_with fail
  refine (perm_any s N _ hs (hL.below B) hN1 hN2).mono ?_
  rintro e w6 ⟨rfl, hl6, B6⟩
  replace B := B_trans B B6
  go_wp2_with fail
  refine (rperm_any s N _ hs hN1 hN2).mono ?_
  rintro e w7 ⟨g, cp, rfl, ho, B7⟩
  have hl7 := hl6.below B7
  replace B := B_trans B B7
  go_wp2_with fail
  refine (same_any _ _ _ _ N (Pl.perm s N) _ hN2 (fun i hi => hl7.cell (by rw [Pl.perm_len]; exact hi)) (fun i hi => own_cell ho (Pl.perm_len _ _) hi)).mono ?_
  rintro e w8 ⟨rfl, B8⟩
  replace B := B_trans B B8
  clear hl6 hl7 ho
  go_wp2_with fail
  refine (mask_any s N _ hs (hL.below B)).mono ?_
  rintro e w9 ⟨rfl, B9⟩
  replace B := B_trans B B9
  go_wp2_with fail
  refine (rmask_any s N _).mono ?_
  rintro e w10 ⟨rfl, B10⟩
  replace B := B_trans B B10
  go_wp2_with fail
  go_ret
  exact ⟨ret_bool (by simp), B⟩

set_option maxHeartbeats 1000000 in
theorem range_none (s : Nat) (n t : Int) (w : World) (hs : s < 2 ^ 64) (hn : n < 1 ∨ 1000000000 < n) (hL : Laid w) :
    Calls Tryd.prog 5 #[.int .u64 s, .int .i64 n, .int .u8 t] w fun e w' => e = .returned (.bool true) ∧ Below w.heap.size w w' := by
  have hz : Pl.below s n = 0 := by rw [Pl.below, if_pos hn]
  go_enter Tryd.func5, Tryd.ntmps5
  have B := Below.refl w.heap.size w
  go_wp2_with fail
  refine (head_any _ hL).mono ?_
  rintro e w1 ⟨rfl, B1⟩
  replace B := B_trans B B1
  go_wp2_with fail
  refine (below_any s n _ hs (hL.below B)).mono ?_
  rintro e w2 ⟨rfl, B2⟩
  replace B := B_trans B B2
  go_wp2_with fail
  all_goals
    go_ret
    exact ⟨ret_bool (by simp), B⟩

set_option maxHeartbeats 1000000 in
theorem range_some (s : Nat) (n t : Int) (w : World) (hs : s < 2 ^ 64) (h1 : 1 ≤ n) (h2 : n ≤ 1000000000) (t1 : 0 ≤ t) (t2 : t ≤ 255) (hL : Laid w) :
    Calls Tryd.prog 5 #[.int .u64 s, .int .i64 n, .int .u8 t] w fun e w' => e = .returned (.bool true) ∧ Below w.heap.size w w' := by
  have hX := Pl.half_lt (Pl.next_lt s)
  have hb := below_any s
  have hz : Pl.below s n = (Pl.half (Pl.next s) : Int) % n := by rw [Pl.below, if_neg (by omega)]
  obtain ⟨x, hx⟩ : ∃ x, x = Pl.below s n := ⟨_, rfl⟩
  have hb1 := hb n
  rw [← hx] at hb1
  have x1 : ¬ x < 0 := by rw [hx, hz]; have := Int.emod_nonneg (Pl.half (Pl.next s) : Int) (show n ≠ 0 by omega); omega
  have x2 : x < n := by rw [hx, hz]; exact Int.emod_lt_of_pos _ (by omega)
  have n1 : ¬ n < 1 := by omega
  have n2 : ¬ 1000000000 < n := by omega
  have wk : IntKind.i64.wrap (1 + t) = 1 + t := by rw [IntKind.wrap_i64]; omega
  have hy : ¬ 1000000000 / (1 + t) < n → ∃ y, Pl.below s (wrap64 (n * (1 + t))) = y ∧ 0 ≤ y ∧ y % n = x := by
    intro hd
    have m1 : n * (1 + t) ≤ 1000000000 := (Int.le_ediv_iff_mul_le (by omega)).1 (by omega)
    have m2 : 0 < n * (1 + t) := Int.mul_pos (by omega) (by omega)
    have m3 : n ∣ n * (1 + t) := Int.dvd_mul_right _ _
    generalize n * (1 + t) = M at m1 m2 m3 ⊢
    have e : wrap64 M = M := by unfold wrap64; omega
    refine ⟨_, rfl, ?_⟩
    rw [e, Pl.below, if_neg (by omega)]
    exact ⟨Int.emod_nonneg _ (by omega), by rw [Int.emod_emod_of_dvd _ m3, hx, hz]⟩
  clear hx hz
  go_enter Tryd.func5, Tryd.ntmps5
  have B := Below.refl w.heap.size w
  by_cases hd : 1000000000 / (1 + t) < n
  · clear hy
    go_wp2_with fail
    refine (head_any _ hL).mono ?_
    rintro e w1 ⟨rfl, B1⟩
    replace B := B_trans B B1
    go_wp2_with fail
    refine (hb1 _ hs (hL.below B)).mono ?_
    rintro e w2 ⟨rfl, B2⟩
    replace B := B_trans B B2
    go_wp2_with fail
    all_goals
      go_ret
      exact ⟨ret_bool (by simp), B⟩
  · obtain ⟨y, hy1, hy2, hy3⟩ := hy hd
    have hb2 := hb (wrap64 (n * (1 + t)))
    rw [hy1] at hb2
    clear hy hy1 hb
    go_wp2_with fail
    refine (head_any _ hL).mono ?_
    rintro e w1 ⟨rfl, B1⟩
    replace B := B_trans B B1
    go_wp2_with fail
    refine (hb1 _ hs (hL.below B)).mono ?_
    rintro e w2 ⟨rfl, B2⟩
    replace B := B_trans B B2
    go_wp2_with fail
    refine (hb2 _ hs (hL.below B)).mono ?_
    rintro e w3 ⟨rfl, B3⟩
    replace B := B_trans B B3
    go_wp2_with fail
    all_goals
      go_ret
      exact ⟨ret_bool (by simp), B⟩

set_option maxHeartbeats 1000000 in
theorem masklaw_none (s : Nat) (n : Int) (w : World) (hs : s < 2 ^ 64) (hn : n < 1 ∨ 16 < n) (hL : Laid w) :
    Calls Tryd.prog 8 #[.int .u64 s, .int .i64 n] w fun e w' => e = .returned (.bool true) ∧ Below w.heap.size w w' := by
  have hz : Pl.mask s n = 0 := by rw [Pl.mask, if_pos hn]
  go_enter Tryd.func8, Tryd.ntmps8
  have B := Below.refl w.heap.size w
  go_wp2_with fail
  refine (head_any _ hL).mono ?_
  rintro e w1 ⟨rfl, B1⟩
  replace B := B_trans B B1
  go_wp2_with fail
  refine (mask_any s n _ hs (hL.below B)).mono ?_
  rintro e w2 ⟨rfl, B2⟩
  replace B := B_trans B B2
  go_wp2_with fail
  all_goals
    go_ret
    exact ⟨ret_bool (by simp), B⟩

set_option maxHeartbeats 16000000 in
theorem masklaw_some (s : Nat) (n : Int) (w : World) (hs : s < 2 ^ 64) (h1 : 1 ≤ n) (h2 : n ≤ 16) (hL : Laid w) :
    Calls Tryd.prog 8 #[.int .u64 s, .int .i64 n] w fun e w' => e = .returned (.bool true) ∧ Below w.heap.size w w' := by
  have hf : ∃ M x : Int, Pl.below s (M - 1) = x ∧ Pl.mask s n = 1 + x ∧ 0 ≤ x ∧ 1 + x < M ∧ M ≤ 65536 ∧ 2 ≤ M ∧ (n = 1 ∧ M = 2 ∨ n = 2 ∧ M = 4 ∨ n = 3 ∧ M = 8 ∨ n = 4 ∧ M = 16 ∨ n = 5 ∧ M = 32 ∨ n = 6 ∧ M = 64 ∨ n = 7 ∧ M = 128 ∨ n = 8 ∧ M = 256 ∨ n = 9 ∧ M = 512 ∨ n = 10 ∧ M = 1024 ∨ n = 11 ∧ M = 2048 ∨ n = 12 ∧ M = 4096 ∨ n = 13 ∧ M = 8192 ∨ n = 14 ∧ M = 16384 ∨ n = 15 ∧ M = 32768 ∨ n = 16 ∧ M = 65536) := by
    obtain ⟨M, m1, m2, hM⟩ := pow_cases h1 h2
    have e : (2 : Int) ^ n.toNat - 1 = M - 1 := by rcases hM with ⟨rfl, rfl⟩ | ⟨rfl, rfl⟩ | ⟨rfl, rfl⟩ | ⟨rfl, rfl⟩ | ⟨rfl, rfl⟩ | ⟨rfl, rfl⟩ | ⟨rfl, rfl⟩ | ⟨rfl, rfl⟩ | ⟨rfl, rfl⟩ | ⟨rfl, rfl⟩ | ⟨rfl, rfl⟩ | ⟨rfl, rfl⟩ | ⟨rfl, rfl⟩ | ⟨rfl, rfl⟩ | ⟨rfl, rfl⟩ | ⟨rfl, rfl⟩ <;> rfl
    refine ⟨M, (Pl.half (Pl.next s) : Int) % (M - 1), by rw [Pl.below, if_neg (by omega)], by rw [Pl.mask, if_neg (by omega), e], Int.emod_nonneg _ (by omega), ?_, m1, m2, hM⟩
    have := Int.emod_lt_of_pos (Pl.half (Pl.next s) : Int) (show 0 < M - 1 by omega)
    omega
  obtain ⟨M, x, hb, hm, x0, x1, m1, m2, hM⟩ := hf
  have hB := below_any s (M - 1)
  have hK := mask_any s n
  rw [hb] at hB
  rw [hm] at hK
  clear hb hm
  have wx : IntKind.i64.wrap (1 + x) = 1 + x := by rw [IntKind.wrap_i64]; omega
  have x2 : 1 ≤ 1 + x := by omega
  have B := Below.refl w.heap.size w
  rcases hM with ⟨rfl, rfl⟩ | ⟨rfl, rfl⟩ | ⟨rfl, rfl⟩ | ⟨rfl, rfl⟩ | ⟨rfl, rfl⟩ | ⟨rfl, rfl⟩ | ⟨rfl, rfl⟩ | ⟨rfl, rfl⟩ | ⟨rfl, rfl⟩ | ⟨rfl, rfl⟩ | ⟨rfl, rfl⟩ | ⟨rfl, rfl⟩ | ⟨rfl, rfl⟩ | ⟨rfl, rfl⟩ | ⟨rfl, rfl⟩ | ⟨rfl, rfl⟩
  all_goals
    go_enter Tryd.func8, Tryd.ntmps8
    go_wp2_with fail
    refine (head_any _ hL).mono ?_
    rintro e w1 ⟨rfl, B1⟩
    replace B := B_trans B B1
    go_wp2_with fail
    refine (hK _ hs (hL.below B)).mono ?_
    rintro e w2 ⟨rfl, B2⟩
    replace B := B_trans B B2
    go_wp2_with fail
    refine (hB _ hs (hL.below B)).mono ?_
    rintro e w3 ⟨rfl, B3⟩
    replace B := B_trans B B3
    go_wp2_with fail
    go_ret
    exact ⟨ret_bool (by simp), B⟩
end Go.Proofs.YtodmklkjdogafaaDoor
