/-
  Package trickle: the small tests, and isValid: what they answer.
-/
import Derived.Test.YtomfbadniajnlaaDoorFirst
import Derived.Test.YtomfbadniajnlaaDoorTickPlain
namespace Go.Proofs.YtomfbadniajnlaaDoor
open Go.RowKit


theorem in_true (n lo hi : Int) (w : World) (h : lo ≤ n ∧ n ≤ hi) :
    Calls Tryd.prog 28 #[.int .i64 n, .int .i64 lo, .int .i64 hi] w fun e w' => e = .returned (.bool true) ∧ w = w' := by
  obtain ⟨h1, h2⟩ := h
  go_enter Tryd.func28, Tryd.ntmps28
  go_wp2_with fail
  go_ret
  exact ⟨ret_bool (by simp), rfl⟩
theorem in_false (n lo hi : Int) (w : World) (h : n < lo ∨ hi < n) :
    Calls Tryd.prog 28 #[.int .i64 n, .int .i64 lo, .int .i64 hi] w fun e w' => e = .returned (.bool false) ∧ w = w' := by
  by_cases h1 : lo ≤ n
  · have h2 : hi < n := by omega
    clear h
    go_enter Tryd.func28, Tryd.ntmps28
    go_wp2_with fail
    go_ret
    exact ⟨ret_bool (by simp; omega), rfl⟩
  · clear h
    go_enter Tryd.func28, Tryd.ntmps28
    go_wp2_with fail
    go_ret
    exact ⟨ret_bool (by simp; try omega), rfl⟩

theorem frame_true (n : Int) (w : World) (h : 0 ≤ n ∧ n ≤ 999999984) : Calls Tryd.prog 24 #[.int .i64 n] w fun e w' => e = .returned (.bool true) ∧ w = w' := by
  go_enter Tryd.func24, Tryd.ntmps24
  go_wp2_with (refine (in_true _ _ _ _ h).mono ?_; rintro e w1 ⟨rfl, rfl⟩)
  go_ret
  exact ⟨rfl, rfl⟩
theorem frame_false (n : Int) (w : World) (h : n < 0 ∨ 999999984 < n) : Calls Tryd.prog 24 #[.int .i64 n] w fun e w' => e = .returned (.bool false) ∧ w = w' := by
  go_enter Tryd.func24, Tryd.ntmps24
  go_wp2_with (refine (in_false _ _ _ _ h).mono ?_; rintro e w1 ⟨rfl, rfl⟩)
  go_ret
  exact ⟨rfl, rfl⟩
theorem seed_true (n : Int) (w : World) (h : 0 ≤ n ∧ n ≤ 1000000000) : Calls Tryd.prog 26 #[.int .i64 n] w fun e w' => e = .returned (.bool true) ∧ w = w' := by
  go_enter Tryd.func26, Tryd.ntmps26
  go_wp2_with (refine (in_true _ _ _ _ h).mono ?_; rintro e w1 ⟨rfl, rfl⟩)
  go_ret
  exact ⟨rfl, rfl⟩
theorem seed_false (n : Int) (w : World) (h : n < 0 ∨ 1000000000 < n) : Calls Tryd.prog 26 #[.int .i64 n] w fun e w' => e = .returned (.bool false) ∧ w = w' := by
  go_enter Tryd.func26, Tryd.ntmps26
  go_wp2_with (refine (in_false _ _ _ _ h).mono ?_; rintro e w1 ⟨rfl, rfl⟩)
  go_ret
  exact ⟨rfl, rfl⟩

set_option maxHeartbeats 16000000 in
theorem valid_any (I B F C S : Int) (w : World) :
    Calls Tryd.prog 23 #[.agg #[.int .i64 I, .int .i64 B, .int .i64 F, .int .i64 C, .int .i64 S]] w fun e w' => e = .returned (.bool (decide (Pl.Ok I B F C S))) ∧ Below w.heap.size w w' := by
  by_cases hI : 1 ≤ I ∧ I ≤ 8
  · have hb : (0 ≤ B ∧ B ≤ 999999984) ∨ (B < 0 ∨ 999999984 < B) := by omega
    have hs : (0 ≤ S ∧ S ≤ 1000000000) ∨ (S < 0 ∨ 1000000000 < S) := by omega
    have hf : (B + I / 2 ≤ F ∧ F ≤ B + I - 1) ∨ (F < B + I / 2 ∨ B + I - 1 < F) := by omega
    have hc : (0 ≤ C ∧ C ≤ 100) ∨ (C < 0 ∨ 100 < C) := by omega
    obtain rfl | rfl | rfl | rfl | rfl | rfl | rfl | rfl : I = 1 ∨ I = 2 ∨ I = 3 ∨ I = 4 ∨ I = 5 ∨ I = 6 ∨ I = 7 ∨ I = 8 := by omega
    all_goals
      clear hI
      rcases hb with hb | hb
      rotate_left
      · clear hs hf hc
        rw [show decide (Pl.Ok _ B F C S) = false from decide_eq_false (by unfold Pl.Ok; omega)]
        go_enter Tryd.func23, Tryd.ntmps23
        go_wp2_with (first | (go_at_call 28; refine (in_true _ _ _ _ (by omega)).mono ?_; rintro e w1 ⟨rfl, rfl⟩) | (go_at_call 24; refine (frame_false _ _ hb).mono ?_; rintro e w1 ⟨rfl, rfl⟩))
        go_ret
        exact ⟨rfl, B_alloc (Below.refl _ _) _⟩
      rcases hs with hs | hs
      rotate_left
      · clear hf hc
        rw [show decide (Pl.Ok _ B F C S) = false from decide_eq_false (by unfold Pl.Ok; omega)]
        go_enter Tryd.func23, Tryd.ntmps23
        go_wp2_with (first | (go_at_call 28; refine (in_true _ _ _ _ (by omega)).mono ?_; rintro e w1 ⟨rfl, rfl⟩) | (go_at_call 24; refine (frame_true _ _ hb).mono ?_; rintro e w1 ⟨rfl, rfl⟩) | (go_at_call 26; refine (seed_false _ _ hs).mono ?_; rintro e w1 ⟨rfl, rfl⟩))
        go_ret
        exact ⟨rfl, B_alloc (Below.refl _ _) _⟩
      rcases hf with hf | hf
      rotate_left
      · clear hc
        rw [show decide (Pl.Ok _ B F C S) = false from decide_eq_false (by unfold Pl.Ok; omega)]
        go_enter Tryd.func23, Tryd.ntmps23
        go_wp2_with (first | (go_at_call 28; first | (refine (in_true _ _ _ _ (by omega)).mono ?_; rintro e w1 ⟨rfl, rfl⟩) | (refine (in_false _ _ _ _ (by omega)).mono ?_; rintro e w1 ⟨rfl, rfl⟩)) | (go_at_call 24; refine (frame_true _ _ hb).mono ?_; rintro e w1 ⟨rfl, rfl⟩) | (go_at_call 26; refine (seed_true _ _ hs).mono ?_; rintro e w1 ⟨rfl, rfl⟩))
        go_ret
        exact ⟨rfl, B_alloc (Below.refl _ _) _⟩
      rcases hc with hc | hc
      rotate_left
      · rw [show decide (Pl.Ok _ B F C S) = false from decide_eq_false (by unfold Pl.Ok; omega)]
        go_enter Tryd.func23, Tryd.ntmps23
        go_wp2_with (first | (go_at_call 28; first | (refine (in_true _ _ _ _ (by omega)).mono ?_; rintro e w1 ⟨rfl, rfl⟩) | (refine (in_false _ _ _ _ (by omega)).mono ?_; rintro e w1 ⟨rfl, rfl⟩)) | (go_at_call 24; refine (frame_true _ _ hb).mono ?_; rintro e w1 ⟨rfl, rfl⟩) | (go_at_call 26; refine (seed_true _ _ hs).mono ?_; rintro e w1 ⟨rfl, rfl⟩))
        go_ret
        exact ⟨rfl, B_alloc (Below.refl _ _) _⟩
      first
        | rw [show decide (Pl.Ok _ B F C S) = true from decide_eq_true (by unfold Pl.Ok; omega)]
        | rw [show decide (Pl.Ok _ B F C S) = false from decide_eq_false (by unfold Pl.Ok; omega)]
      go_enter Tryd.func23, Tryd.ntmps23
      go_wp2_with (first | (go_at_call 28; refine (in_true _ _ _ _ (by omega)).mono ?_; rintro e w1 ⟨rfl, rfl⟩) | (go_at_call 24; refine (frame_true _ _ hb).mono ?_; rintro e w1 ⟨rfl, rfl⟩) | (go_at_call 26; refine (seed_true _ _ hs).mono ?_; rintro e w1 ⟨rfl, rfl⟩))
      go_ret
      exact ⟨rfl, B_alloc (Below.refl _ _) _⟩
  · rw [decide_eq_false (show ¬ Pl.Ok I B F C S by unfold Pl.Ok; omega)]
    go_enter Tryd.func23, Tryd.ntmps23
    go_wp2_with (refine (in_false _ _ _ _ (by omega)).mono ?_; rintro e w1 ⟨rfl, rfl⟩)
    go_ret
    exact ⟨rfl, B_alloc (Below.refl _ _) _⟩
end Go.Proofs.YtomfbadniajnlaaDoor
