/-
  The reference's Frame and Valid: they answer what isFrame and isValid answer.
-/
import Derived.Test.YtomfbadniajnlaaDoorValid
namespace Go.Proofs.YtomfbadniajnlaaDoor
open Go.RowKit

theorem rframe_true (n : Int) (w : World) (h : 0 ≤ n ∧ n ≤ 999999984) : Calls Tryd.prog 16 #[.int .i64 n] w fun e w' => e = .returned (.bool true) ∧ w = w' := by
  obtain ⟨h1, h2⟩ := h
  go_enter Tryd.func16, Tryd.ntmps16
  go_wp2_with fail
  go_ret
  exact ⟨ret_bool (by simp; try omega), rfl⟩
theorem rframe_false (n : Int) (w : World) (h : n < 0 ∨ 999999984 < n) : Calls Tryd.prog 16 #[.int .i64 n] w fun e w' => e = .returned (.bool false) ∧ w = w' := by
  by_cases h1 : 0 ≤ n
  · have h2 : 999999984 < n := by omega
    clear h
    go_enter Tryd.func16, Tryd.ntmps16
    go_wp2_with fail
    go_ret
    exact ⟨ret_bool (by simp; omega), rfl⟩
  · clear h
    go_enter Tryd.func16, Tryd.ntmps16
    go_wp2_with fail
    go_ret
    exact ⟨ret_bool (by simp; try omega), rfl⟩

set_option maxHeartbeats 16000000 in
theorem rvalid_any (I B F C S : Int) (w : World) :
    Calls Tryd.prog 13 #[.agg #[.int .i64 I, .int .i64 B, .int .i64 F, .int .i64 C, .int .i64 S]] w fun e w' => e = .returned (.bool (decide (Pl.Ok I B F C S))) ∧ Below w.heap.size w w' := by
  have hb : (0 ≤ B ∧ B ≤ 999999984) ∨ (B < 0 ∨ 999999984 < B) := by omega
  by_cases hI : I = 1 ∨ I = 2 ∨ I = 4 ∨ I = 8
  · have hs : (0 ≤ S ∧ S ≤ 1000000000) ∨ (S < 0 ∨ 1000000000 < S) := by omega
    have hf : (B + I / 2 ≤ F ∧ F ≤ B + I - 1) ∨ (F < B + I / 2 ∨ B + I - 1 < F) := by omega
    have hc : (0 ≤ C ∧ C ≤ 100) ∨ (C < 0 ∨ 100 < C) := by omega
    rcases hI with rfl | rfl | rfl | rfl
    all_goals
      rcases hb with hb | hb
      rotate_left
      · clear hs hf hc
        rw [show decide (Pl.Ok _ B F C S) = false from decide_eq_false (by unfold Pl.Ok; omega)]
        go_enter Tryd.func13, Tryd.ntmps13
        go_wp2_with (go_at_call 16; refine (rframe_false _ _ hb).mono ?_; rintro e w1 ⟨rfl, rfl⟩)
        go_ret
        exact ⟨rfl, B_alloc (Below.refl _ _) _⟩
      rcases hs with ⟨hs1, hs2⟩ | hs | hs
      rotate_left
      · clear hc hf
        rw [show decide (Pl.Ok _ B F C S) = false from decide_eq_false (by unfold Pl.Ok; omega)]
        go_enter Tryd.func13, Tryd.ntmps13
        go_wp2_with (go_at_call 16; refine (rframe_true _ _ hb).mono ?_; rintro e w1 ⟨rfl, rfl⟩)
        go_ret
        exact ⟨ret_bool (by simp; try omega), B_alloc (Below.refl _ _) _⟩
      · clear hc hf
        rw [show decide (Pl.Ok _ B F C S) = false from decide_eq_false (by unfold Pl.Ok; omega)]
        go_enter Tryd.func13, Tryd.ntmps13
        go_wp2_with (go_at_call 16; refine (rframe_true _ _ hb).mono ?_; rintro e w1 ⟨rfl, rfl⟩)
        go_ret
        exact ⟨ret_bool (by simp; try omega), B_alloc (Below.refl _ _) _⟩
      rcases hc with ⟨hc1, hc2⟩ | hc | hc
      rotate_left
      · clear hf
        rw [show decide (Pl.Ok _ B F C S) = false from decide_eq_false (by unfold Pl.Ok; omega)]
        go_enter Tryd.func13, Tryd.ntmps13
        go_wp2_with (go_at_call 16; refine (rframe_true _ _ hb).mono ?_; rintro e w1 ⟨rfl, rfl⟩)
        go_ret
        exact ⟨ret_bool (by simp; try omega), B_alloc (Below.refl _ _) _⟩
      · clear hf
        rw [show decide (Pl.Ok _ B F C S) = false from decide_eq_false (by unfold Pl.Ok; omega)]
        go_enter Tryd.func13, Tryd.ntmps13
        go_wp2_with (go_at_call 16; refine (rframe_true _ _ hb).mono ?_; rintro e w1 ⟨rfl, rfl⟩)
        go_ret
        exact ⟨ret_bool (by simp; try omega), B_alloc (Below.refl _ _) _⟩
      rcases hf with ⟨hf1, hf2⟩ | hf | hf
      rotate_left
      · skip
        rw [show decide (Pl.Ok _ B F C S) = false from decide_eq_false (by unfold Pl.Ok; omega)]
        go_enter Tryd.func13, Tryd.ntmps13
        go_wp2_with (go_at_call 16; refine (rframe_true _ _ hb).mono ?_; rintro e w1 ⟨rfl, rfl⟩)
        go_ret
        exact ⟨ret_bool (by simp; try omega), B_alloc (Below.refl _ _) _⟩
      · skip
        rw [show decide (Pl.Ok _ B F C S) = false from decide_eq_false (by unfold Pl.Ok; omega)]
        go_enter Tryd.func13, Tryd.ntmps13
        go_wp2_with (go_at_call 16; refine (rframe_true _ _ hb).mono ?_; rintro e w1 ⟨rfl, rfl⟩)
        go_ret
        exact ⟨ret_bool (by simp; try omega), B_alloc (Below.refl _ _) _⟩
      rw [show decide (Pl.Ok _ B F C S) = true from decide_eq_true (by unfold Pl.Ok; omega)]
      go_enter Tryd.func13, Tryd.ntmps13
      go_wp2_with (go_at_call 16; refine (rframe_true _ _ hb).mono ?_; rintro e w1 ⟨rfl, rfl⟩)
      go_ret
      exact ⟨ret_bool (by simp; try omega), B_alloc (Below.refl _ _) _⟩
  · rw [decide_eq_false (show ¬ Pl.Ok I B F C S by unfold Pl.Ok; omega)]
    have i1 : ¬ I = 1 := by omega
    have i2 : ¬ I = 2 := by omega
    have i3 : ¬ I = 4 := by omega
    have i4 : ¬ I = 8 := by omega
    clear hI
    rcases hb with hb | hb
    · go_enter Tryd.func13, Tryd.ntmps13
      go_wp2_with (go_at_call 16; refine (rframe_true _ _ hb).mono ?_; rintro e w1 ⟨rfl, rfl⟩)
      go_ret
      exact ⟨rfl, B_alloc (Below.refl _ _) _⟩
    · go_enter Tryd.func13, Tryd.ntmps13
      go_wp2_with (go_at_call 16; refine (rframe_false _ _ hb).mono ?_; rintro e w1 ⟨rfl, rfl⟩)
      go_ret
      exact ⟨rfl, B_alloc (Below.refl _ _) _⟩
end Go.Proofs.YtomfbadniajnlaaDoor
