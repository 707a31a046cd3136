/-
  Tick and its reference in one statement each, the fixed examples of the laws (head), and usable. Condition: the table of steps reads as its initialiser lays it.
-/
import Derived.Test.YtomfbadniajnlaaDoorTick3
import Derived.Laws.StructEq
namespace Go.Proofs.YtomfbadniajnlaaDoor
open Go.RowKit

theorem tickB_stale {I B F C S f : Int} (h : ¬ (Pl.Ok I B F C S ∧ Pl.frameOk f ∧ B ≤ f)) : Pl.tickT ⟨I, B, F, C, S⟩ f = ⟨I, B, F, C, S⟩ ∧ Pl.tickB ⟨I, B, F, C, S⟩ f = false := by
  have h1 : ∀ hh : Pl.Ok I B F C S, 1 ≤ I := fun hh => by unfold Pl.Ok at hh; omega
  exact ⟨tick_same fun hh => h ⟨hh.1, hh.2.1, by have := h1 hh.1; have h2 := hh.2.2; simp only at h2; omega⟩, decide_eq_false fun hh => h ⟨hh.1, hh.2.1, hh.2.2.1⟩⟩
theorem tickB_in {I B F C S f : Int} (h : Pl.Ok I B F C S) (hf : Pl.frameOk f) (h1 : B ≤ f) (h2 : f < B + I) : Pl.tickT ⟨I, B, F, C, S⟩ f = ⟨I, B, F, C, S⟩ ∧ Pl.tickB ⟨I, B, F, C, S⟩ f = decide (f = F ∧ C < 2) := by
  have e : Pl.tickT ⟨I, B, F, C, S⟩ f = ⟨I, B, F, C, S⟩ := tick_same fun hh => by have h3 := hh.2.2; simp only at h3; omega
  refine ⟨e, ?_⟩
  rw [Pl.tickB, e, Bool.eq_iff_iff]; simp only [decide_eq_true_eq]
  exact ⟨fun hh => hh.2.2.2, fun hh => ⟨h, hf, h1, hh⟩⟩
theorem tickB_over {I B F C S f : Int} (h : Pl.Ok I B F C S) (hf : Pl.frameOk f) (h1 : B + I ≤ f) :
    Pl.tickT ⟨I, B, F, C, S⟩ f = ⟨min 8 (2 * I), f, Pl.fire S (min 8 (2 * I)) f, 0, S⟩ ∧ Pl.tickB ⟨I, B, F, C, S⟩ f = false := by
  have e : Pl.tickT ⟨I, B, F, C, S⟩ f = Pl.start S (min 8 (2 * I)) f := tick_new ⟨h, hf, h1⟩
  have hI : I = 1 ∨ I = 2 ∨ I = 4 ∨ I = 8 := h.1
  refine ⟨e, decide_eq_false ?_⟩
  rw [e]
  rintro ⟨_, _, _, h4, _⟩
  have hb := Pl.fire_bd S (min 8 (2 * I)) f (by omega)
  simp only [Pl.start] at h4
  omega

theorem tick_any (t : Pl.T) (f : Int) (w : World) (hL : Laid w) :
    Calls Tryd.prog 14 #[.agg #[.int .i64 t.I, .int .i64 t.B, .int .i64 t.F, .int .i64 t.C, .int .i64 t.S], .int .i64 f] w fun e w' => e = .returned (.tuple #[tv (Pl.tickT t f), .bool (Pl.tickB t f)]) ∧ Below w.heap.size w w' := by
  obtain ⟨I, B, F, C, S⟩ := t
  by_cases h : Pl.Ok I B F C S ∧ Pl.frameOk f ∧ B ≤ f
  · obtain ⟨h, hf, h1⟩ := h
    by_cases h2 : f < B + I
    · obtain ⟨e1, e2⟩ := tickB_in h hf h1 h2
      rw [e1, e2]
      exact tick_in I B F C S f w h hf h1 h2
    · obtain ⟨e1, e2⟩ := tickB_over h hf (show B + I ≤ f by omega)
      rw [e1, e2]
      exact tick_over I B F C S f w h hf (by omega) hL
  · obtain ⟨e1, e2⟩ := tickB_stale h
    rw [e1, e2]
    exact tick_stale I B F C S f w h

theorem rtick_any (t : Pl.T) (f : Int) (w : World) :
    Calls Tryd.prog 19 #[.agg #[.int .i64 t.I, .int .i64 t.B, .int .i64 t.F, .int .i64 t.C, .int .i64 t.S], .int .i64 f] w fun e w' => e = .returned (.tuple #[tv (Pl.tickT t f), .bool (Pl.tickB t f)]) ∧ Below w.heap.size w w' := by
  obtain ⟨I, B, F, C, S⟩ := t
  by_cases h : Pl.Ok I B F C S ∧ Pl.frameOk f ∧ B ≤ f
  · obtain ⟨h, hf, h1⟩ := h
    by_cases h2 : f < B + I
    · obtain ⟨e1, e2⟩ := tickB_in h hf h1 h2
      rw [e1, e2]
      exact rtick_in I B F C S f w h hf h1 h2
    · obtain ⟨e1, e2⟩ := tickB_over h hf (show B + I ≤ f by omega)
      rw [e1, e2]
      exact rtick_over I B F C S f w h hf (by omega)
  · obtain ⟨e1, e2⟩ := tickB_stale h
    rw [e1, e2]
    exact rtick_stale I B F C S f w h

theorem new_510 (w : World) (hL : Laid w) : Calls Tryd.prog 17 #[.int .i64 5, .int .i64 10] w fun e w' => e = .returned (.tuple #[.agg #[.int .i64 1, .int .i64 10, .int .i64 10, .int .i64 0, .int .i64 5], .int .i64 0]) ∧ Below w.heap.size w w' := by
  have h := new_ok 5 10 w (by omega) (by omega) hL
  rwa [tv, show Pl.start 5 1 10 = ⟨1, 10, 10, 0, 5⟩ by have := Pl.fire_bd 5 1 10 (by omega); simp only [Pl.start, Pl.T.mk.injEq, true_and, and_true]; omega] at h
theorem tick_a (w : World) : Calls Tryd.prog 14 #[.agg #[.int .i64 1, .int .i64 10, .int .i64 10, .int .i64 0, .int .i64 5], .int .i64 10] w fun e w' => e = .returned (.tuple #[.agg #[.int .i64 1, .int .i64 10, .int .i64 10, .int .i64 0, .int .i64 5], .bool true]) ∧ Below w.heap.size w w' := by
  have h := tick_in 1 10 10 0 5 10 w (by unfold Pl.Ok; omega) (by omega) (by omega) (by omega)
  simpa using h
theorem tick_c (w : World) : Calls Tryd.prog 14 #[.agg #[.int .i64 2, .int .i64 11, .int .i64 12, .int .i64 0, .int .i64 5], .int .i64 12] w fun e w' => e = .returned (.tuple #[.agg #[.int .i64 2, .int .i64 11, .int .i64 12, .int .i64 0, .int .i64 5], .bool true]) ∧ Below w.heap.size w w' := by
  have h := tick_in 2 11 12 0 5 12 w (by unfold Pl.Ok; omega) (by omega) (by omega) (by omega)
  simpa using h
theorem tick_d (w : World) : Calls Tryd.prog 14 #[.agg #[.int .i64 2, .int .i64 11, .int .i64 12, .int .i64 2, .int .i64 5], .int .i64 12] w fun e w' => e = .returned (.tuple #[.agg #[.int .i64 2, .int .i64 11, .int .i64 12, .int .i64 2, .int .i64 5], .bool false]) ∧ Below w.heap.size w w' := by
  have h := tick_in 2 11 12 2 5 12 w (by unfold Pl.Ok; omega) (by omega) (by omega) (by omega)
  simpa using h
theorem tick_b (w : World) (hL : Laid w) : Calls Tryd.prog 14 #[.agg #[.int .i64 1, .int .i64 10, .int .i64 10, .int .i64 0, .int .i64 5], .int .i64 11] w fun e w' => e = .returned (.tuple #[.agg #[.int .i64 2, .int .i64 11, .int .i64 12, .int .i64 0, .int .i64 5], .bool false]) ∧ Below w.heap.size w w' := by
  have h := tick_over 1 10 10 0 5 11 w (by unfold Pl.Ok; omega) (by omega) (by omega) hL
  have e : min 8 (2 * 1) = (2 : Int) := by decide
  rwa [e, show Pl.fire 5 2 11 = 12 by have := Pl.fire_bd 5 2 11 (by omega); omega] at h
theorem tick_e (w : World) (hL : Laid w) : Calls Tryd.prog 14 #[.agg #[.int .i64 8, .int .i64 20, .int .i64 25, .int .i64 0, .int .i64 0], .int .i64 28] w fun e w' => e = .returned (.tuple #[.agg #[.int .i64 8, .int .i64 28, .int .i64 (Pl.fire 0 8 28), .int .i64 0, .int .i64 0], .bool false]) ∧ Below w.heap.size w w' := by
  have h := tick_over 8 20 25 0 0 28 w (by unfold Pl.Ok; omega) (by omega) (by omega) hL
  have e : min 8 (2 * 8) = (8 : Int) := by decide
  rwa [e] at h
theorem hear_a (w : World) (C D : Int) (h : (C = 0 ∧ D = 1) ∨ (C = 1 ∧ D = 2)) : Calls Tryd.prog 15 #[.agg #[.int .i64 2, .int .i64 11, .int .i64 12, .int .i64 C, .int .i64 5]] w fun e w' => e = .returned (.agg #[.int .i64 2, .int .i64 11, .int .i64 12, .int .i64 D, .int .i64 5]) ∧ Below w.heap.size w w' := by
  have hh := hear_any 2 11 12 C 5 w
  rcases h with ⟨rfl, rfl⟩ | ⟨rfl, rfl⟩
  · rwa [show Pl.hear ⟨2, 11, 12, 0, 5⟩ = ⟨2, 11, 12, 1, 5⟩ by rw [Pl.hear, if_pos (by show Pl.Ok 2 11 12 0 5; unfold Pl.Ok; omega)]; rfl] at hh
  · rwa [show Pl.hear ⟨2, 11, 12, 1, 5⟩ = ⟨2, 11, 12, 2, 5⟩ by rw [Pl.hear, if_pos (by show Pl.Ok 2 11 12 1 5; unfold Pl.Ok; omega)]; rfl] at hh
theorem new_neg (w : World) : Calls Tryd.prog 17 #[.int .i64 (-1), .int .i64 0] w fun e w' => e = .returned (.tuple #[.agg #[.int .i64 0, .int .i64 0, .int .i64 0, .int .i64 0, .int .i64 0], .int .i64 1]) ∧ Below w.heap.size w w' := new_bad (-1) 0 w (by omega)

set_option maxHeartbeats 4000000 in
theorem head_any (w : World) (hL : Laid w) : Calls Tryd.prog 10 #[] w fun e w' => e = .returned (.bool true) ∧ Below w.heap.size w w' := by
  have hr := Pl.fire_bd 0 8 28 (by omega)
  have he := tick_e
  generalize Pl.fire 0 8 28 = r at hr he
  obtain ⟨r1', r2'⟩ := hr
  have r1 : 32 ≤ r := by omega
  have r2 : r ≤ 35 := by omega
  clear r1' r2'
  go_enter Tryd.func10, Tryd.ntmps10
  have B := Below.refl w.heap.size w
  go_wp2_with fail
  refine (new_510 _ (hL.below B)).mono ?_
  rintro e w1 ⟨rfl, hb⟩
  replace B := B_trans B hb
  replace B := B_alloc B (.cells #[.int .i64 1, .int .i64 10, .int .i64 10, .int .i64 0, .int .i64 5] 23)
  have k1 := Tm.new w1 23 1 10 10 0 5
  clear hb
  obtain ⟨k1a, k1b, k1c, k1d, k1e⟩ := k1.cells
  go_wp2_with fail
  clear k1a k1b k1c k1d k1e
  refine (tick_a _).mono ?_
  rintro e w2 ⟨rfl, hb⟩
  replace B := B_trans B hb
  replace k1 := k1.below hb
  replace B := B_alloc B (.cells #[.int .i64 1, .int .i64 10, .int .i64 10, .int .i64 0, .int .i64 5] 23)
  replace k1 := k1.below (B_alloc (Below.refl _ _) (.cells #[.int .i64 1, .int .i64 10, .int .i64 10, .int .i64 0, .int .i64 5] 23))
  have k3 := Tm.new w2 23 1 10 10 0 5
  clear hb
  obtain ⟨k1a, k1b, k1c, k1d, k1e⟩ := k1.cells
  obtain ⟨k3a, k3b, k3c, k3d, k3e⟩ := k3.cells
  go_wp2_with fail
  clear k1a k1b k1c k1d k1e
  clear k3a k3b k3c k3d k3e
  refine (tick_b _ (hL.below B)).mono ?_
  rintro e w3 ⟨rfl, hb⟩
  replace B := B_trans B hb
  replace k1 := k1.below hb
  replace k3 := k3.below hb
  replace B := B_alloc B (.cells #[.int .i64 2, .int .i64 11, .int .i64 12, .int .i64 0, .int .i64 5] 23)
  replace k1 := k1.below (B_alloc (Below.refl _ _) (.cells #[.int .i64 2, .int .i64 11, .int .i64 12, .int .i64 0, .int .i64 5] 23))
  replace k3 := k3.below (B_alloc (Below.refl _ _) (.cells #[.int .i64 2, .int .i64 11, .int .i64 12, .int .i64 0, .int .i64 5] 23))
  have k5 := Tm.new w3 23 2 11 12 0 5
  clear hb
  obtain ⟨k1a, k1b, k1c, k1d, k1e⟩ := k1.cells
  obtain ⟨k3a, k3b, k3c, k3d, k3e⟩ := k3.cells
  obtain ⟨k5a, k5b, k5c, k5d, k5e⟩ := k5.cells
  go_wp2_with fail
  clear k1a k1b k1c k1d k1e
  clear k3a k3b k3c k3d k3e
  clear k5a k5b k5c k5d k5e
  refine (tick_c _).mono ?_
  rintro e w4 ⟨rfl, hb⟩
  replace B := B_trans B hb
  replace k1 := k1.below hb
  replace k3 := k3.below hb
  replace k5 := k5.below hb
  replace B := B_alloc B (.cells #[.int .i64 2, .int .i64 11, .int .i64 12, .int .i64 0, .int .i64 5] 23)
  replace k1 := k1.below (B_alloc (Below.refl _ _) (.cells #[.int .i64 2, .int .i64 11, .int .i64 12, .int .i64 0, .int .i64 5] 23))
  replace k3 := k3.below (B_alloc (Below.refl _ _) (.cells #[.int .i64 2, .int .i64 11, .int .i64 12, .int .i64 0, .int .i64 5] 23))
  replace k5 := k5.below (B_alloc (Below.refl _ _) (.cells #[.int .i64 2, .int .i64 11, .int .i64 12, .int .i64 0, .int .i64 5] 23))
  clear hb
  obtain ⟨k1a, k1b, k1c, k1d, k1e⟩ := k1.cells
  obtain ⟨k3a, k3b, k3c, k3d, k3e⟩ := k3.cells
  obtain ⟨k5a, k5b, k5c, k5d, k5e⟩ := k5.cells
  go_wp2_with fail
  clear k1a k1b k1c k1d k1e
  clear k3a k3b k3c k3d k3e
  clear k5a k5b k5c k5d k5e
  refine (hear_a _ 0 1 (by omega)).mono ?_
  rintro e w5 ⟨rfl, hb⟩
  replace B := B_trans B hb
  replace k1 := k1.below hb
  replace k3 := k3.below hb
  replace k5 := k5.below hb
  clear hb
  obtain ⟨k1a, k1b, k1c, k1d, k1e⟩ := k1.cells
  obtain ⟨k3a, k3b, k3c, k3d, k3e⟩ := k3.cells
  obtain ⟨k5a, k5b, k5c, k5d, k5e⟩ := k5.cells
  go_wp2_with fail
  clear k1a k1b k1c k1d k1e
  clear k3a k3b k3c k3d k3e
  clear k5a k5b k5c k5d k5e
  refine (hear_a _ 1 2 (by omega)).mono ?_
  rintro e w6 ⟨rfl, hb⟩
  replace B := B_trans B hb
  replace k1 := k1.below hb
  replace k3 := k3.below hb
  replace k5 := k5.below hb
  clear hb
  obtain ⟨k1a, k1b, k1c, k1d, k1e⟩ := k1.cells
  obtain ⟨k3a, k3b, k3c, k3d, k3e⟩ := k3.cells
  obtain ⟨k5a, k5b, k5c, k5d, k5e⟩ := k5.cells
  go_wp2_with fail
  clear k1a k1b k1c k1d k1e
  clear k3a k3b k3c k3d k3e
  clear k5a k5b k5c k5d k5e
  refine (tick_d _).mono ?_
  rintro e w7 ⟨rfl, hb⟩
  replace B := B_trans B hb
  replace k1 := k1.below hb
  replace k3 := k3.below hb
  replace k5 := k5.below hb
  replace B := B_alloc B (.cells #[.int .i64 2, .int .i64 11, .int .i64 12, .int .i64 2, .int .i64 5] 23)
  replace k1 := k1.below (B_alloc (Below.refl _ _) (.cells #[.int .i64 2, .int .i64 11, .int .i64 12, .int .i64 2, .int .i64 5] 23))
  replace k3 := k3.below (B_alloc (Below.refl _ _) (.cells #[.int .i64 2, .int .i64 11, .int .i64 12, .int .i64 2, .int .i64 5] 23))
  replace k5 := k5.below (B_alloc (Below.refl _ _) (.cells #[.int .i64 2, .int .i64 11, .int .i64 12, .int .i64 2, .int .i64 5] 23))
  clear hb
  obtain ⟨k1a, k1b, k1c, k1d, k1e⟩ := k1.cells
  obtain ⟨k3a, k3b, k3c, k3d, k3e⟩ := k3.cells
  obtain ⟨k5a, k5b, k5c, k5d, k5e⟩ := k5.cells
  go_wp2_with fail
  clear k1a k1b k1c k1d k1e
  clear k3a k3b k3c k3d k3e
  clear k5a k5b k5c k5d k5e
  refine (new_neg _).mono ?_
  rintro e w8 ⟨rfl, hb⟩
  replace B := B_trans B hb
  replace k1 := k1.below hb
  replace k3 := k3.below hb
  replace k5 := k5.below hb
  replace B := B_alloc B (.cells #[.int .i64 0, .int .i64 0, .int .i64 0, .int .i64 0, .int .i64 0] 23)
  replace k1 := k1.below (B_alloc (Below.refl _ _) (.cells #[.int .i64 0, .int .i64 0, .int .i64 0, .int .i64 0, .int .i64 0] 23))
  replace k3 := k3.below (B_alloc (Below.refl _ _) (.cells #[.int .i64 0, .int .i64 0, .int .i64 0, .int .i64 0, .int .i64 0] 23))
  replace k5 := k5.below (B_alloc (Below.refl _ _) (.cells #[.int .i64 0, .int .i64 0, .int .i64 0, .int .i64 0, .int .i64 0] 23))
  clear hb
  obtain ⟨k1a, k1b, k1c, k1d, k1e⟩ := k1.cells
  obtain ⟨k3a, k3b, k3c, k3d, k3e⟩ := k3.cells
  obtain ⟨k5a, k5b, k5c, k5d, k5e⟩ := k5.cells
  go_wp2_with fail
  clear k1a k1b k1c k1d k1e
  clear k3a k3b k3c k3d k3e
  clear k5a k5b k5c k5d k5e
  refine (he _ (hL.below B)).mono ?_
  rintro e w9 ⟨rfl, hb⟩
  replace B := B_trans B hb
  replace k1 := k1.below hb
  replace k3 := k3.below hb
  replace k5 := k5.below hb
  replace B := B_alloc B (.cells #[.int .i64 8, .int .i64 28, .int .i64 r, .int .i64 0, .int .i64 0] 23)
  replace k1 := k1.below (B_alloc (Below.refl _ _) (.cells #[.int .i64 8, .int .i64 28, .int .i64 r, .int .i64 0, .int .i64 0] 23))
  replace k3 := k3.below (B_alloc (Below.refl _ _) (.cells #[.int .i64 8, .int .i64 28, .int .i64 r, .int .i64 0, .int .i64 0] 23))
  replace k5 := k5.below (B_alloc (Below.refl _ _) (.cells #[.int .i64 8, .int .i64 28, .int .i64 r, .int .i64 0, .int .i64 0] 23))
  have k13 := Tm.new w9 23 8 28 r 0 0
  clear hb
  obtain ⟨k1a, k1b, k1c, k1d, k1e⟩ := k1.cells
  obtain ⟨k3a, k3b, k3c, k3d, k3e⟩ := k3.cells
  obtain ⟨k5a, k5b, k5c, k5d, k5e⟩ := k5.cells
  obtain ⟨k13a, k13b, k13c, k13d, k13e⟩ := k13.cells
  go_wp2_with fail
  go_ret
  exact ⟨rfl, B⟩

/-- A timer in whose interval, or right behind it, the frame lies. -/
def Usable (I B F C S f : Int) : Prop := Pl.Ok I B F C S ∧ B ≤ f ∧ f ≤ B + I ∧ f ≤ 900000000
set_option maxHeartbeats 2000000 in
theorem usable_yes (I B F C S f : Int) (w : World) (h : Usable I B F C S f) :
    Calls Tryd.prog 11 #[.agg #[.int .i64 I, .int .i64 B, .int .i64 F, .int .i64 C, .int .i64 S], .int .i64 f] w fun e w' => e = .returned (.bool true) ∧ Below w.heap.size w w' := by
  obtain ⟨h, h1, h2, h3⟩ := h
  have hI1 : 1 ≤ I := by unfold Pl.Ok at h; omega
  have hI2 : I ≤ 8 := by unfold Pl.Ok at h; omega
  have hB1 : 0 ≤ B := by unfold Pl.Ok at h; omega
  have hB2 : B ≤ 999999984 := by unfold Pl.Ok at h; omega
  have T0 := Tm.new w 23 I B F C S
  go_enter Tryd.func11, Tryd.ntmps11
  go_wp2_with (go_at_call 13; refine (rvalid_yes _ h).mono ?_; rintro e w1 ⟨rfl, hb⟩; obtain ⟨⟨c0, c1, c2, c3, c4⟩, f0, f1, f2, f3, f4⟩ := (T0.below hb).all)
  go_ret
  exact ⟨ret_bool (by simp <;> omega), B_trans (B_alloc (Below.refl _ _) _) hb⟩
set_option maxHeartbeats 2000000 in
theorem usable_no (I B F C S f : Int) (w : World) (h : ¬ Usable I B F C S f) :
    Calls Tryd.prog 11 #[.agg #[.int .i64 I, .int .i64 B, .int .i64 F, .int .i64 C, .int .i64 S], .int .i64 f] w fun e w' => e = .returned (.bool false) ∧ Below w.heap.size w w' := by
  have T0 := Tm.new w 23 I B F C S
  by_cases hk : Pl.Ok I B F C S
  · have hI1 : 1 ≤ I := by unfold Pl.Ok at hk; omega
    have hI2 : I ≤ 8 := by unfold Pl.Ok at hk; omega
    have hB1 : 0 ≤ B := by unfold Pl.Ok at hk; omega
    have hB2 : B ≤ 999999984 := by unfold Pl.Ok at hk; omega
    have hc : f < B ∨ (B ≤ f ∧ B + I < f) ∨ (B ≤ f ∧ f ≤ B + I ∧ 900000000 < f) := by
      apply Classical.byContradiction; intro hc; exact h ⟨hk, by omega, by omega, by omega⟩
    clear h
    rcases hc with h1 | ⟨h1, h2⟩ | ⟨h1, h2, h3⟩
    all_goals
      go_enter Tryd.func11, Tryd.ntmps11
      go_wp2_with (go_at_call 13; refine (rvalid_yes _ hk).mono ?_; rintro e w1 ⟨rfl, hb⟩; obtain ⟨⟨c0, c1, c2, c3, c4⟩, f0, f1, f2, f3, f4⟩ := (T0.below hb).all)
      go_ret
      exact ⟨ret_bool (by simp <;> omega), B_trans (B_alloc (Below.refl _ _) _) hb⟩
  · clear h
    go_enter Tryd.func11, Tryd.ntmps11
    go_wp2_with (go_at_call 13; refine (rvalid_no _ hk).mono ?_; rintro e w1 ⟨rfl, hb⟩; obtain ⟨⟨c0, c1, c2, c3, c4⟩, f0, f1, f2, f3, f4⟩ := (T0.below hb).all)
    go_ret
    exact ⟨ret_bool (by simp <;> omega), B_trans (B_alloc (Below.refl _ _) _) hb⟩

end Go.Proofs.YtomfbadniajnlaaDoor
