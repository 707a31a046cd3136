/-
  New and Tick of package trickle and of the reference: what they answer. Condition: the table of steps reads as its initialiser lays it.
-/
import Derived.Test.YtomfbadniajnlaaDoorTick
import Derived.RegionTactic
import Derived.ChangeAlike
namespace Go.Proofs.YtomfbadniajnlaaDoor
open Go.RowKit
set_option maxHeartbeats 1000000 in
theorem new_ok (S f : Int) (w : World) (hS : 0 ≤ S ∧ S ≤ 1000000000) (hf : 0 ≤ f ∧ f ≤ 999999984) (hL : Laid w) :
    Calls Tryd.prog 17 #[.int .i64 S, .int .i64 f] w fun e w' => e = .returned (.tuple #[tv (Pl.start S 1 f), .int .i64 0]) ∧ Below w.heap.size w w' := by
  have T2 := Tm.new w 23 0 0 0 0 0
  have L2 := hL.below (B_alloc (Below.refl _ w) (.cells #[.int .i64 0, .int .i64 0, .int .i64 0, .int .i64 0, .int .i64 0] 23))
  have T6 : Tm ((w.alloc (.cells #[.int .i64 0, .int .i64 0, .int .i64 0, .int .i64 0, .int .i64 0] 23)).alloc (.cells #[.int .i64 0, .int .i64 0, .int .i64 0, .int .i64 0, .int .i64 S] 42)) (w.heap.size + 1) 42 0 0 0 0 S := by
    have := Tm.new (w.alloc (.cells #[.int .i64 0, .int .i64 0, .int .i64 0, .int .i64 0, .int .i64 0] 23)) 42 0 0 0 0 S
    rwa [World.size_alloc] at this
  unfold tv Pl.start
  simp only
  go_enter Tryd.func17, Tryd.ntmps17
  go_wp2_with (first | (go_at_call 26; refine (seed_true _ _ hS).mono ?_; rintro e w1 ⟨rfl, rfl⟩) | (go_at_call 24; refine (frame_true _ _ hf).mono ?_; rintro e w1 ⟨rfl, rfl⟩) | (go_at_call 25; refine (begin_any _ 1 f 0 0 0 0 S _ T6 (by omega) (.inl rfl) hf hS (L2.below (B_alloc (Below.refl _ _) _))).mono ?_; rintro e w2 ⟨rfl, T3, B3⟩; obtain ⟨⟨x0, x1, x2, x3, x4⟩, _, _, _, _, _⟩ := T3.all; obtain ⟨⟨y0, y1, y2, y3, y4⟩, k0, k1, k2, k3, k4⟩ := ((T2.below (B_alloc (Below.refl _ _) _)).upto B3 (by omega)).all; have B4 := (B_alloc (B_alloc (Below.refl _ w) _) _).trans (B3.mono (Nat.le_succ _)); clear B3 T3))
  refine bodyPost_ret (v := .tuple #[.agg #[.int .i64 1, .int .i64 f, .int .i64 (Pl.fire S 1 f), .int .i64 0, .int .i64 S], .int .i64 0]) (by simp [results, Tryd.results17, go_sem, y0, y1, y2, y3, y4]) rfl ⟨rfl, ?_⟩
  repeat first | (with_reducible exact B4) | (with_reducible refine Below.setCell ?_ (by simp) _)
set_option maxHeartbeats 1000000 in
theorem new_bad (S f : Int) (w : World) (hS : (S < 0 ∨ 1000000000 < S) ∨ (f < 0 ∨ 999999984 < f)) :
    Calls Tryd.prog 17 #[.int .i64 S, .int .i64 f] w fun e w' => e = .returned (.tuple #[.agg #[.int .i64 0, .int .i64 0, .int .i64 0, .int .i64 0, .int .i64 0], .int .i64 1]) ∧ Below w.heap.size w w' := by
  by_cases h : S < 0 ∨ 1000000000 < S
  · clear hS
    go_enter Tryd.func17, Tryd.ntmps17
    go_wp2_with (go_at_call 26; refine (seed_false _ _ h).mono ?_; rintro e w1 ⟨rfl, rfl⟩)
    refine bodyPost_ret (v := .tuple #[.agg #[.int .i64 0, .int .i64 0, .int .i64 0, .int .i64 0, .int .i64 0], .int .i64 1]) (by simp [results, Tryd.results17, go_sem]) rfl ⟨rfl, B_alloc (Below.refl _ _) _⟩
  · have hS' : 0 ≤ S ∧ S ≤ 1000000000 := by omega
    have hf : f < 0 ∨ 999999984 < f := by omega
    clear hS h
    go_enter Tryd.func17, Tryd.ntmps17
    go_wp2_with (first | (go_at_call 26; refine (seed_true _ _ hS').mono ?_; rintro e w1 ⟨rfl, rfl⟩) | (go_at_call 24; refine (frame_false _ _ hf).mono ?_; rintro e w1 ⟨rfl, rfl⟩))
    refine bodyPost_ret (v := .tuple #[.agg #[.int .i64 0, .int .i64 0, .int .i64 0, .int .i64 0, .int .i64 0], .int .i64 1]) (by simp [results, Tryd.results17, go_sem]) rfl ⟨rfl, B_alloc (Below.refl _ _) _⟩
set_option maxHeartbeats 1000000 in
theorem rnew_ok (S f : Int) (w : World) (hS : 0 ≤ S ∧ S ≤ 1000000000) (hf : 0 ≤ f ∧ f ≤ 999999984) :
    Calls Tryd.prog 18 #[.int .i64 S, .int .i64 f] w fun e w' => e = .returned (.tuple #[tv (Pl.start S 1 f), .int .i64 0]) ∧ Below w.heap.size w w' := by
  have T2 := Tm.new w 23 0 0 0 0 0
  obtain ⟨s1, s2⟩ := hS
  unfold tv Pl.start
  simp only
  go_enter Tryd.func18, Tryd.ntmps18
  go_wp2_with (first | (go_at_call 16; refine (rframe_true _ _ hf).mono ?_; rintro e w1 ⟨rfl, rfl⟩) | (go_at_call 27; refine (interval_any S 1 f _ (.inl rfl) hf ⟨s1, s2⟩).mono ?_; rintro e w2 ⟨rfl, B3⟩; obtain ⟨⟨y0, y1, y2, y3, y4⟩, k0, k1, k2, k3, k4⟩ := (T2.below B3).all; have B4 := B_trans (B_alloc (Below.refl _ w) _) B3; clear B3))
  refine bodyPost_ret (v := .tuple #[.agg #[.int .i64 1, .int .i64 f, .int .i64 (Pl.fire S 1 f), .int .i64 0, .int .i64 S], .int .i64 0]) (by simp [results, Tryd.results18, go_sem, y0, y1, y2, y3, y4]) rfl ⟨rfl, ?_⟩
  repeat first | (with_reducible exact B4) | (with_reducible refine Below.setCell ?_ (by simp) _)
set_option maxHeartbeats 1000000 in
theorem rnew_bad (S f : Int) (w : World) (hS : (S < 0 ∨ 1000000000 < S) ∨ (f < 0 ∨ 999999984 < f)) :
    Calls Tryd.prog 18 #[.int .i64 S, .int .i64 f] w fun e w' => e = .returned (.tuple #[.agg #[.int .i64 0, .int .i64 0, .int .i64 0, .int .i64 0, .int .i64 0], .int .i64 1]) ∧ Below w.heap.size w w' := by
  by_cases h : 0 ≤ f ∧ f ≤ 999999984
  · rcases (show S < 0 ∨ (0 ≤ S ∧ 1000000000 < S) by omega) with h1 | ⟨h1, h2⟩
    all_goals
      clear hS
      go_enter Tryd.func18, Tryd.ntmps18
      go_wp2_with (go_at_call 16; refine (rframe_true _ _ h).mono ?_; rintro e w1 ⟨rfl, rfl⟩)
      refine bodyPost_ret (v := .tuple #[.agg #[.int .i64 0, .int .i64 0, .int .i64 0, .int .i64 0, .int .i64 0], .int .i64 1]) (by simp [results, Tryd.results18, go_sem]) rfl ⟨rfl, B_alloc (Below.refl _ _) _⟩
  · have hf : f < 0 ∨ 999999984 < f := by omega
    clear hS h
    go_enter Tryd.func18, Tryd.ntmps18
    go_wp2_with (go_at_call 16; refine (rframe_false _ _ hf).mono ?_; rintro e w1 ⟨rfl, rfl⟩)
    refine bodyPost_ret (v := .tuple #[.agg #[.int .i64 0, .int .i64 0, .int .i64 0, .int .i64 0, .int .i64 0], .int .i64 1]) (by simp [results, Tryd.results18, go_sem]) rfl ⟨rfl, B_alloc (Below.refl _ _) _⟩

theorem tick_same {t : Pl.T} {f : Int} (h : ¬ (t.Ok ∧ Pl.frameOk f ∧ t.B + t.I ≤ f)) : Pl.tickT t f = t := if_neg h
theorem tick_new {t : Pl.T} {f : Int} (h : t.Ok ∧ Pl.frameOk f ∧ t.B + t.I ≤ f) : Pl.tickT t f = Pl.start t.S (min 8 (2 * t.I)) f := if_pos h
set_option maxHeartbeats 4000000 in
theorem tick_stale (I B F C S f : Int) (w : World) (h : ¬ (Pl.Ok I B F C S ∧ Pl.frameOk f ∧ B ≤ f)) :
    Calls Tryd.prog 14 #[.agg #[.int .i64 I, .int .i64 B, .int .i64 F, .int .i64 C, .int .i64 S], .int .i64 f] w fun e w' => e = .returned (.tuple #[.agg #[.int .i64 I, .int .i64 B, .int .i64 F, .int .i64 C, .int .i64 S], .bool false]) ∧ Below w.heap.size w w' := by
  by_cases hk : Pl.Ok I B F C S
  · by_cases hf' : Pl.frameOk f
    · have hf : 0 ≤ f ∧ f ≤ 999999984 := hf'
      have hlt : f < B := by
        apply Classical.byContradiction; intro hc; exact h ⟨hk, hf', by omega⟩
      clear h hf'
      have h := hk
      go_enter Tryd.func14, Tryd.ntmps14
      go_wp2_with (first | (go_at_call 23; refine (valid_yes _ h).mono ?_; rintro e w1 ⟨rfl, hb⟩; obtain ⟨T1, T2, B1⟩ := two_blocks hb; have hz := T2.lt; have hz0 := T1.lt; obtain ⟨⟨c0, c1, c2, c3, c4⟩, f0, f1, f2, f3, f4⟩ := T1.all; obtain ⟨⟨z0, z1, z2, z3, z4⟩, g0, g1, g2, g3, g4⟩ := T2.all; clear hb) | (go_at_call 24; refine (frame_true _ _ hf).mono ?_; rintro e w1 ⟨rfl, rfl⟩))
      refine bodyPost_ret (v := .tuple #[.agg #[.int .i64 I, .int .i64 B, .int .i64 F, .int .i64 C, .int .i64 S], .bool false]) (by simp [results, Tryd.results14, go_sem, z0, z1, z2, z3, z4]) rfl ⟨rfl, ?_⟩
      repeat first | (with_reducible exact B1) | (with_reducible refine Below.setCell ?_ (by simp) _) | (with_reducible refine B_alloc ?_ _) | (with_reducible refine Below.drew ?_) | (with_reducible refine B_drewN ?_ _)

    · have hf : f < 0 ∨ 999999984 < f := by unfold Pl.frameOk at hf'; omega
      clear h hf'
      have h := hk
      go_enter Tryd.func14, Tryd.ntmps14
      go_wp2_with (first | (go_at_call 23; refine (valid_yes _ h).mono ?_; rintro e w1 ⟨rfl, hb⟩; obtain ⟨T1, T2, B1⟩ := two_blocks hb; have hz := T2.lt; have hz0 := T1.lt; obtain ⟨⟨c0, c1, c2, c3, c4⟩, f0, f1, f2, f3, f4⟩ := T1.all; obtain ⟨⟨z0, z1, z2, z3, z4⟩, g0, g1, g2, g3, g4⟩ := T2.all; clear hb) | (go_at_call 24; refine (frame_false _ _ hf).mono ?_; rintro e w1 ⟨rfl, rfl⟩))
      refine bodyPost_ret (v := .tuple #[.agg #[.int .i64 I, .int .i64 B, .int .i64 F, .int .i64 C, .int .i64 S], .bool false]) (by simp [results, Tryd.results14, go_sem, z0, z1, z2, z3, z4]) rfl ⟨rfl, ?_⟩
      repeat first | (with_reducible exact B1) | (with_reducible refine Below.setCell ?_ (by simp) _) | (with_reducible refine B_alloc ?_ _) | (with_reducible refine Below.drew ?_) | (with_reducible refine B_drewN ?_ _)

  · clear h
    have h := hk
    by_cases hf' : Pl.frameOk f
    · have hf : 0 ≤ f ∧ f ≤ 999999984 := hf'
      clear hf'
      go_enter Tryd.func14, Tryd.ntmps14
      go_wp2_with (first | (go_at_call 23; refine (valid_no _ h).mono ?_; rintro e w1 ⟨rfl, hb⟩; obtain ⟨T1, T2, B1⟩ := two_blocks hb; have hz := T2.lt; have hz0 := T1.lt; obtain ⟨⟨c0, c1, c2, c3, c4⟩, f0, f1, f2, f3, f4⟩ := T1.all; obtain ⟨⟨z0, z1, z2, z3, z4⟩, g0, g1, g2, g3, g4⟩ := T2.all; clear hb) | (go_at_call 24; refine (frame_true _ _ hf).mono ?_; rintro e w1 ⟨rfl, rfl⟩))
      refine bodyPost_ret (v := .tuple #[.agg #[.int .i64 I, .int .i64 B, .int .i64 F, .int .i64 C, .int .i64 S], .bool false]) (by simp [results, Tryd.results14, go_sem, z0, z1, z2, z3, z4]) rfl ⟨rfl, ?_⟩
      repeat first | (with_reducible exact B1) | (with_reducible refine Below.setCell ?_ (by simp) _) | (with_reducible refine B_alloc ?_ _) | (with_reducible refine Below.drew ?_) | (with_reducible refine B_drewN ?_ _)

    · have hf : f < 0 ∨ 999999984 < f := by unfold Pl.frameOk at hf'; omega
      clear hf'
      go_enter Tryd.func14, Tryd.ntmps14
      go_wp2_with (first | (go_at_call 23; refine (valid_no _ h).mono ?_; rintro e w1 ⟨rfl, hb⟩; obtain ⟨T1, T2, B1⟩ := two_blocks hb; have hz := T2.lt; have hz0 := T1.lt; obtain ⟨⟨c0, c1, c2, c3, c4⟩, f0, f1, f2, f3, f4⟩ := T1.all; obtain ⟨⟨z0, z1, z2, z3, z4⟩, g0, g1, g2, g3, g4⟩ := T2.all; clear hb) | (go_at_call 24; refine (frame_false _ _ hf).mono ?_; rintro e w1 ⟨rfl, rfl⟩))
      refine bodyPost_ret (v := .tuple #[.agg #[.int .i64 I, .int .i64 B, .int .i64 F, .int .i64 C, .int .i64 S], .bool false]) (by simp [results, Tryd.results14, go_sem, z0, z1, z2, z3, z4]) rfl ⟨rfl, ?_⟩
      repeat first | (with_reducible exact B1) | (with_reducible refine Below.setCell ?_ (by simp) _) | (with_reducible refine B_alloc ?_ _) | (with_reducible refine Below.drew ?_) | (with_reducible refine B_drewN ?_ _)

set_option maxHeartbeats 4000000 in
theorem tick_in (I B F C S f : Int) (w : World) (h : Pl.Ok I B F C S) (hf : 0 ≤ f ∧ f ≤ 999999984) (h1 : B ≤ f) (h2 : f < B + I) :
    Calls Tryd.prog 14 #[.agg #[.int .i64 I, .int .i64 B, .int .i64 F, .int .i64 C, .int .i64 S], .int .i64 f] w fun e w' => e = .returned (.tuple #[.agg #[.int .i64 I, .int .i64 B, .int .i64 F, .int .i64 C, .int .i64 S], .bool (decide (f = F ∧ C < 2))]) ∧ Below w.heap.size w w' := by
  have hI1 : 1 ≤ I := by unfold Pl.Ok at h; omega
  have hI2 : I ≤ 8 := by unfold Pl.Ok at h; omega
  have hB1 : 0 ≤ B := by unfold Pl.Ok at h; omega
  have hB2 : B ≤ 999999984 := by unfold Pl.Ok at h; omega
  by_cases hF : f = F
  · by_cases hC : C < 2
    · rw [decide_eq_true (⟨hF, hC⟩ : f = F ∧ C < 2)]
      subst hF
      go_enter Tryd.func14, Tryd.ntmps14
      go_wp2_with (first | (go_at_call 23; refine (valid_yes _ h).mono ?_; rintro e w1 ⟨rfl, hb⟩; obtain ⟨T1, T2, B1⟩ := two_blocks hb; have hz := T2.lt; have hz0 := T1.lt; obtain ⟨⟨c0, c1, c2, c3, c4⟩, f0, f1, f2, f3, f4⟩ := T1.all; obtain ⟨⟨z0, z1, z2, z3, z4⟩, g0, g1, g2, g3, g4⟩ := T2.all; clear hb) | (go_at_call 24; refine (frame_true _ _ hf).mono ?_; rintro e w1 ⟨rfl, rfl⟩))
      refine bodyPost_ret (v := .tuple #[.agg #[.int .i64 I, .int .i64 B, .int .i64 f, .int .i64 C, .int .i64 S], .bool true]) (by simp [results, Tryd.results14, go_sem, z0, z1, z2, z3, z4, hz] <;> omega) rfl ⟨rfl, ?_⟩
      repeat first | (with_reducible exact B1) | (with_reducible refine Below.setCell ?_ (by simp) _) | (with_reducible refine B_alloc ?_ _) | (with_reducible refine Below.drew ?_) | (with_reducible refine B_drewN ?_ _)

    · rw [decide_eq_false (fun hh => hC hh.2 : ¬ (f = F ∧ C < 2))]
      subst hF
      go_enter Tryd.func14, Tryd.ntmps14
      go_wp2_with (first | (go_at_call 23; refine (valid_yes _ h).mono ?_; rintro e w1 ⟨rfl, hb⟩; obtain ⟨T1, T2, B1⟩ := two_blocks hb; have hz := T2.lt; have hz0 := T1.lt; obtain ⟨⟨c0, c1, c2, c3, c4⟩, f0, f1, f2, f3, f4⟩ := T1.all; obtain ⟨⟨z0, z1, z2, z3, z4⟩, g0, g1, g2, g3, g4⟩ := T2.all; clear hb) | (go_at_call 24; refine (frame_true _ _ hf).mono ?_; rintro e w1 ⟨rfl, rfl⟩))
      refine bodyPost_ret (v := .tuple #[.agg #[.int .i64 I, .int .i64 B, .int .i64 f, .int .i64 C, .int .i64 S], .bool false]) (by simp [results, Tryd.results14, go_sem, z0, z1, z2, z3, z4, hz] <;> omega) rfl ⟨rfl, ?_⟩
      repeat first | (with_reducible exact B1) | (with_reducible refine Below.setCell ?_ (by simp) _) | (with_reducible refine B_alloc ?_ _) | (with_reducible refine Below.drew ?_) | (with_reducible refine B_drewN ?_ _)

  · rw [decide_eq_false (fun hh => hF hh.1 : ¬ (f = F ∧ C < 2))]
    have hF' : ¬ F = f := fun e => hF e.symm
    have hFb : (F == f) = false := by simpa using hF'
    go_enter Tryd.func14, Tryd.ntmps14
    go_wp2_with (first | (go_at_call 23; refine (valid_yes _ h).mono ?_; rintro e w1 ⟨rfl, hb⟩; obtain ⟨T1, T2, B1⟩ := two_blocks hb; have hz := T2.lt; have hz0 := T1.lt; obtain ⟨⟨c0, c1, c2, c3, c4⟩, f0, f1, f2, f3, f4⟩ := T1.all; obtain ⟨⟨z0, z1, z2, z3, z4⟩, g0, g1, g2, g3, g4⟩ := T2.all; clear hb) | (go_at_call 24; refine (frame_true _ _ hf).mono ?_; rintro e w1 ⟨rfl, rfl⟩))
    refine bodyPost_ret (v := .tuple #[.agg #[.int .i64 I, .int .i64 B, .int .i64 F, .int .i64 C, .int .i64 S], .bool false]) (by simp [results, Tryd.results14, go_sem, z0, z1, z2, z3, z4, hz]) rfl ⟨rfl, ?_⟩
    repeat first | (with_reducible exact B1) | (with_reducible refine Below.setCell ?_ (by simp) _) | (with_reducible refine B_alloc ?_ _) | (with_reducible refine Below.drew ?_) | (with_reducible refine B_drewN ?_ _)

set_option maxHeartbeats 8000000 in
theorem tick_over (I B F C S f : Int) (w : World) (h : Pl.Ok I B F C S) (hf : 0 ≤ f ∧ f ≤ 999999984) (h1 : B + I ≤ f) (hL : Laid w) :
    Calls Tryd.prog 14 #[.agg #[.int .i64 I, .int .i64 B, .int .i64 F, .int .i64 C, .int .i64 S], .int .i64 f] w fun e w' => e = .returned (.tuple #[.agg #[.int .i64 (min 8 (2 * I)), .int .i64 f, .int .i64 (Pl.fire S (min 8 (2 * I)) f), .int .i64 0, .int .i64 S], .bool false]) ∧ Below w.heap.size w w' := by
  have hI : I = 1 ∨ I = 2 ∨ I = 4 ∨ I = 8 := by unfold Pl.Ok at h; omega
  have hS : 0 ≤ S ∧ S ≤ 1000000000 := by unfold Pl.Ok at h; omega
  have hB1 : 0 ≤ B := by unfold Pl.Ok at h; omega
  have hB2 : B ≤ 999999984 := by unfold Pl.Ok at h; omega
  rcases hI with rfl | rfl | rfl | rfl
  · rw [show min 8 (2 * 1) = (2 : Int) from rfl]
    have hb := Pl.fire_bd S 2 f (by omega)
    obtain ⟨r, hr⟩ : ∃ r, Pl.fire S 2 f = r := ⟨_, rfl⟩
    rw [hr] at hb ⊢
    have hne : ¬ f = r := by omega
    have hne' : ¬ r = f := by omega
    have hFb : (r == f) = false := by simpa using hne'
    clear hb
    replace hr := Lib.hid hr
    go_enter Tryd.func14, Tryd.ntmps14
    go_wp2_with (first | (go_at_call 23; refine (valid_yes _ h).mono ?_; rintro e w1 ⟨rfl, hb⟩; obtain ⟨T1, T2, B1⟩ := two_blocks hb; have hz := T2.lt; have hz0 := T1.lt; obtain ⟨⟨c0, c1, c2, c3, c4⟩, f0, f1, f2, f3, f4⟩ := T1.all; obtain ⟨⟨z0, z1, z2, z3, z4⟩, g0, g1, g2, g3, g4⟩ := T2.all; clear hb) | (go_at_call 24; refine (frame_true _ _ hf).mono ?_; rintro e w1 ⟨rfl, rfl⟩) | (go_at_call 25; refine (begin_any _ 2 f 1 B F C S _ (Tm.new w1 42 1 B F C S) (by omega) (by omega) hf hS (hL.upto (B_alloc B1 _) hL.pos)).mono ?_; rintro e w2 ⟨rfl, T3, B3⟩; rw [hr.out] at T3; obtain ⟨⟨x0, x1, x2, x3, x4⟩, q0, q1, q2, q3, q4⟩ := T3.all; obtain ⟨⟨y0, y1, y2, y3, y4⟩, k0, k1, k2, k3, k4⟩ := ((T2.below (B_alloc (Below.refl _ _) _)).upto B3 T2.lt).all; have hw2 := T3.lt; have B4 := (B_alloc B1 _).trans (B3.mono B1.size); clear B3 T3 hf))
    refine bodyPost_ret (v := .tuple #[.agg #[.int .i64 2, .int .i64 f, .int .i64 r, .int .i64 0, .int .i64 S], .bool false]) (by simp [results, Tryd.results14, go_sem, y0, y1, y2, y3, y4]) rfl ⟨rfl, ?_⟩
    repeat first | (with_reducible exact B4) | (with_reducible refine Below.setCell ?_ (by simp) _) | (with_reducible refine B_alloc ?_ _) | (with_reducible refine Below.drew ?_) | (with_reducible refine B_drewN ?_ _)
  
  · rw [show min 8 (2 * 2) = (4 : Int) from rfl]
    have hb := Pl.fire_bd S 4 f (by omega)
    obtain ⟨r, hr⟩ : ∃ r, Pl.fire S 4 f = r := ⟨_, rfl⟩
    rw [hr] at hb ⊢
    have hne : ¬ f = r := by omega
    have hne' : ¬ r = f := by omega
    have hFb : (r == f) = false := by simpa using hne'
    clear hb
    replace hr := Lib.hid hr
    go_enter Tryd.func14, Tryd.ntmps14
    go_wp2_with (first | (go_at_call 23; refine (valid_yes _ h).mono ?_; rintro e w1 ⟨rfl, hb⟩; obtain ⟨T1, T2, B1⟩ := two_blocks hb; have hz := T2.lt; have hz0 := T1.lt; obtain ⟨⟨c0, c1, c2, c3, c4⟩, f0, f1, f2, f3, f4⟩ := T1.all; obtain ⟨⟨z0, z1, z2, z3, z4⟩, g0, g1, g2, g3, g4⟩ := T2.all; clear hb) | (go_at_call 24; refine (frame_true _ _ hf).mono ?_; rintro e w1 ⟨rfl, rfl⟩) | (go_at_call 25; refine (begin_any _ 4 f 2 B F C S _ (Tm.new w1 42 2 B F C S) (by omega) (by omega) hf hS (hL.upto (B_alloc B1 _) hL.pos)).mono ?_; rintro e w2 ⟨rfl, T3, B3⟩; rw [hr.out] at T3; obtain ⟨⟨x0, x1, x2, x3, x4⟩, q0, q1, q2, q3, q4⟩ := T3.all; obtain ⟨⟨y0, y1, y2, y3, y4⟩, k0, k1, k2, k3, k4⟩ := ((T2.below (B_alloc (Below.refl _ _) _)).upto B3 T2.lt).all; have hw2 := T3.lt; have B4 := (B_alloc B1 _).trans (B3.mono B1.size); clear B3 T3 hf))
    refine bodyPost_ret (v := .tuple #[.agg #[.int .i64 4, .int .i64 f, .int .i64 r, .int .i64 0, .int .i64 S], .bool false]) (by simp [results, Tryd.results14, go_sem, y0, y1, y2, y3, y4]) rfl ⟨rfl, ?_⟩
    repeat first | (with_reducible exact B4) | (with_reducible refine Below.setCell ?_ (by simp) _) | (with_reducible refine B_alloc ?_ _) | (with_reducible refine Below.drew ?_) | (with_reducible refine B_drewN ?_ _)
  
  · rw [show min 8 (2 * 4) = (8 : Int) from rfl]
    have hb := Pl.fire_bd S 8 f (by omega)
    obtain ⟨r, hr⟩ : ∃ r, Pl.fire S 8 f = r := ⟨_, rfl⟩
    rw [hr] at hb ⊢
    have hne : ¬ f = r := by omega
    have hne' : ¬ r = f := by omega
    have hFb : (r == f) = false := by simpa using hne'
    clear hb
    replace hr := Lib.hid hr
    go_enter Tryd.func14, Tryd.ntmps14
    go_wp2_with (first | (go_at_call 23; refine (valid_yes _ h).mono ?_; rintro e w1 ⟨rfl, hb⟩; obtain ⟨T1, T2, B1⟩ := two_blocks hb; have hz := T2.lt; have hz0 := T1.lt; obtain ⟨⟨c0, c1, c2, c3, c4⟩, f0, f1, f2, f3, f4⟩ := T1.all; obtain ⟨⟨z0, z1, z2, z3, z4⟩, g0, g1, g2, g3, g4⟩ := T2.all; clear hb) | (go_at_call 24; refine (frame_true _ _ hf).mono ?_; rintro e w1 ⟨rfl, rfl⟩) | (go_at_call 25; refine (begin_any _ 8 f 4 B F C S _ (Tm.new w1 42 4 B F C S) (by omega) (by omega) hf hS (hL.upto (B_alloc B1 _) hL.pos)).mono ?_; rintro e w2 ⟨rfl, T3, B3⟩; rw [hr.out] at T3; obtain ⟨⟨x0, x1, x2, x3, x4⟩, q0, q1, q2, q3, q4⟩ := T3.all; obtain ⟨⟨y0, y1, y2, y3, y4⟩, k0, k1, k2, k3, k4⟩ := ((T2.below (B_alloc (Below.refl _ _) _)).upto B3 T2.lt).all; have hw2 := T3.lt; have B4 := (B_alloc B1 _).trans (B3.mono B1.size); clear B3 T3 hf))
    refine bodyPost_ret (v := .tuple #[.agg #[.int .i64 8, .int .i64 f, .int .i64 r, .int .i64 0, .int .i64 S], .bool false]) (by simp [results, Tryd.results14, go_sem, y0, y1, y2, y3, y4]) rfl ⟨rfl, ?_⟩
    repeat first | (with_reducible exact B4) | (with_reducible refine Below.setCell ?_ (by simp) _) | (with_reducible refine B_alloc ?_ _) | (with_reducible refine Below.drew ?_) | (with_reducible refine B_drewN ?_ _)
  
  · rw [show min 8 (2 * 8) = (8 : Int) from rfl]
    have hb := Pl.fire_bd S 8 f (by omega)
    obtain ⟨r, hr⟩ : ∃ r, Pl.fire S 8 f = r := ⟨_, rfl⟩
    rw [hr] at hb ⊢
    have hne : ¬ f = r := by omega
    have hne' : ¬ r = f := by omega
    have hFb : (r == f) = false := by simpa using hne'
    clear hb
    replace hr := Lib.hid hr
    go_enter Tryd.func14, Tryd.ntmps14
    go_wp2_with (first | (go_at_call 23; refine (valid_yes _ h).mono ?_; rintro e w1 ⟨rfl, hb⟩; obtain ⟨T1, T2, B1⟩ := two_blocks hb; have hz := T2.lt; have hz0 := T1.lt; obtain ⟨⟨c0, c1, c2, c3, c4⟩, f0, f1, f2, f3, f4⟩ := T1.all; obtain ⟨⟨z0, z1, z2, z3, z4⟩, g0, g1, g2, g3, g4⟩ := T2.all; clear hb) | (go_at_call 24; refine (frame_true _ _ hf).mono ?_; rintro e w1 ⟨rfl, rfl⟩) | (go_at_call 25; refine (begin_any _ 8 f 8 B F C S _ (Tm.new w1 42 8 B F C S) (by omega) (by omega) hf hS (hL.upto (B_alloc B1 _) hL.pos)).mono ?_; rintro e w2 ⟨rfl, T3, B3⟩; rw [hr.out] at T3; obtain ⟨⟨x0, x1, x2, x3, x4⟩, q0, q1, q2, q3, q4⟩ := T3.all; obtain ⟨⟨y0, y1, y2, y3, y4⟩, k0, k1, k2, k3, k4⟩ := ((T2.below (B_alloc (Below.refl _ _) _)).upto B3 T2.lt).all; have hw2 := T3.lt; have B4 := (B_alloc B1 _).trans (B3.mono B1.size); clear B3 T3 hf))
    refine bodyPost_ret (v := .tuple #[.agg #[.int .i64 8, .int .i64 f, .int .i64 r, .int .i64 0, .int .i64 S], .bool false]) (by simp [results, Tryd.results14, go_sem, y0, y1, y2, y3, y4]) rfl ⟨rfl, ?_⟩
    repeat first | (with_reducible exact B4) | (with_reducible refine Below.setCell ?_ (by simp) _) | (with_reducible refine B_alloc ?_ _) | (with_reducible refine Below.drew ?_) | (with_reducible refine B_drewN ?_ _)
end Go.Proofs.YtomfbadniajnlaaDoor
