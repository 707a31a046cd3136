/-
  Tick of the reference: what it answers. Conditions: none.
-/
import Derived.Test.YtomfbadniajnlaaDoorTick2
namespace Go.Proofs.YtomfbadniajnlaaDoor
open Go.RowKit
set_option maxHeartbeats 4000000 in
theorem rtick_stale (I B F C S f : Int) (w : World) (h : ¬ (Pl.Ok I B F C S ∧ Pl.frameOk f ∧ B ≤ f)) :
    Calls Tryd.prog 19 #[.agg #[.int .i64 I, .int .i64 B, .int .i64 F, .int .i64 C, .int .i64 S], .int .i64 f] w fun e w' => e = .returned (.tuple #[.agg #[.int .i64 I, .int .i64 B, .int .i64 F, .int .i64 C, .int .i64 S], .bool false]) ∧ Below w.heap.size w w' := by
  by_cases hk : Pl.Ok I B F C S
  · by_cases hf' : Pl.frameOk f
    · have hf : 0 ≤ f ∧ f ≤ 999999984 := hf'
      have hlt : f < B := by
        apply Classical.byContradiction; intro hc; exact h ⟨hk, hf', by omega⟩
      clear h hf'
      have h := hk
      go_enter Tryd.func19, Tryd.ntmps19
      go_wp2_with (first | (go_at_call 13; refine (rvalid_yes _ h).mono ?_; rintro e w1 ⟨rfl, hb⟩; obtain ⟨T1, T2, B1⟩ := two_blocks hb; have hz := T2.lt; have hz0 := T1.lt; obtain ⟨⟨c0, c1, c2, c3, c4⟩, f0, f1, f2, f3, f4⟩ := T1.all; obtain ⟨⟨z0, z1, z2, z3, z4⟩, g0, g1, g2, g3, g4⟩ := T2.all; clear hb) | (go_at_call 16; refine (rframe_true _ _ hf).mono ?_; rintro e w1 ⟨rfl, rfl⟩))
      refine bodyPost_ret (v := .tuple #[.agg #[.int .i64 I, .int .i64 B, .int .i64 F, .int .i64 C, .int .i64 S], .bool false]) (by simp [results, Tryd.results19, go_sem, z0, z1, z2, z3, z4]) rfl ⟨rfl, ?_⟩
      repeat first | (with_reducible exact B1) | (with_reducible refine Below.setCell ?_ (by simp <;> omega) _) | (with_reducible refine B_alloc ?_ _) | (with_reducible refine Below.drew ?_) | (with_reducible refine B_drewN ?_ _)

    · have hf : f < 0 ∨ 999999984 < f := by unfold Pl.frameOk at hf'; omega
      clear h hf'
      have h := hk
      go_enter Tryd.func19, Tryd.ntmps19
      go_wp2_with (first | (go_at_call 13; refine (rvalid_yes _ h).mono ?_; rintro e w1 ⟨rfl, hb⟩; obtain ⟨T1, T2, B1⟩ := two_blocks hb; have hz := T2.lt; have hz0 := T1.lt; obtain ⟨⟨c0, c1, c2, c3, c4⟩, f0, f1, f2, f3, f4⟩ := T1.all; obtain ⟨⟨z0, z1, z2, z3, z4⟩, g0, g1, g2, g3, g4⟩ := T2.all; clear hb) | (go_at_call 16; refine (rframe_false _ _ hf).mono ?_; rintro e w1 ⟨rfl, rfl⟩))
      refine bodyPost_ret (v := .tuple #[.agg #[.int .i64 I, .int .i64 B, .int .i64 F, .int .i64 C, .int .i64 S], .bool false]) (by simp [results, Tryd.results19, go_sem, z0, z1, z2, z3, z4]) rfl ⟨rfl, ?_⟩
      repeat first | (with_reducible exact B1) | (with_reducible refine Below.setCell ?_ (by simp <;> omega) _) | (with_reducible refine B_alloc ?_ _) | (with_reducible refine Below.drew ?_) | (with_reducible refine B_drewN ?_ _)

  · clear h
    have h := hk
    by_cases hf' : Pl.frameOk f
    · have hf : 0 ≤ f ∧ f ≤ 999999984 := hf'
      clear hf'
      go_enter Tryd.func19, Tryd.ntmps19
      go_wp2_with (first | (go_at_call 13; refine (rvalid_no _ h).mono ?_; rintro e w1 ⟨rfl, hb⟩; obtain ⟨T1, T2, B1⟩ := two_blocks hb; have hz := T2.lt; have hz0 := T1.lt; obtain ⟨⟨c0, c1, c2, c3, c4⟩, f0, f1, f2, f3, f4⟩ := T1.all; obtain ⟨⟨z0, z1, z2, z3, z4⟩, g0, g1, g2, g3, g4⟩ := T2.all; clear hb) | (go_at_call 16; refine (rframe_true _ _ hf).mono ?_; rintro e w1 ⟨rfl, rfl⟩))
      refine bodyPost_ret (v := .tuple #[.agg #[.int .i64 I, .int .i64 B, .int .i64 F, .int .i64 C, .int .i64 S], .bool false]) (by simp [results, Tryd.results19, go_sem, z0, z1, z2, z3, z4]) rfl ⟨rfl, ?_⟩
      repeat first | (with_reducible exact B1) | (with_reducible refine Below.setCell ?_ (by simp <;> omega) _) | (with_reducible refine B_alloc ?_ _) | (with_reducible refine Below.drew ?_) | (with_reducible refine B_drewN ?_ _)

    · have hf : f < 0 ∨ 999999984 < f := by unfold Pl.frameOk at hf'; omega
      clear hf'
      go_enter Tryd.func19, Tryd.ntmps19
      go_wp2_with (first | (go_at_call 13; refine (rvalid_no _ h).mono ?_; rintro e w1 ⟨rfl, hb⟩; obtain ⟨T1, T2, B1⟩ := two_blocks hb; have hz := T2.lt; have hz0 := T1.lt; obtain ⟨⟨c0, c1, c2, c3, c4⟩, f0, f1, f2, f3, f4⟩ := T1.all; obtain ⟨⟨z0, z1, z2, z3, z4⟩, g0, g1, g2, g3, g4⟩ := T2.all; clear hb) | (go_at_call 16; refine (rframe_false _ _ hf).mono ?_; rintro e w1 ⟨rfl, rfl⟩))
      refine bodyPost_ret (v := .tuple #[.agg #[.int .i64 I, .int .i64 B, .int .i64 F, .int .i64 C, .int .i64 S], .bool false]) (by simp [results, Tryd.results19, go_sem, z0, z1, z2, z3, z4]) rfl ⟨rfl, ?_⟩
      repeat first | (with_reducible exact B1) | (with_reducible refine Below.setCell ?_ (by simp <;> omega) _) | (with_reducible refine B_alloc ?_ _) | (with_reducible refine Below.drew ?_) | (with_reducible refine B_drewN ?_ _)

set_option maxHeartbeats 4000000 in
theorem rtick_in (I B F C S f : Int) (w : World) (h : Pl.Ok I B F C S) (hf : 0 ≤ f ∧ f ≤ 999999984) (h1 : B ≤ f) (h2 : f < B + I) :
    Calls Tryd.prog 19 #[.agg #[.int .i64 I, .int .i64 B, .int .i64 F, .int .i64 C, .int .i64 S], .int .i64 f] w fun e w' => e = .returned (.tuple #[.agg #[.int .i64 I, .int .i64 B, .int .i64 F, .int .i64 C, .int .i64 S], .bool (decide (f = F ∧ C < 2))]) ∧ Below w.heap.size w w' := by
  have hI1 : 1 ≤ I := by unfold Pl.Ok at h; omega
  have hI2 : I ≤ 8 := by unfold Pl.Ok at h; omega
  have hB1 : 0 ≤ B := by unfold Pl.Ok at h; omega
  have hB2 : B ≤ 999999984 := by unfold Pl.Ok at h; omega
  by_cases hF : f = F
  · by_cases hC : C < 2
    · rw [decide_eq_true (⟨hF, hC⟩ : f = F ∧ C < 2)]
      subst hF
      go_enter Tryd.func19, Tryd.ntmps19
      go_wp2_with (first | (go_at_call 13; refine (rvalid_yes _ h).mono ?_; rintro e w1 ⟨rfl, hb⟩; obtain ⟨T1, T2, B1⟩ := two_blocks hb; have hz := T2.lt; have hz0 := T1.lt; obtain ⟨⟨c0, c1, c2, c3, c4⟩, f0, f1, f2, f3, f4⟩ := T1.all; obtain ⟨⟨z0, z1, z2, z3, z4⟩, g0, g1, g2, g3, g4⟩ := T2.all; clear hb) | (go_at_call 16; refine (rframe_true _ _ hf).mono ?_; rintro e w1 ⟨rfl, rfl⟩))
      go_region
      go_wp2_with fail
      refine bodyPost_ret (v := .tuple #[.agg #[.int .i64 I, .int .i64 B, .int .i64 f, .int .i64 C, .int .i64 S], .bool true]) (by simp [results, Tryd.results19, go_sem, z0, z1, z2, z3, z4, hz] <;> omega) rfl ⟨rfl, ?_⟩
      repeat first | (with_reducible exact B1) | (with_reducible refine Below.setCell ?_ (by simp <;> omega) _) | (with_reducible refine B_alloc ?_ _) | (with_reducible refine Below.drew ?_) | (with_reducible refine B_drewN ?_ _)

    · rw [decide_eq_false (fun hh => hC hh.2 : ¬ (f = F ∧ C < 2))]
      subst hF
      go_enter Tryd.func19, Tryd.ntmps19
      go_wp2_with (first | (go_at_call 13; refine (rvalid_yes _ h).mono ?_; rintro e w1 ⟨rfl, hb⟩; obtain ⟨T1, T2, B1⟩ := two_blocks hb; have hz := T2.lt; have hz0 := T1.lt; obtain ⟨⟨c0, c1, c2, c3, c4⟩, f0, f1, f2, f3, f4⟩ := T1.all; obtain ⟨⟨z0, z1, z2, z3, z4⟩, g0, g1, g2, g3, g4⟩ := T2.all; clear hb) | (go_at_call 16; refine (rframe_true _ _ hf).mono ?_; rintro e w1 ⟨rfl, rfl⟩))
      go_region
      go_wp2_with fail
      refine bodyPost_ret (v := .tuple #[.agg #[.int .i64 I, .int .i64 B, .int .i64 f, .int .i64 C, .int .i64 S], .bool false]) (by simp [results, Tryd.results19, go_sem, z0, z1, z2, z3, z4, hz] <;> omega) rfl ⟨rfl, ?_⟩
      repeat first | (with_reducible exact B1) | (with_reducible refine Below.setCell ?_ (by simp <;> omega) _) | (with_reducible refine B_alloc ?_ _) | (with_reducible refine Below.drew ?_) | (with_reducible refine B_drewN ?_ _)

  · rw [decide_eq_false (fun hh => hF hh.1 : ¬ (f = F ∧ C < 2))]
    have hF' : ¬ F = f := fun e => hF e.symm
    have hFb : (F == f) = false := by simpa using hF'
    go_enter Tryd.func19, Tryd.ntmps19
    go_wp2_with (first | (go_at_call 13; refine (rvalid_yes _ h).mono ?_; rintro e w1 ⟨rfl, hb⟩; obtain ⟨T1, T2, B1⟩ := two_blocks hb; have hz := T2.lt; have hz0 := T1.lt; obtain ⟨⟨c0, c1, c2, c3, c4⟩, f0, f1, f2, f3, f4⟩ := T1.all; obtain ⟨⟨z0, z1, z2, z3, z4⟩, g0, g1, g2, g3, g4⟩ := T2.all; clear hb) | (go_at_call 16; refine (rframe_true _ _ hf).mono ?_; rintro e w1 ⟨rfl, rfl⟩))
    go_region
    go_wp2_with fail
    refine bodyPost_ret (v := .tuple #[.agg #[.int .i64 I, .int .i64 B, .int .i64 F, .int .i64 C, .int .i64 S], .bool false]) (by simp [results, Tryd.results19, go_sem, z0, z1, z2, z3, z4, hz]) rfl ⟨rfl, ?_⟩
    repeat first | (with_reducible exact B1) | (with_reducible refine Below.setCell ?_ (by simp <;> omega) _) | (with_reducible refine B_alloc ?_ _) | (with_reducible refine Below.drew ?_) | (with_reducible refine B_drewN ?_ _)

set_option maxHeartbeats 8000000 in
theorem rtick_over (I B F C S f : Int) (w : World) (h : Pl.Ok I B F C S) (hf : 0 ≤ f ∧ f ≤ 999999984) (h1 : B + I ≤ f) :
    Calls Tryd.prog 19 #[.agg #[.int .i64 I, .int .i64 B, .int .i64 F, .int .i64 C, .int .i64 S], .int .i64 f] w fun e w' => e = .returned (.tuple #[.agg #[.int .i64 (min 8 (2 * I)), .int .i64 f, .int .i64 (Pl.fire S (min 8 (2 * I)) f), .int .i64 0, .int .i64 S], .bool false]) ∧ Below w.heap.size w w' := by
  have hI : I = 1 ∨ I = 2 ∨ I = 4 ∨ I = 8 := by unfold Pl.Ok at h; omega
  have hS : 0 ≤ S ∧ S ≤ 1000000000 := by unfold Pl.Ok at h; omega
  have hB1 : 0 ≤ B := by unfold Pl.Ok at h; omega
  have hB2 : B ≤ 999999984 := by unfold Pl.Ok at h; omega
  rcases hI with rfl | rfl | rfl | rfl
  · rw [show min 8 (2 * 1) = (2 : Int) from rfl]
    have hb := Pl.fire_bd S 2 f (by omega)
    obtain ⟨r, hr⟩ : ∃ r, Pl.fire S 2 f = r := ⟨_, rfl⟩
    rw [hr] at hb ⊢
    have hne : ¬ f = r := by omega
    have hne' : ¬ r = f := by omega
    have hFb : (r == f) = false := by simpa using hne'
    clear hb
    replace hr := Lib.hid hr
    go_enter Tryd.func19, Tryd.ntmps19
    go_wp2_with (first | (go_at_call 13; refine (rvalid_yes _ h).mono ?_; rintro e w1 ⟨rfl, hb⟩; obtain ⟨T1, T2, B1⟩ := two_blocks hb; have hz := T2.lt; have hz0 := T1.lt; obtain ⟨⟨c0, c1, c2, c3, c4⟩, f0, f1, f2, f3, f4⟩ := T1.all; obtain ⟨⟨z0, z1, z2, z3, z4⟩, g0, g1, g2, g3, g4⟩ := T2.all; clear hb) | (go_at_call 16; refine (rframe_true _ _ hf).mono ?_; rintro e w1 ⟨rfl, rfl⟩) | (go_at_call 27; refine (interval_any S 2 f _ (by omega) hf hS).mono ?_; rintro e w2 ⟨rfl, B3⟩; rw [hr.out]; obtain ⟨⟨x0, x1, x2, x3, x4⟩, q0, q1, q2, q3, q4⟩ := ((Tm.new w1 23 1 B F C S).below B3).all; obtain ⟨⟨y0, y1, y2, y3, y4⟩, k0, k1, k2, k3, k4⟩ := ((T2.below (B_alloc (Below.refl _ _) _)).below B3).all; have hw2 := ((Tm.new w1 23 1 B F C S).below B3).lt; have B4 := B_trans (B_alloc B1 _) B3; clear B3))
    go_region
    go_wp2_with fail
    refine bodyPost_ret (v := .tuple #[.agg #[.int .i64 2, .int .i64 f, .int .i64 r, .int .i64 0, .int .i64 S], .bool false]) (by simp [results, Tryd.results19, go_sem, y0, y1, y2, y3, y4]) rfl ⟨rfl, ?_⟩
    repeat first | (with_reducible exact B4) | (with_reducible refine Below.setCell ?_ (by simp <;> omega) _) | (with_reducible refine B_alloc ?_ _) | (with_reducible refine Below.drew ?_) | (with_reducible refine B_drewN ?_ _)
  
  · rw [show min 8 (2 * 2) = (4 : Int) from rfl]
    have hb := Pl.fire_bd S 4 f (by omega)
    obtain ⟨r, hr⟩ : ∃ r, Pl.fire S 4 f = r := ⟨_, rfl⟩
    rw [hr] at hb ⊢
    have hne : ¬ f = r := by omega
    have hne' : ¬ r = f := by omega
    have hFb : (r == f) = false := by simpa using hne'
    clear hb
    replace hr := Lib.hid hr
    go_enter Tryd.func19, Tryd.ntmps19
    go_wp2_with (first | (go_at_call 13; refine (rvalid_yes _ h).mono ?_; rintro e w1 ⟨rfl, hb⟩; obtain ⟨T1, T2, B1⟩ := two_blocks hb; have hz := T2.lt; have hz0 := T1.lt; obtain ⟨⟨c0, c1, c2, c3, c4⟩, f0, f1, f2, f3, f4⟩ := T1.all; obtain ⟨⟨z0, z1, z2, z3, z4⟩, g0, g1, g2, g3, g4⟩ := T2.all; clear hb) | (go_at_call 16; refine (rframe_true _ _ hf).mono ?_; rintro e w1 ⟨rfl, rfl⟩) | (go_at_call 27; refine (interval_any S 4 f _ (by omega) hf hS).mono ?_; rintro e w2 ⟨rfl, B3⟩; rw [hr.out]; obtain ⟨⟨x0, x1, x2, x3, x4⟩, q0, q1, q2, q3, q4⟩ := ((Tm.new w1 23 2 B F C S).below B3).all; obtain ⟨⟨y0, y1, y2, y3, y4⟩, k0, k1, k2, k3, k4⟩ := ((T2.below (B_alloc (Below.refl _ _) _)).below B3).all; have hw2 := ((Tm.new w1 23 2 B F C S).below B3).lt; have B4 := B_trans (B_alloc B1 _) B3; clear B3))
    go_region
    go_wp2_with fail
    refine bodyPost_ret (v := .tuple #[.agg #[.int .i64 4, .int .i64 f, .int .i64 r, .int .i64 0, .int .i64 S], .bool false]) (by simp [results, Tryd.results19, go_sem, y0, y1, y2, y3, y4]) rfl ⟨rfl, ?_⟩
    repeat first | (with_reducible exact B4) | (with_reducible refine Below.setCell ?_ (by simp <;> omega) _) | (with_reducible refine B_alloc ?_ _) | (with_reducible refine Below.drew ?_) | (with_reducible refine B_drewN ?_ _)
  
  · rw [show min 8 (2 * 4) = (8 : Int) from rfl]
    have hb := Pl.fire_bd S 8 f (by omega)
    obtain ⟨r, hr⟩ : ∃ r, Pl.fire S 8 f = r := ⟨_, rfl⟩
    rw [hr] at hb ⊢
    have hne : ¬ f = r := by omega
    have hne' : ¬ r = f := by omega
    have hFb : (r == f) = false := by simpa using hne'
    clear hb
    replace hr := Lib.hid hr
    go_enter Tryd.func19, Tryd.ntmps19
    go_wp2_with (first | (go_at_call 13; refine (rvalid_yes _ h).mono ?_; rintro e w1 ⟨rfl, hb⟩; obtain ⟨T1, T2, B1⟩ := two_blocks hb; have hz := T2.lt; have hz0 := T1.lt; obtain ⟨⟨c0, c1, c2, c3, c4⟩, f0, f1, f2, f3, f4⟩ := T1.all; obtain ⟨⟨z0, z1, z2, z3, z4⟩, g0, g1, g2, g3, g4⟩ := T2.all; clear hb) | (go_at_call 16; refine (rframe_true _ _ hf).mono ?_; rintro e w1 ⟨rfl, rfl⟩) | (go_at_call 27; refine (interval_any S 8 f _ (by omega) hf hS).mono ?_; rintro e w2 ⟨rfl, B3⟩; rw [hr.out]; obtain ⟨⟨x0, x1, x2, x3, x4⟩, q0, q1, q2, q3, q4⟩ := ((Tm.new w1 23 4 B F C S).below B3).all; obtain ⟨⟨y0, y1, y2, y3, y4⟩, k0, k1, k2, k3, k4⟩ := ((T2.below (B_alloc (Below.refl _ _) _)).below B3).all; have hw2 := ((Tm.new w1 23 4 B F C S).below B3).lt; have B4 := B_trans (B_alloc B1 _) B3; clear B3))
    go_region
    go_wp2_with fail
    refine bodyPost_ret (v := .tuple #[.agg #[.int .i64 8, .int .i64 f, .int .i64 r, .int .i64 0, .int .i64 S], .bool false]) (by simp [results, Tryd.results19, go_sem, y0, y1, y2, y3, y4]) rfl ⟨rfl, ?_⟩
    repeat first | (with_reducible exact B4) | (with_reducible refine Below.setCell ?_ (by simp <;> omega) _) | (with_reducible refine B_alloc ?_ _) | (with_reducible refine Below.drew ?_) | (with_reducible refine B_drewN ?_ _)
  
  · rw [show min 8 (2 * 8) = (8 : Int) from rfl]
    have hb := Pl.fire_bd S 8 f (by omega)
    obtain ⟨r, hr⟩ : ∃ r, Pl.fire S 8 f = r := ⟨_, rfl⟩
    rw [hr] at hb ⊢
    have hne : ¬ f = r := by omega
    have hne' : ¬ r = f := by omega
    have hFb : (r == f) = false := by simpa using hne'
    clear hb
    replace hr := Lib.hid hr
    go_enter Tryd.func19, Tryd.ntmps19
    go_wp2_with (first | (go_at_call 13; refine (rvalid_yes _ h).mono ?_; rintro e w1 ⟨rfl, hb⟩; obtain ⟨T1, T2, B1⟩ := two_blocks hb; have hz := T2.lt; have hz0 := T1.lt; obtain ⟨⟨c0, c1, c2, c3, c4⟩, f0, f1, f2, f3, f4⟩ := T1.all; obtain ⟨⟨z0, z1, z2, z3, z4⟩, g0, g1, g2, g3, g4⟩ := T2.all; clear hb) | (go_at_call 16; refine (rframe_true _ _ hf).mono ?_; rintro e w1 ⟨rfl, rfl⟩) | (go_at_call 27; refine (interval_any S 8 f _ (by omega) hf hS).mono ?_; rintro e w2 ⟨rfl, B3⟩; rw [hr.out]; obtain ⟨⟨x0, x1, x2, x3, x4⟩, q0, q1, q2, q3, q4⟩ := ((Tm.new w1 23 8 B F C S).below B3).all; obtain ⟨⟨y0, y1, y2, y3, y4⟩, k0, k1, k2, k3, k4⟩ := ((T2.below (B_alloc (Below.refl _ _) _)).below B3).all; have hw2 := ((Tm.new w1 23 8 B F C S).below B3).lt; have B4 := B_trans (B_alloc B1 _) B3; clear B3))
    go_region
    go_wp2_with fail
    refine bodyPost_ret (v := .tuple #[.agg #[.int .i64 8, .int .i64 f, .int .i64 r, .int .i64 0, .int .i64 S], .bool false]) (by simp [results, Tryd.results19, go_sem, y0, y1, y2, y3, y4]) rfl ⟨rfl, ?_⟩
    repeat first | (with_reducible exact B4) | (with_reducible refine Below.setCell ?_ (by simp <;> omega) _) | (with_reducible refine B_alloc ?_ _) | (with_reducible refine Below.drew ?_) | (with_reducible refine B_drewN ?_ _)
end Go.Proofs.YtomfbadniajnlaaDoor
