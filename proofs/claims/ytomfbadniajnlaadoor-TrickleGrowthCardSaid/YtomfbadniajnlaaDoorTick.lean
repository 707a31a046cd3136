/-
  New, Reset, Hear and Tick of package trickle: what they answer. Condition: the table of steps reads as its initialiser lays it.
-/
import Derived.Test.YtomfbadniajnlaaDoorBegin
namespace Go.Proofs.YtomfbadniajnlaaDoor
open Go.RowKit

theorem bcell {W w1 : World} (hb : Below W.heap.size W w1) : (∀ b o, b < W.heap.size → w1.cell? ⟨b, o, none⟩ = W.cell? ⟨b, o, none⟩) ∧ (∀ b o, b < W.heap.size → w1.frozen? ⟨b, o, none⟩ = W.frozen? ⟨b, o, none⟩) :=
  ⟨fun b o h => hb.cell (p := ⟨b, o, none⟩) h, fun b o h => hb.frozen (p := ⟨b, o, none⟩) h⟩
theorem valid_yes {I B F C S : Int} (w : World) (h : Pl.Ok I B F C S) :
    Calls Tryd.prog 23 #[.agg #[.int .i64 I, .int .i64 B, .int .i64 F, .int .i64 C, .int .i64 S]] w fun e w' => e = .returned (.bool true) ∧ Below w.heap.size w w' := by
  have := valid_any I B F C S w; rwa [decide_eq_true h] at this
theorem valid_no {I B F C S : Int} (w : World) (h : ¬ Pl.Ok I B F C S) :
    Calls Tryd.prog 23 #[.agg #[.int .i64 I, .int .i64 B, .int .i64 F, .int .i64 C, .int .i64 S]] w fun e w' => e = .returned (.bool false) ∧ Below w.heap.size w w' := by
  have := valid_any I B F C S w; rwa [decide_eq_false h] at this
theorem rvalid_yes {I B F C S : Int} (w : World) (h : Pl.Ok I B F C S) :
    Calls Tryd.prog 13 #[.agg #[.int .i64 I, .int .i64 B, .int .i64 F, .int .i64 C, .int .i64 S]] w fun e w' => e = .returned (.bool true) ∧ Below w.heap.size w w' := by
  have := rvalid_any I B F C S w; rwa [decide_eq_true h] at this
theorem rvalid_no {I B F C S : Int} (w : World) (h : ¬ Pl.Ok I B F C S) :
    Calls Tryd.prog 13 #[.agg #[.int .i64 I, .int .i64 B, .int .i64 F, .int .i64 C, .int .i64 S]] w fun e w' => e = .returned (.bool false) ∧ Below w.heap.size w w' := by
  have := rvalid_any I B F C S w; rwa [decide_eq_false h] at this

/-- The value of a timer, and with an answer. -/
def tv (t : Pl.T) : Value := .agg #[.int .i64 t.I, .int .i64 t.B, .int .i64 t.F, .int .i64 t.C, .int .i64 t.S]

theorem Ok_mk {I B F C S : Int} (h : Pl.Ok I B F C S) : (Pl.T.mk I B F C S).Ok := h
theorem Tm.new (w : World) (t : TypeId) (I B F C S : Int) : Tm (w.alloc (.cells #[.int .i64 I, .int .i64 B, .int .i64 F, .int .i64 C, .int .i64 S] t)) w.heap.size t I B F C S := World.alloc_heap_new w _
theorem Tm.all {W : World} {b : Nat} {t : TypeId} {I B F C S : Int} (h : Tm W b t I B F C S) :
    (W.cell? ⟨b, 0, none⟩ = some (.int .i64 I) ∧ W.cell? ⟨b, 1, none⟩ = some (.int .i64 B) ∧ W.cell? ⟨b, 2, none⟩ = some (.int .i64 F) ∧ W.cell? ⟨b, 3, none⟩ = some (.int .i64 C) ∧ W.cell? ⟨b, 4, none⟩ = some (.int .i64 S)) ∧
    (W.frozen? ⟨b, 0, none⟩ = false ∧ W.frozen? ⟨b, 1, none⟩ = false ∧ W.frozen? ⟨b, 2, none⟩ = false ∧ W.frozen? ⟨b, 3, none⟩ = false ∧ W.frozen? ⟨b, 4, none⟩ = false) :=
  ⟨h.cells, h.frozen 0, h.frozen 1, h.frozen 2, h.frozen 3, h.frozen 4⟩
/-- Behind a call that follows the two blocks of a function over a timer. -/
theorem two_blocks {w w1 : World} {I B F C S : Int}
    (hb : Below ((w.alloc (.cells #[.int .i64 I, .int .i64 B, .int .i64 F, .int .i64 C, .int .i64 S] 23)).alloc (.cells #[.int .i64 0, .int .i64 0, .int .i64 0, .int .i64 0, .int .i64 0] 23)).heap.size ((w.alloc (.cells #[.int .i64 I, .int .i64 B, .int .i64 F, .int .i64 C, .int .i64 S] 23)).alloc (.cells #[.int .i64 0, .int .i64 0, .int .i64 0, .int .i64 0, .int .i64 0] 23)) w1) :
    Tm w1 w.heap.size 23 I B F C S ∧ Tm w1 (w.heap.size + 1) 23 0 0 0 0 0 ∧ Below w.heap.size w w1 := by
  have t1 := (Tm.new w 23 I B F C S).below ((Below.refl _ _).alloc (Nat.le_refl _) (.cells #[.int .i64 0, .int .i64 0, .int .i64 0, .int .i64 0, .int .i64 0] 23))
  have t2 := Tm.new (w.alloc (.cells #[.int .i64 I, .int .i64 B, .int .i64 F, .int .i64 C, .int .i64 S] 23)) 23 0 0 0 0 0
  rw [World.size_alloc] at t2
  exact ⟨t1.below hb, t2.below hb, B_trans (B_alloc (B_alloc (Below.refl _ _) _) _) hb⟩

set_option maxHeartbeats 1000000 in
theorem hear_any (I B F C S : Int) (w : World) :
    Calls Tryd.prog 15 #[.agg #[.int .i64 I, .int .i64 B, .int .i64 F, .int .i64 C, .int .i64 S]] w fun e w' => e = .returned (tv (Pl.hear ⟨I, B, F, C, S⟩)) ∧ Below w.heap.size w w' := by
  by_cases h : Pl.Ok I B F C S
  · have hC : 0 ≤ C ∧ C ≤ 100 := by unfold Pl.Ok at h; omega
    obtain ⟨hC1, hC2⟩ := hC
    rw [show Pl.hear ⟨I, B, F, C, S⟩ = ⟨I, B, F, min 100 (C + 1), S⟩ from by rw [Pl.hear, if_pos (Ok_mk h)]]
    unfold tv
    rcases (show C < 99 ∨ C = 99 ∨ C = 100 by omega) with h99 | rfl | rfl
    · have e1 : min 100 (C + 1) = C + 1 := by omega
      rw [e1]; clear e1
      go_enter Tryd.func15, Tryd.ntmps15
      go_wp2_with (go_at_call 23; refine (valid_yes _ h).mono ?_; rintro e w1 ⟨rfl, hb⟩; obtain ⟨T1, T2, B1⟩ := two_blocks hb; obtain ⟨⟨c0, c1, c2, c3, c4⟩, f0, f1, f2, f3, f4⟩ := T1.all; obtain ⟨⟨z0, z1, z2, z3, z4⟩, g0, g1, g2, g3, g4⟩ := T2.all; clear hb)
      · refine bodyPost_ret (v := .agg #[.int .i64 I, .int .i64 B, .int .i64 F, .int .i64 (C + 1), .int .i64 S]) (by simp [results, Tryd.results15, go_sem, z0, z1, z2, z3, z4]) rfl ⟨rfl, ?_⟩
        repeat first | (with_reducible exact B1) | (with_reducible refine Below.setCell ?_ (by simp) _)
    all_goals
      go_enter Tryd.func15, Tryd.ntmps15
      go_wp2_with (go_at_call 23; refine (valid_yes _ h).mono ?_; rintro e w1 ⟨rfl, hb⟩; obtain ⟨T1, T2, B1⟩ := two_blocks hb; obtain ⟨⟨c0, c1, c2, c3, c4⟩, f0, f1, f2, f3, f4⟩ := T1.all; obtain ⟨⟨z0, z1, z2, z3, z4⟩, g0, g1, g2, g3, g4⟩ := T2.all; clear hb)
      refine bodyPost_ret (v := .agg #[.int .i64 I, .int .i64 B, .int .i64 F, .int .i64 100, .int .i64 S]) (by simp [results, Tryd.results15, go_sem, z0, z1, z2, z3, z4]) rfl ⟨rfl, ?_⟩
      repeat first | (with_reducible exact B1) | (with_reducible refine Below.setCell ?_ (by simp) _)
  · rw [show Pl.hear ⟨I, B, F, C, S⟩ = ⟨I, B, F, C, S⟩ from if_neg (fun hh => h hh)]
    unfold tv
    go_enter Tryd.func15, Tryd.ntmps15
    go_wp2_with (go_at_call 23; refine (valid_no _ h).mono ?_; rintro e w1 ⟨rfl, hb⟩; obtain ⟨T1, T2, B1⟩ := two_blocks hb; obtain ⟨⟨c0, c1, c2, c3, c4⟩, f0, f1, f2, f3, f4⟩ := T1.all; obtain ⟨⟨z0, z1, z2, z3, z4⟩, g0, g1, g2, g3, g4⟩ := T2.all; clear hb)
    refine bodyPost_ret (v := .agg #[.int .i64 I, .int .i64 B, .int .i64 F, .int .i64 C, .int .i64 S]) (by simp [results, Tryd.results15, go_sem, z0, z1, z2, z3, z4]) rfl ⟨rfl, ?_⟩
    repeat first | (with_reducible exact B1) | (with_reducible refine Below.setCell ?_ (by simp) _)
-- GENERATED
set_option maxHeartbeats 1000000 in
theorem rhear_any (I B F C S : Int) (w : World) :
    Calls Tryd.prog 22 #[.agg #[.int .i64 I, .int .i64 B, .int .i64 F, .int .i64 C, .int .i64 S]] w fun e w' => e = .returned (tv (Pl.hear ⟨I, B, F, C, S⟩)) ∧ Below w.heap.size w w' := by
  by_cases h : Pl.Ok I B F C S
  · have hC : 0 ≤ C ∧ C ≤ 100 := by unfold Pl.Ok at h; omega
    obtain ⟨hC1, hC2⟩ := hC
    rw [show Pl.hear ⟨I, B, F, C, S⟩ = ⟨I, B, F, min 100 (C + 1), S⟩ from by rw [Pl.hear, if_pos (Ok_mk h)]]
    unfold tv
    rcases (show C < 100 ∨ C = 100 by omega) with h99 | rfl
    · have e1 : min 100 (C + 1) = C + 1 := by omega
      rw [e1]; clear e1
      go_enter Tryd.func22, Tryd.ntmps22
      go_wp2_with (go_at_call 13; refine (rvalid_yes _ h).mono ?_; rintro e w1 ⟨rfl, hb⟩; obtain ⟨T1, T2, B1⟩ := two_blocks hb; obtain ⟨⟨c0, c1, c2, c3, c4⟩, f0, f1, f2, f3, f4⟩ := T1.all; obtain ⟨⟨z0, z1, z2, z3, z4⟩, g0, g1, g2, g3, g4⟩ := T2.all; clear hb)
      refine bodyPost_ret (v := .agg #[.int .i64 I, .int .i64 B, .int .i64 F, .int .i64 (C + 1), .int .i64 S]) (by simp [results, Tryd.results22, go_sem, z0, z1, z2, z3, z4]) rfl ⟨rfl, ?_⟩
      repeat first | (with_reducible exact B1) | (with_reducible refine Below.setCell ?_ (by simp) _)
    · go_enter Tryd.func22, Tryd.ntmps22
      go_wp2_with (go_at_call 13; refine (rvalid_yes _ h).mono ?_; rintro e w1 ⟨rfl, hb⟩; obtain ⟨T1, T2, B1⟩ := two_blocks hb; obtain ⟨⟨c0, c1, c2, c3, c4⟩, f0, f1, f2, f3, f4⟩ := T1.all; obtain ⟨⟨z0, z1, z2, z3, z4⟩, g0, g1, g2, g3, g4⟩ := T2.all; clear hb)
      refine bodyPost_ret (v := .agg #[.int .i64 I, .int .i64 B, .int .i64 F, .int .i64 100, .int .i64 S]) (by simp [results, Tryd.results22, go_sem, z0, z1, z2, z3, z4]) rfl ⟨rfl, ?_⟩
      repeat first | (with_reducible exact B1) | (with_reducible refine Below.setCell ?_ (by simp) _)
  · rw [show Pl.hear ⟨I, B, F, C, S⟩ = ⟨I, B, F, C, S⟩ from if_neg (fun hh => h hh)]
    unfold tv
    go_enter Tryd.func22, Tryd.ntmps22
    go_wp2_with (go_at_call 13; refine (rvalid_no _ h).mono ?_; rintro e w1 ⟨rfl, hb⟩; obtain ⟨T1, T2, B1⟩ := two_blocks hb; obtain ⟨⟨c0, c1, c2, c3, c4⟩, f0, f1, f2, f3, f4⟩ := T1.all; obtain ⟨⟨z0, z1, z2, z3, z4⟩, g0, g1, g2, g3, g4⟩ := T2.all; clear hb)
    refine bodyPost_ret (v := .agg #[.int .i64 I, .int .i64 B, .int .i64 F, .int .i64 C, .int .i64 S]) (by simp [results, Tryd.results22, go_sem, z0, z1, z2, z3, z4]) rfl ⟨rfl, ?_⟩
    repeat first | (with_reducible exact B1) | (with_reducible refine Below.setCell ?_ (by simp) _)
set_option maxHeartbeats 4000000 in
theorem reset_any (I B F C S f : Int) (w : World) (hL : Laid w) :
    Calls Tryd.prog 20 #[.agg #[.int .i64 I, .int .i64 B, .int .i64 F, .int .i64 C, .int .i64 S], .int .i64 f] w fun e w' => e = .returned (tv (Pl.reset ⟨I, B, F, C, S⟩ f)) ∧ Below w.heap.size w w' := by
  by_cases h : Pl.Ok I B F C S
  · have hS : 0 ≤ S ∧ S ≤ 1000000000 := by unfold Pl.Ok at h; omega
    by_cases hf' : Pl.frameOk f
    · have hf : 0 ≤ f ∧ f ≤ 999999984 := hf'
      by_cases hI : I = 1
      · rw [show Pl.reset ⟨I, B, F, C, S⟩ f = ⟨I, B, F, C, S⟩ from if_neg (fun hh => hh.2.2 hI)]
        unfold tv
        subst hI
        go_enter Tryd.func20, Tryd.ntmps20
        go_wp2_with (first | (go_at_call 23; refine (valid_yes _ h).mono ?_; rintro e w1 ⟨rfl, hb⟩; obtain ⟨T1, T2, B1⟩ := two_blocks hb; obtain ⟨⟨c0, c1, c2, c3, c4⟩, f0, f1, f2, f3, f4⟩ := T1.all; obtain ⟨⟨z0, z1, z2, z3, z4⟩, g0, g1, g2, g3, g4⟩ := T2.all; clear hb) | (go_at_call 24; refine (frame_true _ _ hf).mono ?_; rintro e w1 ⟨rfl, rfl⟩))
        refine bodyPost_ret (v := .agg #[.int .i64 1, .int .i64 B, .int .i64 F, .int .i64 C, .int .i64 S]) (by simp [results, Tryd.results20, go_sem, z0, z1, z2, z3, z4]) rfl ⟨rfl, ?_⟩
        repeat first | (with_reducible exact B1) | (with_reducible refine Below.setCell ?_ (by simp) _)

      · rw [show Pl.reset ⟨I, B, F, C, S⟩ f = Pl.start S 1 f from if_pos ⟨h, hf', hI⟩]
        unfold tv Pl.start
        simp only
        clear hf'
        go_enter Tryd.func20, Tryd.ntmps20
        go_wp2_with (first | (go_at_call 23; refine (valid_yes _ h).mono ?_; rintro e w1 ⟨rfl, hb⟩; obtain ⟨T1, T2, B1⟩ := two_blocks hb; obtain ⟨⟨c0, c1, c2, c3, c4⟩, f0, f1, f2, f3, f4⟩ := T1.all; obtain ⟨⟨z0, z1, z2, z3, z4⟩, g0, g1, g2, g3, g4⟩ := T2.all; clear hb) | (go_at_call 24; refine (frame_true _ _ hf).mono ?_; rintro e w1 ⟨rfl, rfl⟩) | (go_at_call 25; refine (begin_any _ 1 f I B F C S _ (Tm.new w1 42 I B F C S) (by have := T2.lt; omega) (.inl rfl) hf hS (hL.upto (B_alloc B1 _) hL.pos)).mono ?_; rintro e w2 ⟨rfl, T3, B3⟩; obtain ⟨⟨x0, x1, x2, x3, x4⟩, _, _, _, _, _⟩ := T3.all; obtain ⟨⟨y0, y1, y2, y3, y4⟩, k0, k1, k2, k3, k4⟩ := ((T2.below (B_alloc (Below.refl _ _) _)).upto B3 T2.lt).all; have B4 := (B_alloc B1 _).trans (B3.mono B1.size); clear B3 T3 hf))
        refine bodyPost_ret (v := .agg #[.int .i64 1, .int .i64 f, .int .i64 (Pl.fire S 1 f), .int .i64 0, .int .i64 S]) (by simp [results, Tryd.results20, go_sem, y0, y1, y2, y3, y4]) rfl ⟨rfl, ?_⟩
        repeat first | (with_reducible exact B4) | (with_reducible refine Below.setCell ?_ (by simp) _)
    · rw [show Pl.reset ⟨I, B, F, C, S⟩ f = ⟨I, B, F, C, S⟩ from if_neg (fun hh => hf' hh.2.1)]
      unfold tv
      have hf : f < 0 ∨ 999999984 < f := by unfold Pl.frameOk at hf'; omega
      clear hf'
      go_enter Tryd.func20, Tryd.ntmps20
      go_wp2_with (first | (go_at_call 23; refine (valid_yes _ h).mono ?_; rintro e w1 ⟨rfl, hb⟩; obtain ⟨T1, T2, B1⟩ := two_blocks hb; obtain ⟨⟨c0, c1, c2, c3, c4⟩, f0, f1, f2, f3, f4⟩ := T1.all; obtain ⟨⟨z0, z1, z2, z3, z4⟩, g0, g1, g2, g3, g4⟩ := T2.all; clear hb) | (go_at_call 24; refine (frame_false _ _ hf).mono ?_; rintro e w1 ⟨rfl, rfl⟩))
      refine bodyPost_ret (v := .agg #[.int .i64 I, .int .i64 B, .int .i64 F, .int .i64 C, .int .i64 S]) (by simp [results, Tryd.results20, go_sem, z0, z1, z2, z3, z4]) rfl ⟨rfl, ?_⟩
      repeat first | (with_reducible exact B1) | (with_reducible refine Below.setCell ?_ (by simp) _)

  · rw [show Pl.reset ⟨I, B, F, C, S⟩ f = ⟨I, B, F, C, S⟩ from if_neg (fun hh => h hh.1)]
    unfold tv
    by_cases hf' : Pl.frameOk f
    · have hf : 0 ≤ f ∧ f ≤ 999999984 := hf'
      clear hf'
      go_enter Tryd.func20, Tryd.ntmps20
      go_wp2_with (first | (go_at_call 23; refine (valid_no _ h).mono ?_; rintro e w1 ⟨rfl, hb⟩; obtain ⟨T1, T2, B1⟩ := two_blocks hb; obtain ⟨⟨c0, c1, c2, c3, c4⟩, f0, f1, f2, f3, f4⟩ := T1.all; obtain ⟨⟨z0, z1, z2, z3, z4⟩, g0, g1, g2, g3, g4⟩ := T2.all; clear hb) | (go_at_call 24; refine (frame_true _ _ hf).mono ?_; rintro e w1 ⟨rfl, rfl⟩))
      refine bodyPost_ret (v := .agg #[.int .i64 I, .int .i64 B, .int .i64 F, .int .i64 C, .int .i64 S]) (by simp [results, Tryd.results20, go_sem, z0, z1, z2, z3, z4]) rfl ⟨rfl, ?_⟩
      repeat first | (with_reducible exact B1) | (with_reducible refine Below.setCell ?_ (by simp) _)

    · have hf : f < 0 ∨ 999999984 < f := by unfold Pl.frameOk at hf'; omega
      clear hf'
      go_enter Tryd.func20, Tryd.ntmps20
      go_wp2_with (first | (go_at_call 23; refine (valid_no _ h).mono ?_; rintro e w1 ⟨rfl, hb⟩; obtain ⟨T1, T2, B1⟩ := two_blocks hb; obtain ⟨⟨c0, c1, c2, c3, c4⟩, f0, f1, f2, f3, f4⟩ := T1.all; obtain ⟨⟨z0, z1, z2, z3, z4⟩, g0, g1, g2, g3, g4⟩ := T2.all; clear hb) | (go_at_call 24; refine (frame_false _ _ hf).mono ?_; rintro e w1 ⟨rfl, rfl⟩))
      refine bodyPost_ret (v := .agg #[.int .i64 I, .int .i64 B, .int .i64 F, .int .i64 C, .int .i64 S]) (by simp [results, Tryd.results20, go_sem, z0, z1, z2, z3, z4]) rfl ⟨rfl, ?_⟩
      repeat first | (with_reducible exact B1) | (with_reducible refine Below.setCell ?_ (by simp) _)

set_option maxHeartbeats 4000000 in
theorem rreset_any (I B F C S f : Int) (w : World) :
    Calls Tryd.prog 21 #[.agg #[.int .i64 I, .int .i64 B, .int .i64 F, .int .i64 C, .int .i64 S], .int .i64 f] w fun e w' => e = .returned (tv (Pl.reset ⟨I, B, F, C, S⟩ f)) ∧ Below w.heap.size w w' := by
  by_cases h : Pl.Ok I B F C S
  · have hS : 0 ≤ S ∧ S ≤ 1000000000 := by unfold Pl.Ok at h; omega
    by_cases hf' : Pl.frameOk f
    · have hf : 0 ≤ f ∧ f ≤ 999999984 := hf'
      by_cases hI : I = 1
      · rw [show Pl.reset ⟨I, B, F, C, S⟩ f = ⟨I, B, F, C, S⟩ from if_neg (fun hh => hh.2.2 hI)]
        unfold tv
        subst hI
        go_enter Tryd.func21, Tryd.ntmps21
        go_wp2_with (first | (go_at_call 13; refine (rvalid_yes _ h).mono ?_; rintro e w1 ⟨rfl, hb⟩; obtain ⟨T1, T2, B1⟩ := two_blocks hb; obtain ⟨⟨c0, c1, c2, c3, c4⟩, f0, f1, f2, f3, f4⟩ := T1.all; obtain ⟨⟨z0, z1, z2, z3, z4⟩, g0, g1, g2, g3, g4⟩ := T2.all; clear hb) | (go_at_call 16; refine (rframe_true _ _ hf).mono ?_; rintro e w1 ⟨rfl, rfl⟩))
        refine bodyPost_ret (v := .agg #[.int .i64 1, .int .i64 B, .int .i64 F, .int .i64 C, .int .i64 S]) (by simp [results, Tryd.results21, go_sem, z0, z1, z2, z3, z4]) rfl ⟨rfl, ?_⟩
        repeat first | (with_reducible exact B1) | (with_reducible refine Below.setCell ?_ (by simp) _)

      · rw [show Pl.reset ⟨I, B, F, C, S⟩ f = Pl.start S 1 f from if_pos ⟨h, hf', hI⟩]
        unfold tv Pl.start
        simp only
        clear hf'
        go_enter Tryd.func21, Tryd.ntmps21
        go_wp2_with (first | (go_at_call 13; refine (rvalid_yes _ h).mono ?_; rintro e w1 ⟨rfl, hb⟩; obtain ⟨T1, T2, B1⟩ := two_blocks hb; obtain ⟨⟨c0, c1, c2, c3, c4⟩, f0, f1, f2, f3, f4⟩ := T1.all; obtain ⟨⟨z0, z1, z2, z3, z4⟩, g0, g1, g2, g3, g4⟩ := T2.all; clear hb) | (go_at_call 16; refine (rframe_true _ _ hf).mono ?_; rintro e w1 ⟨rfl, rfl⟩) | (go_at_call 27; refine (interval_any S 1 f _ (.inl rfl) hf hS).mono ?_; rintro e w2 ⟨rfl, B3⟩; obtain ⟨⟨y0, y1, y2, y3, y4⟩, k0, k1, k2, k3, k4⟩ := (T2.below B3).all; have B4 := B_trans B1 B3; clear B3))
        refine bodyPost_ret (v := .agg #[.int .i64 1, .int .i64 f, .int .i64 (Pl.fire S 1 f), .int .i64 0, .int .i64 S]) (by simp [results, Tryd.results21, go_sem, y0, y1, y2, y3, y4]) rfl ⟨rfl, ?_⟩
        repeat first | (with_reducible exact B4) | (with_reducible refine Below.setCell ?_ (by simp) _)
    · rw [show Pl.reset ⟨I, B, F, C, S⟩ f = ⟨I, B, F, C, S⟩ from if_neg (fun hh => hf' hh.2.1)]
      unfold tv
      have hf : f < 0 ∨ 999999984 < f := by unfold Pl.frameOk at hf'; omega
      clear hf'
      go_enter Tryd.func21, Tryd.ntmps21
      go_wp2_with (first | (go_at_call 13; refine (rvalid_yes _ h).mono ?_; rintro e w1 ⟨rfl, hb⟩; obtain ⟨T1, T2, B1⟩ := two_blocks hb; obtain ⟨⟨c0, c1, c2, c3, c4⟩, f0, f1, f2, f3, f4⟩ := T1.all; obtain ⟨⟨z0, z1, z2, z3, z4⟩, g0, g1, g2, g3, g4⟩ := T2.all; clear hb) | (go_at_call 16; refine (rframe_false _ _ hf).mono ?_; rintro e w1 ⟨rfl, rfl⟩))
      refine bodyPost_ret (v := .agg #[.int .i64 I, .int .i64 B, .int .i64 F, .int .i64 C, .int .i64 S]) (by simp [results, Tryd.results21, go_sem, z0, z1, z2, z3, z4]) rfl ⟨rfl, ?_⟩
      repeat first | (with_reducible exact B1) | (with_reducible refine Below.setCell ?_ (by simp) _)

  · rw [show Pl.reset ⟨I, B, F, C, S⟩ f = ⟨I, B, F, C, S⟩ from if_neg (fun hh => h hh.1)]
    unfold tv
    by_cases hf' : Pl.frameOk f
    · have hf : 0 ≤ f ∧ f ≤ 999999984 := hf'
      clear hf'
      go_enter Tryd.func21, Tryd.ntmps21
      go_wp2_with (first | (go_at_call 13; refine (rvalid_no _ h).mono ?_; rintro e w1 ⟨rfl, hb⟩; obtain ⟨T1, T2, B1⟩ := two_blocks hb; obtain ⟨⟨c0, c1, c2, c3, c4⟩, f0, f1, f2, f3, f4⟩ := T1.all; obtain ⟨⟨z0, z1, z2, z3, z4⟩, g0, g1, g2, g3, g4⟩ := T2.all; clear hb) | (go_at_call 16; refine (rframe_true _ _ hf).mono ?_; rintro e w1 ⟨rfl, rfl⟩))
      refine bodyPost_ret (v := .agg #[.int .i64 I, .int .i64 B, .int .i64 F, .int .i64 C, .int .i64 S]) (by simp [results, Tryd.results21, go_sem, z0, z1, z2, z3, z4]) rfl ⟨rfl, ?_⟩
      repeat first | (with_reducible exact B1) | (with_reducible refine Below.setCell ?_ (by simp) _)

    · have hf : f < 0 ∨ 999999984 < f := by unfold Pl.frameOk at hf'; omega
      clear hf'
      go_enter Tryd.func21, Tryd.ntmps21
      go_wp2_with (first | (go_at_call 13; refine (rvalid_no _ h).mono ?_; rintro e w1 ⟨rfl, hb⟩; obtain ⟨T1, T2, B1⟩ := two_blocks hb; obtain ⟨⟨c0, c1, c2, c3, c4⟩, f0, f1, f2, f3, f4⟩ := T1.all; obtain ⟨⟨z0, z1, z2, z3, z4⟩, g0, g1, g2, g3, g4⟩ := T2.all; clear hb) | (go_at_call 16; refine (rframe_false _ _ hf).mono ?_; rintro e w1 ⟨rfl, rfl⟩))
      refine bodyPost_ret (v := .agg #[.int .i64 I, .int .i64 B, .int .i64 F, .int .i64 C, .int .i64 S]) (by simp [results, Tryd.results21, go_sem, z0, z1, z2, z3, z4]) rfl ⟨rfl, ?_⟩
      repeat first | (with_reducible exact B1) | (with_reducible refine Below.setCell ?_ (by simp) _)

end Go.Proofs.YtomfbadniajnlaaDoor
