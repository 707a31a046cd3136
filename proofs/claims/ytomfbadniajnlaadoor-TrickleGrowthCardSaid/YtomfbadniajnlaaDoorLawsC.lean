/-
  The law TrickleMatchesReference: it returns true. Condition: the table of steps reads as its initialiser lays it.
-/
import Derived.Test.YtomfbadniajnlaaDoorLawsB
import Derived.Deep.RegionHeld3
namespace Go.Proofs.YtomfbadniajnlaaDoor
open Go.RowKit

theorem rreset_T (t u : Pl.T) (f : Int) (w : World) (h : Pl.reset t f = u) :
    Calls Tryd.prog 21 #[.agg #[.int .i64 t.I, .int .i64 t.B, .int .i64 t.F, .int .i64 t.C, .int .i64 t.S], .int .i64 f] w fun e w' => e = .returned (.agg #[.int .i64 u.I, .int .i64 u.B, .int .i64 u.F, .int .i64 u.C, .int .i64 u.S]) ∧ Below w.heap.size w w' := by
  subst h; exact rreset_any t.I t.B t.F t.C t.S f w
theorem rhear_T (t u : Pl.T) (w : World) (h : Pl.hear t = u) :
    Calls Tryd.prog 22 #[.agg #[.int .i64 t.I, .int .i64 t.B, .int .i64 t.F, .int .i64 t.C, .int .i64 t.S]] w fun e w' => e = .returned (.agg #[.int .i64 u.I, .int .i64 u.B, .int .i64 u.F, .int .i64 u.C, .int .i64 u.S]) ∧ Below w.heap.size w w' := by
  subst h; exact rhear_any t.I t.B t.F t.C t.S w
theorem rtick_T (t u : Pl.T) (s : Bool) (f : Int) (w : World) (h : Pl.tickT t f = u) (h2 : Pl.tickB t f = s) :
    Calls Tryd.prog 19 #[.agg #[.int .i64 t.I, .int .i64 t.B, .int .i64 t.F, .int .i64 t.C, .int .i64 t.S], .int .i64 f] w fun e w' => e = .returned (.tuple #[.agg #[.int .i64 u.I, .int .i64 u.B, .int .i64 u.F, .int .i64 u.C, .int .i64 u.S], .bool s]) ∧ Below w.heap.size w w' := by
  subst h h2; exact rtick_any t f w
theorem news (S f : Int) : ∃ (n : Pl.T) (er : Int), (∀ w, Laid w → Calls Tryd.prog 17 #[.int .i64 S, .int .i64 f] w fun e w' => e = .returned (.tuple #[.agg #[.int .i64 n.I, .int .i64 n.B, .int .i64 n.F, .int .i64 n.C, .int .i64 n.S], .int .i64 er]) ∧ Below w.heap.size w w') ∧
    (∀ w, Calls Tryd.prog 18 #[.int .i64 S, .int .i64 f] w fun e w' => e = .returned (.tuple #[.agg #[.int .i64 n.I, .int .i64 n.B, .int .i64 n.F, .int .i64 n.C, .int .i64 n.S], .int .i64 er]) ∧ Below w.heap.size w w') := by
  by_cases h : (0 ≤ S ∧ S ≤ 1000000000) ∧ (0 ≤ f ∧ f ≤ 999999984)
  · exact ⟨Pl.start S 1 f, 0, fun w hL => new_ok S f w h.1 h.2 hL, fun w => rnew_ok S f w h.1 h.2⟩
  · exact ⟨⟨0, 0, 0, 0, 0⟩, 1, fun w _ => new_bad S f w (by omega), fun w => rnew_bad S f w (by omega)⟩

theorem keep25 {w W W' : World} {b0 b1 b2 b3 b4 : Nat} {t n u : Pl.T} (h : W.cell? ⟨b0, 0, none⟩ = some (.int .i64 t.I) ∧ W.cell? ⟨b0, 1, none⟩ = some (.int .i64 t.B) ∧ W.cell? ⟨b0, 2, none⟩ = some (.int .i64 t.F) ∧ W.cell? ⟨b0, 3, none⟩ = some (.int .i64 t.C) ∧ W.cell? ⟨b0, 4, none⟩ = some (.int .i64 t.S) ∧ W.cell? ⟨b1, 0, none⟩ = some (.int .i64 n.I) ∧ W.cell? ⟨b1, 1, none⟩ = some (.int .i64 n.B) ∧ W.cell? ⟨b1, 2, none⟩ = some (.int .i64 n.F) ∧ W.cell? ⟨b1, 3, none⟩ = some (.int .i64 n.C) ∧ W.cell? ⟨b1, 4, none⟩ = some (.int .i64 n.S) ∧ W.cell? ⟨b2, 0, none⟩ = some (.int .i64 n.I) ∧ W.cell? ⟨b2, 1, none⟩ = some (.int .i64 n.B) ∧ W.cell? ⟨b2, 2, none⟩ = some (.int .i64 n.F) ∧ W.cell? ⟨b2, 3, none⟩ = some (.int .i64 n.C) ∧ W.cell? ⟨b2, 4, none⟩ = some (.int .i64 n.S) ∧ W.cell? ⟨b3, 0, none⟩ = some (.int .i64 u.I) ∧ W.cell? ⟨b3, 1, none⟩ = some (.int .i64 u.B) ∧ W.cell? ⟨b3, 2, none⟩ = some (.int .i64 u.F) ∧ W.cell? ⟨b3, 3, none⟩ = some (.int .i64 u.C) ∧ W.cell? ⟨b3, 4, none⟩ = some (.int .i64 u.S) ∧ W.cell? ⟨b4, 0, none⟩ = some (.int .i64 u.I) ∧ W.cell? ⟨b4, 1, none⟩ = some (.int .i64 u.B) ∧ W.cell? ⟨b4, 2, none⟩ = some (.int .i64 u.F) ∧ W.cell? ⟨b4, 3, none⟩ = some (.int .i64 u.C) ∧ W.cell? ⟨b4, 4, none⟩ = some (.int .i64 u.S) ∧ Below w.heap.size w W ∧ Laid W) (hb : Below W.heap.size W W') :
    W'.cell? ⟨b0, 0, none⟩ = some (.int .i64 t.I) ∧ W'.cell? ⟨b0, 1, none⟩ = some (.int .i64 t.B) ∧ W'.cell? ⟨b0, 2, none⟩ = some (.int .i64 t.F) ∧ W'.cell? ⟨b0, 3, none⟩ = some (.int .i64 t.C) ∧ W'.cell? ⟨b0, 4, none⟩ = some (.int .i64 t.S) ∧ W'.cell? ⟨b1, 0, none⟩ = some (.int .i64 n.I) ∧ W'.cell? ⟨b1, 1, none⟩ = some (.int .i64 n.B) ∧ W'.cell? ⟨b1, 2, none⟩ = some (.int .i64 n.F) ∧ W'.cell? ⟨b1, 3, none⟩ = some (.int .i64 n.C) ∧ W'.cell? ⟨b1, 4, none⟩ = some (.int .i64 n.S) ∧ W'.cell? ⟨b2, 0, none⟩ = some (.int .i64 n.I) ∧ W'.cell? ⟨b2, 1, none⟩ = some (.int .i64 n.B) ∧ W'.cell? ⟨b2, 2, none⟩ = some (.int .i64 n.F) ∧ W'.cell? ⟨b2, 3, none⟩ = some (.int .i64 n.C) ∧ W'.cell? ⟨b2, 4, none⟩ = some (.int .i64 n.S) ∧ W'.cell? ⟨b3, 0, none⟩ = some (.int .i64 u.I) ∧ W'.cell? ⟨b3, 1, none⟩ = some (.int .i64 u.B) ∧ W'.cell? ⟨b3, 2, none⟩ = some (.int .i64 u.F) ∧ W'.cell? ⟨b3, 3, none⟩ = some (.int .i64 u.C) ∧ W'.cell? ⟨b3, 4, none⟩ = some (.int .i64 u.S) ∧ W'.cell? ⟨b4, 0, none⟩ = some (.int .i64 u.I) ∧ W'.cell? ⟨b4, 1, none⟩ = some (.int .i64 u.B) ∧ W'.cell? ⟨b4, 2, none⟩ = some (.int .i64 u.F) ∧ W'.cell? ⟨b4, 3, none⟩ = some (.int .i64 u.C) ∧ W'.cell? ⟨b4, 4, none⟩ = some (.int .i64 u.S) ∧ Below w.heap.size w W' ∧ Laid W' := by
  have K : ∀ {g o : Nat} {v : Value}, W.cell? ⟨g, o, none⟩ = some v → W'.cell? ⟨g, o, none⟩ = some v := fun {g o v} hc => (hb.cell (p := ⟨g, o, none⟩) (cell_lt hc)).trans hc
  obtain ⟨c0, c1, c2, c3, c4, c5, c6, c7, c8, c9, c10, c11, c12, c13, c14, c15, c16, c17, c18, c19, c20, c21, c22, c23, c24, hB, hL⟩ := h
  exact ⟨K c0, K c1, K c2, K c3, K c4, K c5, K c6, K c7, K c8, K c9, K c10, K c11, K c12, K c13, K c14, K c15, K c16, K c17, K c18, K c19, K c20, K c21, K c22, K c23, K c24, B_trans hB hb, hL.below hb⟩
theorem laid25 {w W : World} {b0 b1 b2 b3 b4 : Nat} {t n u : Pl.T} (h : W.cell? ⟨b0, 0, none⟩ = some (.int .i64 t.I) ∧ W.cell? ⟨b0, 1, none⟩ = some (.int .i64 t.B) ∧ W.cell? ⟨b0, 2, none⟩ = some (.int .i64 t.F) ∧ W.cell? ⟨b0, 3, none⟩ = some (.int .i64 t.C) ∧ W.cell? ⟨b0, 4, none⟩ = some (.int .i64 t.S) ∧ W.cell? ⟨b1, 0, none⟩ = some (.int .i64 n.I) ∧ W.cell? ⟨b1, 1, none⟩ = some (.int .i64 n.B) ∧ W.cell? ⟨b1, 2, none⟩ = some (.int .i64 n.F) ∧ W.cell? ⟨b1, 3, none⟩ = some (.int .i64 n.C) ∧ W.cell? ⟨b1, 4, none⟩ = some (.int .i64 n.S) ∧ W.cell? ⟨b2, 0, none⟩ = some (.int .i64 n.I) ∧ W.cell? ⟨b2, 1, none⟩ = some (.int .i64 n.B) ∧ W.cell? ⟨b2, 2, none⟩ = some (.int .i64 n.F) ∧ W.cell? ⟨b2, 3, none⟩ = some (.int .i64 n.C) ∧ W.cell? ⟨b2, 4, none⟩ = some (.int .i64 n.S) ∧ W.cell? ⟨b3, 0, none⟩ = some (.int .i64 u.I) ∧ W.cell? ⟨b3, 1, none⟩ = some (.int .i64 u.B) ∧ W.cell? ⟨b3, 2, none⟩ = some (.int .i64 u.F) ∧ W.cell? ⟨b3, 3, none⟩ = some (.int .i64 u.C) ∧ W.cell? ⟨b3, 4, none⟩ = some (.int .i64 u.S) ∧ W.cell? ⟨b4, 0, none⟩ = some (.int .i64 u.I) ∧ W.cell? ⟨b4, 1, none⟩ = some (.int .i64 u.B) ∧ W.cell? ⟨b4, 2, none⟩ = some (.int .i64 u.F) ∧ W.cell? ⟨b4, 3, none⟩ = some (.int .i64 u.C) ∧ W.cell? ⟨b4, 4, none⟩ = some (.int .i64 u.S) ∧ Below w.heap.size w W ∧ Laid W) : Laid W := by
  obtain ⟨_, _, _, _, _, _, _, _, _, _, _, _, _, _, _, _, _, _, _, _, _, _, _, _, _, _, hL⟩ := h
  exact hL
theorem below25 {w W : World} {b0 b1 b2 b3 b4 : Nat} {t n u : Pl.T} (h : W.cell? ⟨b0, 0, none⟩ = some (.int .i64 t.I) ∧ W.cell? ⟨b0, 1, none⟩ = some (.int .i64 t.B) ∧ W.cell? ⟨b0, 2, none⟩ = some (.int .i64 t.F) ∧ W.cell? ⟨b0, 3, none⟩ = some (.int .i64 t.C) ∧ W.cell? ⟨b0, 4, none⟩ = some (.int .i64 t.S) ∧ W.cell? ⟨b1, 0, none⟩ = some (.int .i64 n.I) ∧ W.cell? ⟨b1, 1, none⟩ = some (.int .i64 n.B) ∧ W.cell? ⟨b1, 2, none⟩ = some (.int .i64 n.F) ∧ W.cell? ⟨b1, 3, none⟩ = some (.int .i64 n.C) ∧ W.cell? ⟨b1, 4, none⟩ = some (.int .i64 n.S) ∧ W.cell? ⟨b2, 0, none⟩ = some (.int .i64 n.I) ∧ W.cell? ⟨b2, 1, none⟩ = some (.int .i64 n.B) ∧ W.cell? ⟨b2, 2, none⟩ = some (.int .i64 n.F) ∧ W.cell? ⟨b2, 3, none⟩ = some (.int .i64 n.C) ∧ W.cell? ⟨b2, 4, none⟩ = some (.int .i64 n.S) ∧ W.cell? ⟨b3, 0, none⟩ = some (.int .i64 u.I) ∧ W.cell? ⟨b3, 1, none⟩ = some (.int .i64 u.B) ∧ W.cell? ⟨b3, 2, none⟩ = some (.int .i64 u.F) ∧ W.cell? ⟨b3, 3, none⟩ = some (.int .i64 u.C) ∧ W.cell? ⟨b3, 4, none⟩ = some (.int .i64 u.S) ∧ W.cell? ⟨b4, 0, none⟩ = some (.int .i64 u.I) ∧ W.cell? ⟨b4, 1, none⟩ = some (.int .i64 u.B) ∧ W.cell? ⟨b4, 2, none⟩ = some (.int .i64 u.F) ∧ W.cell? ⟨b4, 3, none⟩ = some (.int .i64 u.C) ∧ W.cell? ⟨b4, 4, none⟩ = some (.int .i64 u.S) ∧ Below w.heap.size w W ∧ Laid W) : Below w.heap.size w W := by
  obtain ⟨_, _, _, _, _, _, _, _, _, _, _, _, _, _, _, _, _, _, _, _, _, _, _, _, _, hB, _⟩ := h
  exact hB

set_option maxHeartbeats 8000000 in
set_option maxRecDepth 100000 in
theorem match_law (t : Pl.T) (S f : Int) (w : World) (hL : Laid w) :
    Calls Tryd.prog 7 #[.agg #[.int .i64 t.I, .int .i64 t.B, .int .i64 t.F, .int .i64 t.C, .int .i64 t.S], .int .i64 S, .int .i64 f] w fun e w' => e = .returned (.bool true) ∧ Below w.heap.size w w' := by
  obtain ⟨u, hu⟩ : ∃ u, Pl.tickT t f = u := ⟨_, rfl⟩
  have Hu := Lib.hid hu
  obtain ⟨s, hs⟩ : ∃ s, Pl.tickB t f = s := ⟨_, rfl⟩
  have Hs := Lib.hid hs
  obtain ⟨r, hr⟩ : ∃ r, Pl.reset t f = r := ⟨_, rfl⟩
  have Hr := Lib.hid hr
  obtain ⟨a, ha⟩ : ∃ a, Pl.hear t = a := ⟨_, rfl⟩
  have Ha := Lib.hid ha
  clear hu hs hr ha
  obtain ⟨n, er, hn1, hn2⟩ := news S f
  have k0 := Tm.new w 23 t.I t.B t.F t.C t.S
  have B := B_alloc (Below.refl w.heap.size w) (.cells #[.int .i64 t.I, .int .i64 t.B, .int .i64 t.F, .int .i64 t.C, .int .i64 t.S] 23)
  obtain ⟨k0a, k0b, k0c, k0d, k0e⟩ := Tm.cells k0
  go_enter Tryd.func7, Tryd.ntmps7
  go_wp2_with fail
  refine (head_any _ (hL.below B)).mono ?_
  rintro e w1 ⟨rfl, hb⟩
  clear k0a k0b k0c k0d k0e
  replace B := B_trans B hb
  replace k0 := k0.below hb
  clear hb
  obtain ⟨k0a, k0b, k0c, k0d, k0e⟩ := Tm.cells k0
  go_wp2_with fail
  refine (hn1 _ (hL.below B)).mono ?_
  rintro e w2 ⟨rfl, hb⟩
  clear k0a k0b k0c k0d k0e
  replace B := B_trans B hb
  replace k0 := k0.below hb
  replace B := B_alloc B (.cells #[.int .i64 n.I, .int .i64 n.B, .int .i64 n.F, .int .i64 n.C, .int .i64 n.S] 23)
  replace k0 := k0.below (B_alloc (Below.refl _ _) (.cells #[.int .i64 n.I, .int .i64 n.B, .int .i64 n.F, .int .i64 n.C, .int .i64 n.S] 23))
  have k8 := Tm.new w2 23 n.I n.B n.F n.C n.S
  clear hb
  obtain ⟨k0a, k0b, k0c, k0d, k0e⟩ := Tm.cells k0
  obtain ⟨k8a, k8b, k8c, k8d, k8e⟩ := Tm.cells k8
  go_wp2_with fail
  refine (hn2 _).mono ?_
  rintro e w3 ⟨rfl, hb⟩
  clear k0a k0b k0c k0d k0e
  clear k8a k8b k8c k8d k8e
  replace B := B_trans B hb
  replace k0 := k0.below hb
  replace k8 := k8.below hb
  replace B := B_alloc B (.cells #[.int .i64 n.I, .int .i64 n.B, .int .i64 n.F, .int .i64 n.C, .int .i64 n.S] 23)
  replace k0 := k0.below (B_alloc (Below.refl _ _) (.cells #[.int .i64 n.I, .int .i64 n.B, .int .i64 n.F, .int .i64 n.C, .int .i64 n.S] 23))
  replace k8 := k8.below (B_alloc (Below.refl _ _) (.cells #[.int .i64 n.I, .int .i64 n.B, .int .i64 n.F, .int .i64 n.C, .int .i64 n.S] 23))
  have k10 := Tm.new w3 23 n.I n.B n.F n.C n.S
  clear hb
  obtain ⟨k0a, k0b, k0c, k0d, k0e⟩ := Tm.cells k0
  obtain ⟨k8a, k8b, k8c, k8d, k8e⟩ := Tm.cells k8
  obtain ⟨k10a, k10b, k10c, k10d, k10e⟩ := Tm.cells k10
  go_wp2_with fail
  refine (tick_T t u s f _ (hL.below B) Hu.out Hs.out).mono ?_
  rintro e w4 ⟨rfl, hb⟩
  clear k0a k0b k0c k0d k0e
  clear k8a k8b k8c k8d k8e
  clear k10a k10b k10c k10d k10e
  replace B := B_trans B hb
  replace k0 := k0.below hb
  replace k8 := k8.below hb
  replace k10 := k10.below hb
  replace B := B_alloc B (.cells #[.int .i64 u.I, .int .i64 u.B, .int .i64 u.F, .int .i64 u.C, .int .i64 u.S] 23)
  replace k0 := k0.below (B_alloc (Below.refl _ _) (.cells #[.int .i64 u.I, .int .i64 u.B, .int .i64 u.F, .int .i64 u.C, .int .i64 u.S] 23))
  replace k8 := k8.below (B_alloc (Below.refl _ _) (.cells #[.int .i64 u.I, .int .i64 u.B, .int .i64 u.F, .int .i64 u.C, .int .i64 u.S] 23))
  replace k10 := k10.below (B_alloc (Below.refl _ _) (.cells #[.int .i64 u.I, .int .i64 u.B, .int .i64 u.F, .int .i64 u.C, .int .i64 u.S] 23))
  have k12 := Tm.new w4 23 u.I u.B u.F u.C u.S
  clear hb
  obtain ⟨k0a, k0b, k0c, k0d, k0e⟩ := Tm.cells k0
  obtain ⟨k8a, k8b, k8c, k8d, k8e⟩ := Tm.cells k8
  obtain ⟨k10a, k10b, k10c, k10d, k10e⟩ := Tm.cells k10
  obtain ⟨k12a, k12b, k12c, k12d, k12e⟩ := Tm.cells k12
  go_wp2_with fail
  refine (rtick_T t u s f _ Hu.out Hs.out).mono ?_
  rintro e w5 ⟨rfl, hb⟩
  clear k0a k0b k0c k0d k0e
  clear k8a k8b k8c k8d k8e
  clear k10a k10b k10c k10d k10e
  clear k12a k12b k12c k12d k12e
  replace B := B_trans B hb
  replace k0 := k0.below hb
  replace k8 := k8.below hb
  replace k10 := k10.below hb
  replace k12 := k12.below hb
  replace B := B_alloc B (.cells #[.int .i64 u.I, .int .i64 u.B, .int .i64 u.F, .int .i64 u.C, .int .i64 u.S] 23)
  replace k0 := k0.below (B_alloc (Below.refl _ _) (.cells #[.int .i64 u.I, .int .i64 u.B, .int .i64 u.F, .int .i64 u.C, .int .i64 u.S] 23))
  replace k8 := k8.below (B_alloc (Below.refl _ _) (.cells #[.int .i64 u.I, .int .i64 u.B, .int .i64 u.F, .int .i64 u.C, .int .i64 u.S] 23))
  replace k10 := k10.below (B_alloc (Below.refl _ _) (.cells #[.int .i64 u.I, .int .i64 u.B, .int .i64 u.F, .int .i64 u.C, .int .i64 u.S] 23))
  replace k12 := k12.below (B_alloc (Below.refl _ _) (.cells #[.int .i64 u.I, .int .i64 u.B, .int .i64 u.F, .int .i64 u.C, .int .i64 u.S] 23))
  have k14 := Tm.new w5 23 u.I u.B u.F u.C u.S
  clear hb
  obtain ⟨k0a, k0b, k0c, k0d, k0e⟩ := Tm.cells k0
  obtain ⟨k8a, k8b, k8c, k8d, k8e⟩ := Tm.cells k8
  obtain ⟨k10a, k10b, k10c, k10d, k10e⟩ := Tm.cells k10
  obtain ⟨k12a, k12b, k12c, k12d, k12e⟩ := Tm.cells k12
  obtain ⟨k14a, k14b, k14c, k14d, k14e⟩ := Tm.cells k14
  have hS0 : (w5.alloc (.cells #[.int .i64 u.I, .int .i64 u.B, .int .i64 u.F, .int .i64 u.C, .int .i64 u.S] 23)).drew.cell? ⟨w.heap.size, 0, none⟩ = some (.int .i64 t.I) ∧ (w5.alloc (.cells #[.int .i64 u.I, .int .i64 u.B, .int .i64 u.F, .int .i64 u.C, .int .i64 u.S] 23)).drew.cell? ⟨w.heap.size, 1, none⟩ = some (.int .i64 t.B) ∧ (w5.alloc (.cells #[.int .i64 u.I, .int .i64 u.B, .int .i64 u.F, .int .i64 u.C, .int .i64 u.S] 23)).drew.cell? ⟨w.heap.size, 2, none⟩ = some (.int .i64 t.F) ∧ (w5.alloc (.cells #[.int .i64 u.I, .int .i64 u.B, .int .i64 u.F, .int .i64 u.C, .int .i64 u.S] 23)).drew.cell? ⟨w.heap.size, 3, none⟩ = some (.int .i64 t.C) ∧ (w5.alloc (.cells #[.int .i64 u.I, .int .i64 u.B, .int .i64 u.F, .int .i64 u.C, .int .i64 u.S] 23)).drew.cell? ⟨w.heap.size, 4, none⟩ = some (.int .i64 t.S) ∧ (w5.alloc (.cells #[.int .i64 u.I, .int .i64 u.B, .int .i64 u.F, .int .i64 u.C, .int .i64 u.S] 23)).drew.cell? ⟨w2.heap.size, 0, none⟩ = some (.int .i64 n.I) ∧ (w5.alloc (.cells #[.int .i64 u.I, .int .i64 u.B, .int .i64 u.F, .int .i64 u.C, .int .i64 u.S] 23)).drew.cell? ⟨w2.heap.size, 1, none⟩ = some (.int .i64 n.B) ∧ (w5.alloc (.cells #[.int .i64 u.I, .int .i64 u.B, .int .i64 u.F, .int .i64 u.C, .int .i64 u.S] 23)).drew.cell? ⟨w2.heap.size, 2, none⟩ = some (.int .i64 n.F) ∧ (w5.alloc (.cells #[.int .i64 u.I, .int .i64 u.B, .int .i64 u.F, .int .i64 u.C, .int .i64 u.S] 23)).drew.cell? ⟨w2.heap.size, 3, none⟩ = some (.int .i64 n.C) ∧ (w5.alloc (.cells #[.int .i64 u.I, .int .i64 u.B, .int .i64 u.F, .int .i64 u.C, .int .i64 u.S] 23)).drew.cell? ⟨w2.heap.size, 4, none⟩ = some (.int .i64 n.S) ∧ (w5.alloc (.cells #[.int .i64 u.I, .int .i64 u.B, .int .i64 u.F, .int .i64 u.C, .int .i64 u.S] 23)).drew.cell? ⟨w3.heap.size, 0, none⟩ = some (.int .i64 n.I) ∧ (w5.alloc (.cells #[.int .i64 u.I, .int .i64 u.B, .int .i64 u.F, .int .i64 u.C, .int .i64 u.S] 23)).drew.cell? ⟨w3.heap.size, 1, none⟩ = some (.int .i64 n.B) ∧ (w5.alloc (.cells #[.int .i64 u.I, .int .i64 u.B, .int .i64 u.F, .int .i64 u.C, .int .i64 u.S] 23)).drew.cell? ⟨w3.heap.size, 2, none⟩ = some (.int .i64 n.F) ∧ (w5.alloc (.cells #[.int .i64 u.I, .int .i64 u.B, .int .i64 u.F, .int .i64 u.C, .int .i64 u.S] 23)).drew.cell? ⟨w3.heap.size, 3, none⟩ = some (.int .i64 n.C) ∧ (w5.alloc (.cells #[.int .i64 u.I, .int .i64 u.B, .int .i64 u.F, .int .i64 u.C, .int .i64 u.S] 23)).drew.cell? ⟨w3.heap.size, 4, none⟩ = some (.int .i64 n.S) ∧ (w5.alloc (.cells #[.int .i64 u.I, .int .i64 u.B, .int .i64 u.F, .int .i64 u.C, .int .i64 u.S] 23)).drew.cell? ⟨w4.heap.size, 0, none⟩ = some (.int .i64 u.I) ∧ (w5.alloc (.cells #[.int .i64 u.I, .int .i64 u.B, .int .i64 u.F, .int .i64 u.C, .int .i64 u.S] 23)).drew.cell? ⟨w4.heap.size, 1, none⟩ = some (.int .i64 u.B) ∧ (w5.alloc (.cells #[.int .i64 u.I, .int .i64 u.B, .int .i64 u.F, .int .i64 u.C, .int .i64 u.S] 23)).drew.cell? ⟨w4.heap.size, 2, none⟩ = some (.int .i64 u.F) ∧ (w5.alloc (.cells #[.int .i64 u.I, .int .i64 u.B, .int .i64 u.F, .int .i64 u.C, .int .i64 u.S] 23)).drew.cell? ⟨w4.heap.size, 3, none⟩ = some (.int .i64 u.C) ∧ (w5.alloc (.cells #[.int .i64 u.I, .int .i64 u.B, .int .i64 u.F, .int .i64 u.C, .int .i64 u.S] 23)).drew.cell? ⟨w4.heap.size, 4, none⟩ = some (.int .i64 u.S) ∧ (w5.alloc (.cells #[.int .i64 u.I, .int .i64 u.B, .int .i64 u.F, .int .i64 u.C, .int .i64 u.S] 23)).drew.cell? ⟨w5.heap.size, 0, none⟩ = some (.int .i64 u.I) ∧ (w5.alloc (.cells #[.int .i64 u.I, .int .i64 u.B, .int .i64 u.F, .int .i64 u.C, .int .i64 u.S] 23)).drew.cell? ⟨w5.heap.size, 1, none⟩ = some (.int .i64 u.B) ∧ (w5.alloc (.cells #[.int .i64 u.I, .int .i64 u.B, .int .i64 u.F, .int .i64 u.C, .int .i64 u.S] 23)).drew.cell? ⟨w5.heap.size, 2, none⟩ = some (.int .i64 u.F) ∧ (w5.alloc (.cells #[.int .i64 u.I, .int .i64 u.B, .int .i64 u.F, .int .i64 u.C, .int .i64 u.S] 23)).drew.cell? ⟨w5.heap.size, 3, none⟩ = some (.int .i64 u.C) ∧ (w5.alloc (.cells #[.int .i64 u.I, .int .i64 u.B, .int .i64 u.F, .int .i64 u.C, .int .i64 u.S] 23)).drew.cell? ⟨w5.heap.size, 4, none⟩ = some (.int .i64 u.S) ∧ Below w.heap.size w (w5.alloc (.cells #[.int .i64 u.I, .int .i64 u.B, .int .i64 u.F, .int .i64 u.C, .int .i64 u.S] 23)).drew ∧ Laid (w5.alloc (.cells #[.int .i64 u.I, .int .i64 u.B, .int .i64 u.F, .int .i64 u.C, .int .i64 u.S] 23)).drew := ⟨k0a, k0b, k0c, k0d, k0e, k8a, k8b, k8c, k8d, k8e, k10a, k10b, k10c, k10d, k10e, k12a, k12b, k12c, k12d, k12e, k14a, k14b, k14c, k14d, k14e, B.drew, hL.below B.drew⟩
  clear hn1 hn2 B k0 k8 k10 k12 k14
  go_wp2_with fail
  go_region_held3 (fun W => W.cell? ⟨w.heap.size, 0, none⟩ = some (.int .i64 t.I) ∧ W.cell? ⟨w.heap.size, 1, none⟩ = some (.int .i64 t.B) ∧ W.cell? ⟨w.heap.size, 2, none⟩ = some (.int .i64 t.F) ∧ W.cell? ⟨w.heap.size, 3, none⟩ = some (.int .i64 t.C) ∧ W.cell? ⟨w.heap.size, 4, none⟩ = some (.int .i64 t.S) ∧ W.cell? ⟨w2.heap.size, 0, none⟩ = some (.int .i64 n.I) ∧ W.cell? ⟨w2.heap.size, 1, none⟩ = some (.int .i64 n.B) ∧ W.cell? ⟨w2.heap.size, 2, none⟩ = some (.int .i64 n.F) ∧ W.cell? ⟨w2.heap.size, 3, none⟩ = some (.int .i64 n.C) ∧ W.cell? ⟨w2.heap.size, 4, none⟩ = some (.int .i64 n.S) ∧ W.cell? ⟨w3.heap.size, 0, none⟩ = some (.int .i64 n.I) ∧ W.cell? ⟨w3.heap.size, 1, none⟩ = some (.int .i64 n.B) ∧ W.cell? ⟨w3.heap.size, 2, none⟩ = some (.int .i64 n.F) ∧ W.cell? ⟨w3.heap.size, 3, none⟩ = some (.int .i64 n.C) ∧ W.cell? ⟨w3.heap.size, 4, none⟩ = some (.int .i64 n.S) ∧ W.cell? ⟨w4.heap.size, 0, none⟩ = some (.int .i64 u.I) ∧ W.cell? ⟨w4.heap.size, 1, none⟩ = some (.int .i64 u.B) ∧ W.cell? ⟨w4.heap.size, 2, none⟩ = some (.int .i64 u.F) ∧ W.cell? ⟨w4.heap.size, 3, none⟩ = some (.int .i64 u.C) ∧ W.cell? ⟨w4.heap.size, 4, none⟩ = some (.int .i64 u.S) ∧ W.cell? ⟨w5.heap.size, 0, none⟩ = some (.int .i64 u.I) ∧ W.cell? ⟨w5.heap.size, 1, none⟩ = some (.int .i64 u.B) ∧ W.cell? ⟨w5.heap.size, 2, none⟩ = some (.int .i64 u.F) ∧ W.cell? ⟨w5.heap.size, 3, none⟩ = some (.int .i64 u.C) ∧ W.cell? ⟨w5.heap.size, 4, none⟩ = some (.int .i64 u.S) ∧ Below w.heap.size w W ∧ Laid W)
    (first | assumption | (exact hS0) | (refine keep25 ?_ hb'; assumption))
    (first
      | (go_at_call 20; refine (reset_T t r f _ (laid25 (by assumption)) Hr.out).mono ?_; rintro e w' ⟨rfl, hb'⟩)
      | (go_at_call 21; refine (rreset_T t r f _ Hr.out).mono ?_; rintro e w' ⟨rfl, hb'⟩)
      | (go_at_call 15; refine (hear_T t a _ Ha.out).mono ?_; rintro e w' ⟨rfl, hb'⟩)
      | (go_at_call 22; refine (rhear_T t a _ Ha.out).mono ?_; rintro e w' ⟨rfl, hb'⟩))
  all_goals
    have hEnd := below25 (w := w) (by assumption)
    go_wp2_with fail
    go_ret
    exact ⟨ret_bool (by simp), hEnd⟩
end Go.Proofs.YtomfbadniajnlaaDoor
