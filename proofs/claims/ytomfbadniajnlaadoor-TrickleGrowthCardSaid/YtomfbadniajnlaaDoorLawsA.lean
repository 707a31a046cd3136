/-
  The laws TrickleValid, TrickleSuppressed, TrickleAgain, TrickleReset and TrickleSeldom: each returns true. Condition: the table of steps reads as its initialiser lays it.
-/
import Derived.Test.YtomfbadniajnlaaDoorSpeak
namespace Go.Proofs.YtomfbadniajnlaaDoor
open Go.RowKit

theorem reset_T (t u : Pl.T) (f : Int) (w : World) (hL : Laid w) (h : Pl.reset t f = u) :
    Calls Tryd.prog 20 #[.agg #[.int .i64 t.I, .int .i64 t.B, .int .i64 t.F, .int .i64 t.C, .int .i64 t.S], .int .i64 f] w fun e w' => e = .returned (.agg #[.int .i64 u.I, .int .i64 u.B, .int .i64 u.F, .int .i64 u.C, .int .i64 u.S]) ∧ Below w.heap.size w w' := by
  subst h; exact reset_any t.I t.B t.F t.C t.S f w hL
theorem rvalid_T (t : Pl.T) (w : World) (h : t.Ok) :
    Calls Tryd.prog 13 #[.agg #[.int .i64 t.I, .int .i64 t.B, .int .i64 t.F, .int .i64 t.C, .int .i64 t.S]] w fun e w' => e = .returned (.bool true) ∧ Below w.heap.size w w' := rvalid_yes w h
theorem rvalid_F (t : Pl.T) (w : World) (h : ¬ t.Ok) :
    Calls Tryd.prog 13 #[.agg #[.int .i64 t.I, .int .i64 t.B, .int .i64 t.F, .int .i64 t.C, .int .i64 t.S]] w fun e w' => e = .returned (.bool false) ∧ Below w.heap.size w w' := rvalid_no w h
def TUs (t : Pl.T) (f : Int) : Prop := Usable t.I t.B t.F t.C t.S f
theorem usable_T (t : Pl.T) (f : Int) (w : World) (h : TUs t f) :
    Calls Tryd.prog 11 #[.agg #[.int .i64 t.I, .int .i64 t.B, .int .i64 t.F, .int .i64 t.C, .int .i64 t.S], .int .i64 f] w fun e w' => e = .returned (.bool true) ∧ Below w.heap.size w w' := usable_yes _ _ _ _ _ _ w h
theorem usable_F (t : Pl.T) (f : Int) (w : World) (h : ¬ TUs t f) :
    Calls Tryd.prog 11 #[.agg #[.int .i64 t.I, .int .i64 t.B, .int .i64 t.F, .int .i64 t.C, .int .i64 t.S], .int .i64 f] w fun e w' => e = .returned (.bool false) ∧ Below w.heap.size w w' := usable_no _ _ _ _ _ _ w h

set_option maxHeartbeats 4000000 in
set_option maxRecDepth 100000 in
theorem valid_law_no (t : Pl.T) (f : Int) (w : World) (hL : Laid w) (hv : ¬ t.Ok) :
    Calls Tryd.prog 8 #[.agg #[.int .i64 t.I, .int .i64 t.B, .int .i64 t.F, .int .i64 t.C, .int .i64 t.S], .int .i64 f] w fun e w' => e = .returned (.bool true) ∧ Below w.heap.size w w' := by
  have k0 := Tm.new w 23 t.I t.B t.F t.C t.S
  have B := B_alloc (Below.refl w.heap.size w) (.cells #[.int .i64 t.I, .int .i64 t.B, .int .i64 t.F, .int .i64 t.C, .int .i64 t.S] 23)
  obtain ⟨k0a, k0b, k0c, k0d, k0e⟩ := Tm.cells k0
  go_enter Tryd.func8, Tryd.ntmps8
  go_wp2_with fail
  refine (head_any _ (hL.below B)).mono ?_
  rintro e w1 ⟨rfl, hb⟩
  clear k0a k0b k0c k0d k0e
  replace B := B_trans B hb
  replace k0 := k0.below hb
  clear hb
  obtain ⟨k0a, k0b, k0c, k0d, k0e⟩ := Tm.cells k0
  go_wp2_with fail
  refine (rvalid_F t _ hv).mono ?_
  rintro e w2 ⟨rfl, hb⟩
  clear k0a k0b k0c k0d k0e
  replace B := B_trans B hb
  replace k0 := k0.below hb
  clear hb
  obtain ⟨k0a, k0b, k0c, k0d, k0e⟩ := Tm.cells k0
  go_wp2_with fail
  go_ret
  exact ⟨ret_bool (by simp), B⟩
set_option maxHeartbeats 4000000 in
set_option maxRecDepth 100000 in
theorem valid_law_yes (t : Pl.T) (f : Int) (w : World) (hL : Laid w) (hv : t.Ok) :
    Calls Tryd.prog 8 #[.agg #[.int .i64 t.I, .int .i64 t.B, .int .i64 t.F, .int .i64 t.C, .int .i64 t.S], .int .i64 f] w fun e w' => e = .returned (.bool true) ∧ Below w.heap.size w w' := by
  obtain ⟨u, hu⟩ : ∃ u, Pl.tickT t f = u := ⟨_, rfl⟩
  have Hu := Lib.hid hu
  obtain ⟨s, hs⟩ : ∃ s, Pl.tickB t f = s := ⟨_, rfl⟩
  have Hs := Lib.hid hs
  obtain ⟨r, hr⟩ : ∃ r, Pl.reset t f = r := ⟨_, rfl⟩
  have Hr := Lib.hid hr
  obtain ⟨a, ha⟩ : ∃ a, Pl.hear t = a := ⟨_, rfl⟩
  have Ha := Lib.hid ha
  have ou : u.Ok := hu ▸ Pl.tick_ok f hv
  have or_ : r.Ok := hr ▸ Pl.reset_ok f hv
  have oa : a.Ok := ha ▸ Pl.hear_ok hv
  have eu : (u.S == t.S) = true := by rw [← hu, Pl.tick_seed]; simp
  have er : (r.S == t.S) = true := by rw [← hr, Pl.reset_seed]; simp
  have ea : (a.S == t.S) = true := by rw [← ha, Pl.hear_seed]; simp
  clear hu hs hr ha
  have k0 := Tm.new w 23 t.I t.B t.F t.C t.S
  have B := B_alloc (Below.refl w.heap.size w) (.cells #[.int .i64 t.I, .int .i64 t.B, .int .i64 t.F, .int .i64 t.C, .int .i64 t.S] 23)
  obtain ⟨k0a, k0b, k0c, k0d, k0e⟩ := Tm.cells k0
  go_enter Tryd.func8, Tryd.ntmps8
  go_wp2_with fail
  refine (head_any _ (hL.below B)).mono ?_
  rintro e w1 ⟨rfl, hb⟩
  clear k0a k0b k0c k0d k0e
  replace B := B_trans B hb
  replace k0 := k0.below hb
  clear hb
  obtain ⟨k0a, k0b, k0c, k0d, k0e⟩ := Tm.cells k0
  go_wp2_with fail
  refine (rvalid_T t _ hv).mono ?_
  rintro e w2 ⟨rfl, hb⟩
  clear k0a k0b k0c k0d k0e
  replace B := B_trans B hb
  replace k0 := k0.below hb
  clear hb
  obtain ⟨k0a, k0b, k0c, k0d, k0e⟩ := Tm.cells k0
  go_wp2_with fail
  refine (tick_T t u s f _ (hL.below B) Hu.out Hs.out).mono ?_
  rintro e w3 ⟨rfl, hb⟩
  clear k0a k0b k0c k0d k0e
  replace B := B_trans B hb
  replace k0 := k0.below hb
  replace B := B_alloc B (.cells #[.int .i64 u.I, .int .i64 u.B, .int .i64 u.F, .int .i64 u.C, .int .i64 u.S] 23)
  replace k0 := k0.below (B_alloc (Below.refl _ _) (.cells #[.int .i64 u.I, .int .i64 u.B, .int .i64 u.F, .int .i64 u.C, .int .i64 u.S] 23))
  have k7 := Tm.new w3 23 u.I u.B u.F u.C u.S
  clear hb
  obtain ⟨k0a, k0b, k0c, k0d, k0e⟩ := Tm.cells k0
  obtain ⟨k7a, k7b, k7c, k7d, k7e⟩ := Tm.cells k7
  go_wp2_with fail
  refine (reset_T t r f _ (hL.below B) Hr.out).mono ?_
  rintro e w4 ⟨rfl, hb⟩
  clear k0a k0b k0c k0d k0e
  clear k7a k7b k7c k7d k7e
  replace B := B_trans B hb
  replace k0 := k0.below hb
  replace k7 := k7.below hb
  replace B := B_alloc B (.cells #[.int .i64 r.I, .int .i64 r.B, .int .i64 r.F, .int .i64 r.C, .int .i64 r.S] 23)
  replace k0 := k0.below (B_alloc (Below.refl _ _) (.cells #[.int .i64 r.I, .int .i64 r.B, .int .i64 r.F, .int .i64 r.C, .int .i64 r.S] 23))
  replace k7 := k7.below (B_alloc (Below.refl _ _) (.cells #[.int .i64 r.I, .int .i64 r.B, .int .i64 r.F, .int .i64 r.C, .int .i64 r.S] 23))
  have k9 := Tm.new w4 23 r.I r.B r.F r.C r.S
  clear hb
  obtain ⟨k0a, k0b, k0c, k0d, k0e⟩ := Tm.cells k0
  obtain ⟨k7a, k7b, k7c, k7d, k7e⟩ := Tm.cells k7
  obtain ⟨k9a, k9b, k9c, k9d, k9e⟩ := Tm.cells k9
  go_wp2_with fail
  refine (hear_T t a _ Ha.out).mono ?_
  rintro e w5 ⟨rfl, hb⟩
  clear k0a k0b k0c k0d k0e
  clear k7a k7b k7c k7d k7e
  clear k9a k9b k9c k9d k9e
  replace B := B_trans B hb
  replace k0 := k0.below hb
  replace k7 := k7.below hb
  replace k9 := k9.below hb
  replace B := B_alloc B (.cells #[.int .i64 a.I, .int .i64 a.B, .int .i64 a.F, .int .i64 a.C, .int .i64 a.S] 23)
  replace k0 := k0.below (B_alloc (Below.refl _ _) (.cells #[.int .i64 a.I, .int .i64 a.B, .int .i64 a.F, .int .i64 a.C, .int .i64 a.S] 23))
  replace k7 := k7.below (B_alloc (Below.refl _ _) (.cells #[.int .i64 a.I, .int .i64 a.B, .int .i64 a.F, .int .i64 a.C, .int .i64 a.S] 23))
  replace k9 := k9.below (B_alloc (Below.refl _ _) (.cells #[.int .i64 a.I, .int .i64 a.B, .int .i64 a.F, .int .i64 a.C, .int .i64 a.S] 23))
  have k10 := Tm.new w5 23 a.I a.B a.F a.C a.S
  clear hb
  obtain ⟨k0a, k0b, k0c, k0d, k0e⟩ := Tm.cells k0
  obtain ⟨k7a, k7b, k7c, k7d, k7e⟩ := Tm.cells k7
  obtain ⟨k9a, k9b, k9c, k9d, k9e⟩ := Tm.cells k9
  obtain ⟨k10a, k10b, k10c, k10d, k10e⟩ := Tm.cells k10
  go_wp2_with fail
  refine (rvalid_T u _ ou).mono ?_
  rintro e w6 ⟨rfl, hb⟩
  clear k0a k0b k0c k0d k0e
  clear k7a k7b k7c k7d k7e
  clear k9a k9b k9c k9d k9e
  clear k10a k10b k10c k10d k10e
  replace B := B_trans B hb
  replace k0 := k0.below hb
  replace k7 := k7.below hb
  replace k9 := k9.below hb
  replace k10 := k10.below hb
  clear hb
  obtain ⟨k0a, k0b, k0c, k0d, k0e⟩ := Tm.cells k0
  obtain ⟨k7a, k7b, k7c, k7d, k7e⟩ := Tm.cells k7
  obtain ⟨k9a, k9b, k9c, k9d, k9e⟩ := Tm.cells k9
  obtain ⟨k10a, k10b, k10c, k10d, k10e⟩ := Tm.cells k10
  go_wp2_with fail
  refine (rvalid_T r _ or_).mono ?_
  rintro e w7 ⟨rfl, hb⟩
  clear k0a k0b k0c k0d k0e
  clear k7a k7b k7c k7d k7e
  clear k9a k9b k9c k9d k9e
  clear k10a k10b k10c k10d k10e
  replace B := B_trans B hb
  replace k0 := k0.below hb
  replace k7 := k7.below hb
  replace k9 := k9.below hb
  replace k10 := k10.below hb
  clear hb
  obtain ⟨k0a, k0b, k0c, k0d, k0e⟩ := Tm.cells k0
  obtain ⟨k7a, k7b, k7c, k7d, k7e⟩ := Tm.cells k7
  obtain ⟨k9a, k9b, k9c, k9d, k9e⟩ := Tm.cells k9
  obtain ⟨k10a, k10b, k10c, k10d, k10e⟩ := Tm.cells k10
  go_wp2_with fail
  refine (rvalid_T a _ oa).mono ?_
  rintro e w8 ⟨rfl, hb⟩
  clear k0a k0b k0c k0d k0e
  clear k7a k7b k7c k7d k7e
  clear k9a k9b k9c k9d k9e
  clear k10a k10b k10c k10d k10e
  replace B := B_trans B hb
  replace k0 := k0.below hb
  replace k7 := k7.below hb
  replace k9 := k9.below hb
  replace k10 := k10.below hb
  clear hb
  obtain ⟨k0a, k0b, k0c, k0d, k0e⟩ := Tm.cells k0
  obtain ⟨k7a, k7b, k7c, k7d, k7e⟩ := Tm.cells k7
  obtain ⟨k9a, k9b, k9c, k9d, k9e⟩ := Tm.cells k9
  obtain ⟨k10a, k10b, k10c, k10d, k10e⟩ := Tm.cells k10
  go_wp2_with fail
  go_ret
  exact ⟨ret_bool (by simp), B⟩
set_option maxHeartbeats 4000000 in
set_option maxRecDepth 100000 in
theorem supp_law_no (t : Pl.T) (f : Int) (w : World) (hL : Laid w) (hv : ¬ t.Ok) :
    Calls Tryd.prog 5 #[.agg #[.int .i64 t.I, .int .i64 t.B, .int .i64 t.F, .int .i64 t.C, .int .i64 t.S], .int .i64 f] w fun e w' => e = .returned (.bool true) ∧ Below w.heap.size w w' := by
  have k0 := Tm.new w 23 t.I t.B t.F t.C t.S
  have B := B_alloc (Below.refl w.heap.size w) (.cells #[.int .i64 t.I, .int .i64 t.B, .int .i64 t.F, .int .i64 t.C, .int .i64 t.S] 23)
  obtain ⟨k0a, k0b, k0c, k0d, k0e⟩ := Tm.cells k0
  go_enter Tryd.func5, Tryd.ntmps5
  go_wp2_with fail
  refine (head_any _ (hL.below B)).mono ?_
  rintro e w1 ⟨rfl, hb⟩
  clear k0a k0b k0c k0d k0e
  replace B := B_trans B hb
  replace k0 := k0.below hb
  clear hb
  obtain ⟨k0a, k0b, k0c, k0d, k0e⟩ := Tm.cells k0
  go_wp2_with fail
  refine (rvalid_F t _ hv).mono ?_
  rintro e w2 ⟨rfl, hb⟩
  clear k0a k0b k0c k0d k0e
  replace B := B_trans B hb
  replace k0 := k0.below hb
  clear hb
  obtain ⟨k0a, k0b, k0c, k0d, k0e⟩ := Tm.cells k0
  go_wp2_with fail
  go_ret
  exact ⟨ret_bool (by simp), B⟩
set_option maxHeartbeats 4000000 in
set_option maxRecDepth 100000 in
theorem supp_law_early (t : Pl.T) (f : Int) (w : World) (hL : Laid w) (hv : t.Ok) (hf : f < t.B + t.I) :
    Calls Tryd.prog 5 #[.agg #[.int .i64 t.I, .int .i64 t.B, .int .i64 t.F, .int .i64 t.C, .int .i64 t.S], .int .i64 f] w fun e w' => e = .returned (.bool true) ∧ Below w.heap.size w w' := by
  have tI1 : 1 ≤ t.I := by have := hv; unfold Pl.T.Ok Pl.Ok at this; omega
  have tI2 : t.I ≤ 8 := by have := hv; unfold Pl.T.Ok Pl.Ok at this; omega
  have tB1 : 0 ≤ t.B := by have := hv; unfold Pl.T.Ok Pl.Ok at this; omega
  have tB2 : t.B ≤ 999999984 := by have := hv; unfold Pl.T.Ok Pl.Ok at this; omega
  obtain ⟨a, ha⟩ : ∃ a, Pl.hear t = a := ⟨_, rfl⟩
  have Ha := Lib.hid ha
  obtain ⟨b, hb⟩ : ∃ b, Pl.hear a = b := ⟨_, rfl⟩
  have Hb := Lib.hid hb
  obtain ⟨u, hu⟩ : ∃ u, Pl.tickT b f = u := ⟨_, rfl⟩
  have Hu := Lib.hid hu
  have hs : Pl.tickB b f = false := by rw [← hb, ← ha]; exact Pl.supp_early hv hf
  have Hs := Lib.hid hs
  clear hu hs ha hb
  have k0 := Tm.new w 23 t.I t.B t.F t.C t.S
  have B := B_alloc (Below.refl w.heap.size w) (.cells #[.int .i64 t.I, .int .i64 t.B, .int .i64 t.F, .int .i64 t.C, .int .i64 t.S] 23)
  obtain ⟨k0a, k0b, k0c, k0d, k0e⟩ := Tm.cells k0
  go_enter Tryd.func5, Tryd.ntmps5
  go_wp2_with fail
  refine (head_any _ (hL.below B)).mono ?_
  rintro e w1 ⟨rfl, hb⟩
  clear k0a k0b k0c k0d k0e
  replace B := B_trans B hb
  replace k0 := k0.below hb
  clear hb
  obtain ⟨k0a, k0b, k0c, k0d, k0e⟩ := Tm.cells k0
  go_wp2_with fail
  refine (rvalid_T t _ hv).mono ?_
  rintro e w2 ⟨rfl, hb⟩
  clear k0a k0b k0c k0d k0e
  replace B := B_trans B hb
  replace k0 := k0.below hb
  clear hb
  obtain ⟨k0a, k0b, k0c, k0d, k0e⟩ := Tm.cells k0
  go_wp2_with fail
  refine (hear_T t a _ Ha.out).mono ?_
  rintro e w3 ⟨rfl, hb⟩
  clear k0a k0b k0c k0d k0e
  replace B := B_trans B hb
  replace k0 := k0.below hb
  clear hb
  obtain ⟨k0a, k0b, k0c, k0d, k0e⟩ := Tm.cells k0
  go_wp2_with fail
  refine (hear_T a b _ Hb.out).mono ?_
  rintro e w4 ⟨rfl, hb⟩
  clear k0a k0b k0c k0d k0e
  replace B := B_trans B hb
  replace k0 := k0.below hb
  clear hb
  obtain ⟨k0a, k0b, k0c, k0d, k0e⟩ := Tm.cells k0
  go_wp2_with fail
  refine (tick_T b u false f _ (hL.below B) Hu.out Hs.out).mono ?_
  rintro e w5 ⟨rfl, hb⟩
  clear k0a k0b k0c k0d k0e
  replace B := B_trans B hb
  replace k0 := k0.below hb
  replace B := B_alloc B (.cells #[.int .i64 u.I, .int .i64 u.B, .int .i64 u.F, .int .i64 u.C, .int .i64 u.S] 23)
  replace k0 := k0.below (B_alloc (Below.refl _ _) (.cells #[.int .i64 u.I, .int .i64 u.B, .int .i64 u.F, .int .i64 u.C, .int .i64 u.S] 23))
  have k7 := Tm.new w5 23 u.I u.B u.F u.C u.S
  clear hb
  obtain ⟨k0a, k0b, k0c, k0d, k0e⟩ := Tm.cells k0
  obtain ⟨k7a, k7b, k7c, k7d, k7e⟩ := Tm.cells k7
  go_wp2_with fail
  go_ret
  exact ⟨ret_bool (by simp), B⟩
set_option maxHeartbeats 4000000 in
set_option maxRecDepth 100000 in
theorem supp_law_late (t : Pl.T) (f : Int) (w : World) (hL : Laid w) (hv : t.Ok) (hf : ¬ f < t.B + t.I) (hf2 : 0 ≤ f ∧ f ≤ 999999984) :
    Calls Tryd.prog 5 #[.agg #[.int .i64 t.I, .int .i64 t.B, .int .i64 t.F, .int .i64 t.C, .int .i64 t.S], .int .i64 f] w fun e w' => e = .returned (.bool true) ∧ Below w.heap.size w w' := by
  have tI1 : 1 ≤ t.I := by have := hv; unfold Pl.T.Ok Pl.Ok at this; omega
  have tI2 : t.I ≤ 8 := by have := hv; unfold Pl.T.Ok Pl.Ok at this; omega
  have tB1 : 0 ≤ t.B := by have := hv; unfold Pl.T.Ok Pl.Ok at this; omega
  have tB2 : t.B ≤ 999999984 := by have := hv; unfold Pl.T.Ok Pl.Ok at this; omega
  obtain ⟨a, ha⟩ : ∃ a, Pl.hear t = a := ⟨_, rfl⟩
  have Ha := Lib.hid ha
  obtain ⟨b, hb⟩ : ∃ b, Pl.hear a = b := ⟨_, rfl⟩
  have Hb := Lib.hid hb
  obtain ⟨u, hu⟩ : ∃ u, Pl.tickT t f = u := ⟨_, rfl⟩
  have Hu := Lib.hid hu
  obtain ⟨s, hs⟩ : ∃ s, Pl.tickB t f = s := ⟨_, rfl⟩
  have Hs := Lib.hid hs
  have hx := Pl.supp_late hv (show t.B + t.I ≤ f by omega) hf2
  have hu2 : Pl.tickT b f = u := by rw [← hb, ← ha, ← hu]; exact hx.1
  have hs2 : Pl.tickB b f = s := by rw [← hb, ← ha, ← hs]; exact hx.2.2
  have hC : (u.C == 0) = true := by rw [← hu, hx.2.1]; rfl
  have Hu2 := Lib.hid hu2
  have Hs2 := Lib.hid hs2
  clear hu hs ha hb hu2 hs2 hx
  have k0 := Tm.new w 23 t.I t.B t.F t.C t.S
  have B := B_alloc (Below.refl w.heap.size w) (.cells #[.int .i64 t.I, .int .i64 t.B, .int .i64 t.F, .int .i64 t.C, .int .i64 t.S] 23)
  obtain ⟨k0a, k0b, k0c, k0d, k0e⟩ := Tm.cells k0
  go_enter Tryd.func5, Tryd.ntmps5
  go_wp2_with fail
  refine (head_any _ (hL.below B)).mono ?_
  rintro e w1 ⟨rfl, hb⟩
  clear k0a k0b k0c k0d k0e
  replace B := B_trans B hb
  replace k0 := k0.below hb
  clear hb
  obtain ⟨k0a, k0b, k0c, k0d, k0e⟩ := Tm.cells k0
  go_wp2_with fail
  refine (rvalid_T t _ hv).mono ?_
  rintro e w2 ⟨rfl, hb⟩
  clear k0a k0b k0c k0d k0e
  replace B := B_trans B hb
  replace k0 := k0.below hb
  clear hb
  obtain ⟨k0a, k0b, k0c, k0d, k0e⟩ := Tm.cells k0
  go_wp2_with fail
  refine (hear_T t a _ Ha.out).mono ?_
  rintro e w3 ⟨rfl, hb⟩
  clear k0a k0b k0c k0d k0e
  replace B := B_trans B hb
  replace k0 := k0.below hb
  clear hb
  obtain ⟨k0a, k0b, k0c, k0d, k0e⟩ := Tm.cells k0
  go_wp2_with fail
  refine (hear_T a b _ Hb.out).mono ?_
  rintro e w4 ⟨rfl, hb⟩
  clear k0a k0b k0c k0d k0e
  replace B := B_trans B hb
  replace k0 := k0.below hb
  clear hb
  obtain ⟨k0a, k0b, k0c, k0d, k0e⟩ := Tm.cells k0
  go_wp2_with fail
  refine (tick_T b u s f _ (hL.below B) Hu2.out Hs2.out).mono ?_
  rintro e w5 ⟨rfl, hb⟩
  clear k0a k0b k0c k0d k0e
  replace B := B_trans B hb
  replace k0 := k0.below hb
  replace B := B_alloc B (.cells #[.int .i64 u.I, .int .i64 u.B, .int .i64 u.F, .int .i64 u.C, .int .i64 u.S] 23)
  replace k0 := k0.below (B_alloc (Below.refl _ _) (.cells #[.int .i64 u.I, .int .i64 u.B, .int .i64 u.F, .int .i64 u.C, .int .i64 u.S] 23))
  have k7 := Tm.new w5 23 u.I u.B u.F u.C u.S
  clear hb
  obtain ⟨k0a, k0b, k0c, k0d, k0e⟩ := Tm.cells k0
  obtain ⟨k7a, k7b, k7c, k7d, k7e⟩ := Tm.cells k7
  go_wp2_with fail
  refine (tick_T t u s f _ (hL.below B) Hu.out Hs.out).mono ?_
  rintro e w6 ⟨rfl, hb⟩
  clear k0a k0b k0c k0d k0e
  clear k7a k7b k7c k7d k7e
  replace B := B_trans B hb
  replace k0 := k0.below hb
  replace k7 := k7.below hb
  replace B := B_alloc B (.cells #[.int .i64 u.I, .int .i64 u.B, .int .i64 u.F, .int .i64 u.C, .int .i64 u.S] 23)
  replace k0 := k0.below (B_alloc (Below.refl _ _) (.cells #[.int .i64 u.I, .int .i64 u.B, .int .i64 u.F, .int .i64 u.C, .int .i64 u.S] 23))
  replace k7 := k7.below (B_alloc (Below.refl _ _) (.cells #[.int .i64 u.I, .int .i64 u.B, .int .i64 u.F, .int .i64 u.C, .int .i64 u.S] 23))
  have k9 := Tm.new w6 23 u.I u.B u.F u.C u.S
  clear hb
  obtain ⟨k0a, k0b, k0c, k0d, k0e⟩ := Tm.cells k0
  obtain ⟨k7a, k7b, k7c, k7d, k7e⟩ := Tm.cells k7
  obtain ⟨k9a, k9b, k9c, k9d, k9e⟩ := Tm.cells k9
  go_wp2_with fail
  refine (rframe_true f _ hf2).mono ?_
  rintro e w9 ⟨rfl, rfl⟩
  go_wp2_with fail
  go_ret
  exact ⟨ret_bool (by simp), B⟩
set_option maxHeartbeats 4000000 in
set_option maxRecDepth 100000 in
theorem supp_law_bad (t : Pl.T) (f : Int) (w : World) (hL : Laid w) (hv : t.Ok) (hf : ¬ f < t.B + t.I) (hf2 : f < 0 ∨ 999999984 < f) :
    Calls Tryd.prog 5 #[.agg #[.int .i64 t.I, .int .i64 t.B, .int .i64 t.F, .int .i64 t.C, .int .i64 t.S], .int .i64 f] w fun e w' => e = .returned (.bool true) ∧ Below w.heap.size w w' := by
  have tI1 : 1 ≤ t.I := by have := hv; unfold Pl.T.Ok Pl.Ok at this; omega
  have tI2 : t.I ≤ 8 := by have := hv; unfold Pl.T.Ok Pl.Ok at this; omega
  have tB1 : 0 ≤ t.B := by have := hv; unfold Pl.T.Ok Pl.Ok at this; omega
  have tB2 : t.B ≤ 999999984 := by have := hv; unfold Pl.T.Ok Pl.Ok at this; omega
  obtain ⟨a, ha⟩ : ∃ a, Pl.hear t = a := ⟨_, rfl⟩
  have Ha := Lib.hid ha
  obtain ⟨b, hb⟩ : ∃ b, Pl.hear a = b := ⟨_, rfl⟩
  have Hb := Lib.hid hb
  obtain ⟨u, hu⟩ : ∃ u, Pl.tickT b f = u := ⟨_, rfl⟩
  have Hu := Lib.hid hu
  obtain ⟨v, hv_⟩ : ∃ v, Pl.tickT t f = v := ⟨_, rfl⟩
  have Hv := Lib.hid hv_
  have hfo : ¬ Pl.frameOk f := by unfold Pl.frameOk; omega
  have hs : Pl.tickB b f = false := Pl.supp_bad hfo
  have hs2 : Pl.tickB t f = false := Pl.supp_bad hfo
  have Hs := Lib.hid hs
  have Hs2 := Lib.hid hs2
  clear hu hs ha hb hv_ hs2 hfo
  have k0 := Tm.new w 23 t.I t.B t.F t.C t.S
  have B := B_alloc (Below.refl w.heap.size w) (.cells #[.int .i64 t.I, .int .i64 t.B, .int .i64 t.F, .int .i64 t.C, .int .i64 t.S] 23)
  obtain ⟨k0a, k0b, k0c, k0d, k0e⟩ := Tm.cells k0
  go_enter Tryd.func5, Tryd.ntmps5
  go_wp2_with fail
  refine (head_any _ (hL.below B)).mono ?_
  rintro e w1 ⟨rfl, hb⟩
  clear k0a k0b k0c k0d k0e
  replace B := B_trans B hb
  replace k0 := k0.below hb
  clear hb
  obtain ⟨k0a, k0b, k0c, k0d, k0e⟩ := Tm.cells k0
  go_wp2_with fail
  refine (rvalid_T t _ hv).mono ?_
  rintro e w2 ⟨rfl, hb⟩
  clear k0a k0b k0c k0d k0e
  replace B := B_trans B hb
  replace k0 := k0.below hb
  clear hb
  obtain ⟨k0a, k0b, k0c, k0d, k0e⟩ := Tm.cells k0
  go_wp2_with fail
  refine (hear_T t a _ Ha.out).mono ?_
  rintro e w3 ⟨rfl, hb⟩
  clear k0a k0b k0c k0d k0e
  replace B := B_trans B hb
  replace k0 := k0.below hb
  clear hb
  obtain ⟨k0a, k0b, k0c, k0d, k0e⟩ := Tm.cells k0
  go_wp2_with fail
  refine (hear_T a b _ Hb.out).mono ?_
  rintro e w4 ⟨rfl, hb⟩
  clear k0a k0b k0c k0d k0e
  replace B := B_trans B hb
  replace k0 := k0.below hb
  clear hb
  obtain ⟨k0a, k0b, k0c, k0d, k0e⟩ := Tm.cells k0
  go_wp2_with fail
  refine (tick_T b u false f _ (hL.below B) Hu.out Hs.out).mono ?_
  rintro e w5 ⟨rfl, hb⟩
  clear k0a k0b k0c k0d k0e
  replace B := B_trans B hb
  replace k0 := k0.below hb
  replace B := B_alloc B (.cells #[.int .i64 u.I, .int .i64 u.B, .int .i64 u.F, .int .i64 u.C, .int .i64 u.S] 23)
  replace k0 := k0.below (B_alloc (Below.refl _ _) (.cells #[.int .i64 u.I, .int .i64 u.B, .int .i64 u.F, .int .i64 u.C, .int .i64 u.S] 23))
  have k7 := Tm.new w5 23 u.I u.B u.F u.C u.S
  clear hb
  obtain ⟨k0a, k0b, k0c, k0d, k0e⟩ := Tm.cells k0
  obtain ⟨k7a, k7b, k7c, k7d, k7e⟩ := Tm.cells k7
  go_wp2_with fail
  refine (tick_T t v false f _ (hL.below B) Hv.out Hs2.out).mono ?_
  rintro e w6 ⟨rfl, hb⟩
  clear k0a k0b k0c k0d k0e
  clear k7a k7b k7c k7d k7e
  replace B := B_trans B hb
  replace k0 := k0.below hb
  replace k7 := k7.below hb
  replace B := B_alloc B (.cells #[.int .i64 v.I, .int .i64 v.B, .int .i64 v.F, .int .i64 v.C, .int .i64 v.S] 23)
  replace k0 := k0.below (B_alloc (Below.refl _ _) (.cells #[.int .i64 v.I, .int .i64 v.B, .int .i64 v.F, .int .i64 v.C, .int .i64 v.S] 23))
  replace k7 := k7.below (B_alloc (Below.refl _ _) (.cells #[.int .i64 v.I, .int .i64 v.B, .int .i64 v.F, .int .i64 v.C, .int .i64 v.S] 23))
  have k9 := Tm.new w6 23 v.I v.B v.F v.C v.S
  clear hb
  obtain ⟨k0a, k0b, k0c, k0d, k0e⟩ := Tm.cells k0
  obtain ⟨k7a, k7b, k7c, k7d, k7e⟩ := Tm.cells k7
  obtain ⟨k9a, k9b, k9c, k9d, k9e⟩ := Tm.cells k9
  go_wp2_with fail
  refine (rframe_false f _ hf2).mono ?_
  rintro e w9 ⟨rfl, rfl⟩
  go_wp2_with fail
  go_ret
  exact ⟨ret_bool (by simp), B⟩
end Go.Proofs.YtomfbadniajnlaaDoor
