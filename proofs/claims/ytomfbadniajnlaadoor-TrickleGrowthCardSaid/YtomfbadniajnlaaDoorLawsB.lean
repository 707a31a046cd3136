/-
  The laws TrickleAgain, TrickleReset and TrickleSeldom: each returns true. Condition: the table of steps reads as its initialiser lays it.
-/
import Derived.Test.YtomfbadniajnlaaDoorLawsA
namespace Go.Proofs.YtomfbadniajnlaaDoor
open Go.RowKit

theorem TUs.tick {t : Pl.T} {f : Int} (h : TUs t f) : t.Ok ∧ t.B ≤ f ∧ f ≤ t.B + t.I ∧ f ≤ 900000000 := h
theorem hd_nil (w : World) (zs : List Int) (hz : zs = []) : HdOk w none 0 zs := by
  subst hz; exact ⟨by omega, fun j => by simp, fun h => by omega⟩
theorem hc_nil : Pl.hc [] 0 = fun _ => 0 := by funext i; simp [Pl.hc]
/-- The cells of the row of answers. -/
theorem said_cell {W : World} {base : Nat} {h : Nat → Nat} {t : Pl.T} {f : Int} {n g cap : Nat} (hown : W.ownsRow base 4 1 (.slice (some ⟨g, 0, none⟩) n cap) n (saidL h t f n)) (j : Nat) (hj : j < n) :
    W.cell? ⟨g, j, none⟩ = some (.bool (Pl.said h t f j)) := by
  have := hown.cells (g := g) rfl j (.bool (Pl.said h t f j)) (by simp [saidL, hj])
  have e : (⟨g, 0, none⟩ : Addr).add j = ⟨g, j, none⟩ := by unfold Addr.add; split <;> simp_all
  rwa [e] at this
theorem lastS_bd (t : Pl.T) (f : Int) (k : Nat) : -1 ≤ Pl.lastS t f k ∧ Pl.lastS t f k ≤ k := by
  induction k with
  | zero => exact ⟨by simp [Pl.lastS], by simp [Pl.lastS]⟩
  | succ k ih => rw [Pl.lastS]; split <;> omega
theorem ret_b {a b : Bool} (h : a = b) : Value.bool a = .bool b := by rw [h]
theorem HdOk.below {w W : World} {hd : Option Addr} {len : Nat} {zs : List Int} (h : HdOk w hd len zs) (hb : Below w.heap.size w W) : HdOk W hd len zs :=
  ⟨h.1, h.2.1, fun h0 => by
    obtain ⟨b, off, e, hlt, hc⟩ := h.2.2 h0
    exact ⟨b, off, e, Nat.lt_of_lt_of_le hlt hb.size, fun j hj => (hb.cell (p := ⟨b, off + j, none⟩) hlt).trans (hc j hj)⟩⟩
def Pl.anyS (t : Pl.T) (f : Int) : Nat → Bool
  | 0 => false
  | k + 1 => Pl.anyS t f k || Pl.said (fun _ => 0) t f k
theorem Pl.anyS_of {t : Pl.T} {f : Int} {i : Nat} (h : Pl.said (fun _ => 0) t f i = true) : ∀ k, i < k → Pl.anyS t f k = true := by
  intro k
  induction k with
  | zero => intro h0; omega
  | succ k ih =>
    intro h0
    rw [Pl.anyS]
    by_cases e : i = k
    · subst e; rw [h, Bool.or_true]
    · rw [ih (by omega), Bool.true_or]

set_option maxHeartbeats 4000000 in
set_option maxRecDepth 100000 in
theorem again_law_no (t : Pl.T) (w : World) (hL : Laid w) (hv : ¬ TUs t t.B) :
    Calls Tryd.prog 4 #[.agg #[.int .i64 t.I, .int .i64 t.B, .int .i64 t.F, .int .i64 t.C, .int .i64 t.S]] w fun e w' => e = .returned (.bool true) ∧ Below w.heap.size w w' := by
  have k0 := Tm.new w 23 t.I t.B t.F t.C t.S
  have B := B_alloc (Below.refl w.heap.size w) (.cells #[.int .i64 t.I, .int .i64 t.B, .int .i64 t.F, .int .i64 t.C, .int .i64 t.S] 23)
  obtain ⟨k0a, k0b, k0c, k0d, k0e⟩ := Tm.cells k0
  go_enter Tryd.func4, Tryd.ntmps4
  go_wp2_with fail
  refine (head_any _ (hL.below B)).mono ?_
  rintro e w1 ⟨rfl, hb⟩
  clear k0a k0b k0c k0d k0e
  replace B := B_trans B hb
  replace k0 := k0.below hb
  clear hb
  obtain ⟨k0a, k0b, k0c, k0d, k0e⟩ := Tm.cells k0
  go_wp2_with fail
  refine (usable_F t t.B _ hv).mono ?_
  rintro e w2 ⟨rfl, hb⟩
  clear k0a k0b k0c k0d k0e
  replace B := B_trans B hb
  replace k0 := k0.below hb
  clear hb
  obtain ⟨k0a, k0b, k0c, k0d, k0e⟩ := Tm.cells k0
  go_wp2_with fail
  go_ret
  exact ⟨ret_bool (by simp), B⟩
set_option maxHeartbeats 4000000 in
set_option maxRecDepth 100000 in
theorem again_law_many (t : Pl.T) (w : World) (hL : Laid w) (hv : TUs t t.B) (hC : 1 < t.C) :
    Calls Tryd.prog 4 #[.agg #[.int .i64 t.I, .int .i64 t.B, .int .i64 t.F, .int .i64 t.C, .int .i64 t.S]] w fun e w' => e = .returned (.bool true) ∧ Below w.heap.size w w' := by
  have k0 := Tm.new w 23 t.I t.B t.F t.C t.S
  have B := B_alloc (Below.refl w.heap.size w) (.cells #[.int .i64 t.I, .int .i64 t.B, .int .i64 t.F, .int .i64 t.C, .int .i64 t.S] 23)
  obtain ⟨k0a, k0b, k0c, k0d, k0e⟩ := Tm.cells k0
  go_enter Tryd.func4, Tryd.ntmps4
  go_wp2_with fail
  refine (head_any _ (hL.below B)).mono ?_
  rintro e w1 ⟨rfl, hb⟩
  clear k0a k0b k0c k0d k0e
  replace B := B_trans B hb
  replace k0 := k0.below hb
  clear hb
  obtain ⟨k0a, k0b, k0c, k0d, k0e⟩ := Tm.cells k0
  go_wp2_with fail
  refine (usable_T t t.B _ hv).mono ?_
  rintro e w2 ⟨rfl, hb⟩
  clear k0a k0b k0c k0d k0e
  replace B := B_trans B hb
  replace k0 := k0.below hb
  clear hb
  obtain ⟨k0a, k0b, k0c, k0d, k0e⟩ := Tm.cells k0
  go_wp2_with fail
  go_ret
  exact ⟨ret_bool (by simp), B⟩
set_option maxHeartbeats 4000000 in
set_option maxRecDepth 100000 in
theorem again_law_yes (t : Pl.T) (w : World) (hL : Laid w) (hv : TUs t t.B) (hC : t.C ≤ 1) :
    Calls Tryd.prog 4 #[.agg #[.int .i64 t.I, .int .i64 t.B, .int .i64 t.F, .int .i64 t.C, .int .i64 t.S]] w fun e w' => e = .returned (.bool true) ∧ Below w.heap.size w w' := by
  obtain ⟨ho, _, _, hv3⟩ := hv.tick
  have tB1 : 0 ≤ t.B := by have := ho; unfold Pl.T.Ok Pl.Ok at this; omega
  have hag := fun i hi => Pl.again ho hv3 (show t.C < 2 by omega) i hi
  have Hag := Lib.hid hag
  clear hag
  have k0 := Tm.new w 23 t.I t.B t.F t.C t.S
  have B := B_alloc (Below.refl w.heap.size w) (.cells #[.int .i64 t.I, .int .i64 t.B, .int .i64 t.F, .int .i64 t.C, .int .i64 t.S] 23)
  obtain ⟨k0a, k0b, k0c, k0d, k0e⟩ := Tm.cells k0
  go_enter Tryd.func4, Tryd.ntmps4
  go_wp2_with fail
  refine (head_any _ (hL.below B)).mono ?_
  rintro e w1 ⟨rfl, hb⟩
  clear k0a k0b k0c k0d k0e
  replace B := B_trans B hb
  replace k0 := k0.below hb
  clear hb
  obtain ⟨k0a, k0b, k0c, k0d, k0e⟩ := Tm.cells k0
  go_wp2_with fail
  refine (usable_T t t.B _ hv).mono ?_
  rintro e w2 ⟨rfl, hb⟩
  clear k0a k0b k0c k0d k0e
  replace B := B_trans B hb
  replace k0 := k0.below hb
  clear hb
  obtain ⟨k0a, k0b, k0c, k0d, k0e⟩ := Tm.cells k0
  go_wp2_with fail
  refine (speak_any t t.B 60 none 0 0 [] _ (hL.below B) (by omega) (by omega) (by omega) (hd_nil _ _ rfl)).mono ?_
  rintro e w3 ⟨v, u, hu_, rfl, hown, hb⟩
  clear hu_
  clear k0a k0b k0c k0d k0e
  replace B := B_trans B hb
  replace k0 := k0.below hb
  replace B := B_alloc B (.cells #[.int .i64 u.I, .int .i64 u.B, .int .i64 u.F, .int .i64 u.C, .int .i64 u.S] 23)
  replace hown := hown.alloc (.cells #[.int .i64 u.I, .int .i64 u.B, .int .i64 u.F, .int .i64 u.C, .int .i64 u.S] 23)
  replace k0 := k0.below (B_alloc (Below.refl _ _) (.cells #[.int .i64 u.I, .int .i64 u.B, .int .i64 u.F, .int .i64 u.C, .int .i64 u.S] 23))
  clear hb
  obtain ⟨rg, rcap, rfl⟩ := Joins.ownsRow_form hown (by omega)
  obtain ⟨k0a, k0b, k0c, k0d, k0e⟩ := Tm.cells k0
  go_wp2_with fail
  rw [hc_nil] at hown
  have hcl := said_cell hown
  have Hcl := Lib.hid hcl
  clear hcl
  clear k0a k0b k0c k0d k0e
  clear hown k0
  go_loop [3, 8, 9] (fun up la i => ∃ k : Nat, k ≤ 60 ∧ i = .int .i64 (k : Nat) ∧ up = .bool true ∧ la = .int .i64 (Pl.lastS t t.B k)) (fun _ _ i => 60 - (intOf i).toNat)
  case atStart => exact ⟨0, by omega, rfl, rfl, rfl⟩
  case round =>
    obtain ⟨k, hk, rfl, rfl, rfl⟩ := hrel
    by_cases hk2 : k < 60
    · have hc := Hcl.out k hk2
      have h12 := Hag.out k (by omega)
      have hl : Pl.lastS t t.B (k + 1) = if Pl.said (fun _ => 0) t t.B k = true then (k : Int) else Pl.lastS t t.B k := rfl
      have hm : -1 ≤ Pl.lastS t t.B k ∧ Pl.lastS t t.B k ≤ k := lastS_bd t t.B k
      rw [hl] at h12
      have hkk : (k : Int) < 60 := by omega
      obtain ⟨s, hs⟩ : ∃ s, Pl.said (fun _ => 0) t t.B k = s := ⟨_, rfl⟩
      rw [hs] at hc h12 hl
      obtain ⟨l, hl0⟩ : ∃ l, Pl.lastS t t.B k = l := ⟨_, rfl⟩
      rw [hl0] at h12 hl hm ⊢
      obtain ⟨hm1, hm2⟩ := hm
      have HL := Lib.hid hl
      clear hs hl0 hl
      cases s
      · replace h12 : (k : Int) - l < 12 := h12
        go_wp2_with fail
        go_round
        case rel => exact ⟨k + 1, by omega, by go_num, ret_b (by simp <;> omega), by rw [HL.out]; rfl⟩
        case measure => simp [intOf]; omega
      · clear h12
        go_wp2_with fail
        go_round
        case rel => exact ⟨k + 1, by omega, by go_num, ret_b (by simp <;> omega), by rw [HL.out]; rfl⟩
        case measure => simp [intOf]; omega
    · obtain rfl : k = 60 := by omega
      go_wp2_with fail
      go_ret
      exact ⟨ret_bool (by simp), B⟩
set_option maxHeartbeats 4000000 in
set_option maxRecDepth 100000 in
theorem reset_law_no (t : Pl.T) (f : Int) (w : World) (hL : Laid w) (hv : ¬ TUs t f) :
    Calls Tryd.prog 9 #[.agg #[.int .i64 t.I, .int .i64 t.B, .int .i64 t.F, .int .i64 t.C, .int .i64 t.S], .int .i64 f] w fun e w' => e = .returned (.bool true) ∧ Below w.heap.size w w' := by
  have k0 := Tm.new w 23 t.I t.B t.F t.C t.S
  have B := B_alloc (Below.refl w.heap.size w) (.cells #[.int .i64 t.I, .int .i64 t.B, .int .i64 t.F, .int .i64 t.C, .int .i64 t.S] 23)
  obtain ⟨k0a, k0b, k0c, k0d, k0e⟩ := Tm.cells k0
  go_enter Tryd.func9, Tryd.ntmps9
  go_wp2_with fail
  refine (head_any _ (hL.below B)).mono ?_
  rintro e w1 ⟨rfl, hb⟩
  clear k0a k0b k0c k0d k0e
  replace B := B_trans B hb
  replace k0 := k0.below hb
  clear hb
  obtain ⟨k0a, k0b, k0c, k0d, k0e⟩ := Tm.cells k0
  go_wp2_with fail
  refine (usable_F t f _ hv).mono ?_
  rintro e w2 ⟨rfl, hb⟩
  clear k0a k0b k0c k0d k0e
  replace B := B_trans B hb
  replace k0 := k0.below hb
  clear hb
  obtain ⟨k0a, k0b, k0c, k0d, k0e⟩ := Tm.cells k0
  go_wp2_with fail
  go_ret
  exact ⟨ret_bool (by simp), B⟩
set_option maxHeartbeats 4000000 in
set_option maxRecDepth 100000 in
theorem reset_law_yes (t : Pl.T) (f : Int) (w : World) (hL : Laid w) (hv : TUs t f) :
    Calls Tryd.prog 9 #[.agg #[.int .i64 t.I, .int .i64 t.B, .int .i64 t.F, .int .i64 t.C, .int .i64 t.S], .int .i64 f] w fun e w' => e = .returned (.bool true) ∧ Below w.heap.size w w' := by
  obtain ⟨ho, hv1, hv2, hv3⟩ := hv.tick
  have f0 : 0 ≤ f := by have := ho; unfold Pl.T.Ok Pl.Ok at this; omega
  obtain ⟨q, hq, hqs⟩ := Pl.reset_soon ho hv1 hv2 hv3
  have h4 := Pl.anyS_of hqs 4 hq
  clear hq hqs hv1 hv2 q
  obtain ⟨r, hr⟩ : ∃ r, Pl.reset t f = r := ⟨_, rfl⟩
  have Hr := Lib.hid hr
  rw [hr] at h4
  clear hr
  have H4 := Lib.hid h4
  clear h4
  have k0 := Tm.new w 23 t.I t.B t.F t.C t.S
  have B := B_alloc (Below.refl w.heap.size w) (.cells #[.int .i64 t.I, .int .i64 t.B, .int .i64 t.F, .int .i64 t.C, .int .i64 t.S] 23)
  obtain ⟨k0a, k0b, k0c, k0d, k0e⟩ := Tm.cells k0
  go_enter Tryd.func9, Tryd.ntmps9
  go_wp2_with fail
  refine (head_any _ (hL.below B)).mono ?_
  rintro e w1 ⟨rfl, hb⟩
  clear k0a k0b k0c k0d k0e
  replace B := B_trans B hb
  replace k0 := k0.below hb
  clear hb
  obtain ⟨k0a, k0b, k0c, k0d, k0e⟩ := Tm.cells k0
  go_wp2_with fail
  refine (usable_T t f _ hv).mono ?_
  rintro e w2 ⟨rfl, hb⟩
  clear k0a k0b k0c k0d k0e
  replace B := B_trans B hb
  replace k0 := k0.below hb
  clear hb
  obtain ⟨k0a, k0b, k0c, k0d, k0e⟩ := Tm.cells k0
  go_wp2_with fail
  refine (reset_T t r f _ (hL.below B) Hr.out).mono ?_
  rintro e w3 ⟨rfl, hb⟩
  clear k0a k0b k0c k0d k0e
  replace B := B_trans B hb
  replace k0 := k0.below hb
  clear hb
  obtain ⟨k0a, k0b, k0c, k0d, k0e⟩ := Tm.cells k0
  go_wp2_with fail
  refine (speak_any r f 4 none 0 0 [] _ (hL.below B) (by omega) (by omega) (by omega) (hd_nil _ _ rfl)).mono ?_
  rintro e w4 ⟨v, u, hu_, rfl, hown, hb⟩
  clear hu_
  clear k0a k0b k0c k0d k0e
  replace B := B_trans B hb
  replace k0 := k0.below hb
  replace B := B_alloc B (.cells #[.int .i64 u.I, .int .i64 u.B, .int .i64 u.F, .int .i64 u.C, .int .i64 u.S] 23)
  replace hown := hown.alloc (.cells #[.int .i64 u.I, .int .i64 u.B, .int .i64 u.F, .int .i64 u.C, .int .i64 u.S] 23)
  replace k0 := k0.below (B_alloc (Below.refl _ _) (.cells #[.int .i64 u.I, .int .i64 u.B, .int .i64 u.F, .int .i64 u.C, .int .i64 u.S] 23))
  clear hb
  obtain ⟨rg, rcap, rfl⟩ := Joins.ownsRow_form hown (by omega)
  obtain ⟨k0a, k0b, k0c, k0d, k0e⟩ := Tm.cells k0
  go_wp2_with fail
  rw [hc_nil] at hown
  have hcl := said_cell hown
  have Hcl := Lib.hid hcl
  clear hcl
  clear k0a k0b k0c k0d k0e
  clear hown k0
  go_loop [9, 10] (fun so i => ∃ k : Nat, k ≤ 4 ∧ i = .int .i64 (k : Nat) ∧ so = .bool (Pl.anyS r f k)) (fun _ i => 4 - (intOf i).toNat)
  case atStart => exact ⟨0, by omega, rfl, rfl⟩
  case round =>
    obtain ⟨k, hk, rfl, rfl⟩ := hrel
    by_cases hk2 : k < 4
    · have hc := Hcl.out k hk2
      have hl : Pl.anyS r f (k + 1) = (Pl.anyS r f k || Pl.said (fun _ => 0) r f k) := rfl
      have hkk : (k : Int) < 4 := by omega
      obtain ⟨s, hs⟩ : ∃ s, Pl.said (fun _ => 0) r f k = s := ⟨_, rfl⟩
      rw [hs] at hc hl
      obtain ⟨a, ha⟩ : ∃ a, Pl.anyS r f k = a := ⟨_, rfl⟩
      rw [ha] at hl ⊢
      have HL := Lib.hid hl
      clear hs ha hl
      cases a
      all_goals
        go_wp2_with fail
        go_round
        case rel => exact ⟨k + 1, by omega, by go_num, by rw [HL.out]; simp⟩
        case measure => simp [intOf]; omega
    · obtain rfl : k = 4 := by omega
      rw [H4.out]
      go_wp2_with fail
      go_ret
      exact ⟨ret_bool (by simp), B⟩
set_option maxHeartbeats 4000000 in
set_option maxRecDepth 100000 in
theorem seldom_law_no (t : Pl.T) (f : Int) (hd : Option Addr) (len cap : Nat) (w : World) (hL : Laid w) (hv : ¬ TUs t f) :
    Calls Tryd.prog 3 #[.agg #[.int .i64 t.I, .int .i64 t.B, .int .i64 t.F, .int .i64 t.C, .int .i64 t.S], .int .i64 f, .slice hd len cap] w fun e w' => e = .returned (.bool true) ∧ Below w.heap.size w w' := by
  have k0 := Tm.new w 23 t.I t.B t.F t.C t.S
  have B := B_alloc (Below.refl w.heap.size w) (.cells #[.int .i64 t.I, .int .i64 t.B, .int .i64 t.F, .int .i64 t.C, .int .i64 t.S] 23)
  obtain ⟨k0a, k0b, k0c, k0d, k0e⟩ := Tm.cells k0
  go_enter Tryd.func3, Tryd.ntmps3
  go_wp2_with fail
  refine (head_any _ (hL.below B)).mono ?_
  rintro e w1 ⟨rfl, hb⟩
  clear k0a k0b k0c k0d k0e
  replace B := B_trans B hb
  replace k0 := k0.below hb
  clear hb
  obtain ⟨k0a, k0b, k0c, k0d, k0e⟩ := Tm.cells k0
  go_wp2_with fail
  refine (usable_F t f _ hv).mono ?_
  rintro e w2 ⟨rfl, hb⟩
  clear k0a k0b k0c k0d k0e
  replace B := B_trans B hb
  replace k0 := k0.below hb
  clear hb
  obtain ⟨k0a, k0b, k0c, k0d, k0e⟩ := Tm.cells k0
  go_wp2_with fail
  go_ret
  exact ⟨ret_bool (by simp), B⟩
set_option maxHeartbeats 4000000 in
set_option maxRecDepth 100000 in
theorem seldom_law_other (t : Pl.T) (f : Int) (hd : Option Addr) (len cap : Nat) (w : World) (hL : Laid w) (hv : TUs t f) (h8 : ¬ t.I = 8) :
    Calls Tryd.prog 3 #[.agg #[.int .i64 t.I, .int .i64 t.B, .int .i64 t.F, .int .i64 t.C, .int .i64 t.S], .int .i64 f, .slice hd len cap] w fun e w' => e = .returned (.bool true) ∧ Below w.heap.size w w' := by
  have k0 := Tm.new w 23 t.I t.B t.F t.C t.S
  have B := B_alloc (Below.refl w.heap.size w) (.cells #[.int .i64 t.I, .int .i64 t.B, .int .i64 t.F, .int .i64 t.C, .int .i64 t.S] 23)
  obtain ⟨k0a, k0b, k0c, k0d, k0e⟩ := Tm.cells k0
  go_enter Tryd.func3, Tryd.ntmps3
  go_wp2_with fail
  refine (head_any _ (hL.below B)).mono ?_
  rintro e w1 ⟨rfl, hb⟩
  clear k0a k0b k0c k0d k0e
  replace B := B_trans B hb
  replace k0 := k0.below hb
  clear hb
  obtain ⟨k0a, k0b, k0c, k0d, k0e⟩ := Tm.cells k0
  go_wp2_with fail
  refine (usable_T t f _ hv).mono ?_
  rintro e w2 ⟨rfl, hb⟩
  clear k0a k0b k0c k0d k0e
  replace B := B_trans B hb
  replace k0 := k0.below hb
  clear hb
  obtain ⟨k0a, k0b, k0c, k0d, k0e⟩ := Tm.cells k0
  go_wp2_with fail
  go_ret
  exact ⟨ret_bool (by simp), B⟩
set_option maxHeartbeats 4000000 in
set_option maxRecDepth 100000 in
theorem seldom_law_yes (t : Pl.T) (f : Int) (hd : Option Addr) (len cap : Nat) (zs : List Int) (w : World) (hL : Laid w) (hv : TUs t f) (h8 : t.I = 8) (hH : HdOk w hd len zs) :
    Calls Tryd.prog 3 #[.agg #[.int .i64 t.I, .int .i64 t.B, .int .i64 t.F, .int .i64 t.C, .int .i64 t.S], .int .i64 f, .slice hd len cap] w fun e w' => e = .returned (.bool true) ∧ Below w.heap.size w w' := by
  obtain ⟨ho, hv1, hv2, hv3⟩ := hv.tick
  have f0 : 0 ≤ f := by have := ho; unfold Pl.T.Ok Pl.Ok at this; omega
  have hse := fun i k => Pl.seldom (Pl.hc zs len) ho hv1 hv2 hv3 h8 i k
  have Hse := Lib.hid hse
  have h8' : (t.I == 8) = true := by simpa using h8
  have h9 : decide (t.I = 8) = true := by simpa using h8
  clear hse hv1 hv2
  obtain ⟨t8, h88⟩ : ∃ x : Int, x = t.I := ⟨_, rfl⟩
  clear h88 t8 h8' h9
  have H8 := Lib.hid h8
  clear h8
  have k0 := Tm.new w 23 t.I t.B t.F t.C t.S
  rw [H8.out] at k0
  have B := B_alloc (Below.refl w.heap.size w) (.cells #[.int .i64 t.I, .int .i64 t.B, .int .i64 t.F, .int .i64 t.C, .int .i64 t.S] 23)
  rw [H8.out] at B
  have hus := fun W => usable_T t f W hv
  have hsp := fun W hW hL => speak_any t f 60 hd len cap zs W hL f0 (by omega) (by omega) hW
  rw [H8.out] at hus hsp ⊢
  obtain ⟨k0a, k0b, k0c, k0d, k0e⟩ := Tm.cells k0
  go_enter Tryd.func3, Tryd.ntmps3
  go_wp2_with fail
  refine (head_any _ (hL.below B)).mono ?_
  rintro e w1 ⟨rfl, hb⟩
  clear k0a k0b k0c k0d k0e
  replace B := B_trans B hb
  replace k0 := k0.below hb
  clear hb
  obtain ⟨k0a, k0b, k0c, k0d, k0e⟩ := Tm.cells k0
  go_wp2_with fail
  refine (hus _).mono ?_
  rintro e w2 ⟨rfl, hb⟩
  clear k0a k0b k0c k0d k0e
  replace B := B_trans B hb
  replace k0 := k0.below hb
  clear hb
  obtain ⟨k0a, k0b, k0c, k0d, k0e⟩ := Tm.cells k0
  go_wp2_with fail
  refine (hsp _ (hH.below B) (hL.below B)).mono ?_
  rintro e w3 ⟨v, u, hu_, rfl, hown, hb⟩
  clear hu_ hsp hus
  clear k0a k0b k0c k0d k0e
  replace B := B_alloc (B_trans B hb) (.cells #[.int .i64 u.I, .int .i64 u.B, .int .i64 u.F, .int .i64 u.C, .int .i64 u.S] 23)
  replace hown := hown.alloc (.cells #[.int .i64 u.I, .int .i64 u.B, .int .i64 u.F, .int .i64 u.C, .int .i64 u.S] 23)
  clear hb k0
  obtain ⟨rg, rcap, rfl⟩ := Joins.ownsRow_form hown (by omega)
  have hcl := said_cell hown
  have Hcl := Lib.hid hcl
  clear hcl hown hH
  go_wp2_with fail
  go_loop [7, 11] (fun up i => ∃ k : Nat, k ≤ 60 ∧ i = .int .i64 (k : Nat) ∧ up = .bool true) (fun _ i => 60 - (intOf i).toNat)
  case atStart => exact ⟨0, by omega, rfl, rfl⟩
  case round =>
    obtain ⟨i, hi, rfl, rfl⟩ := hrel
    by_cases hi2 : i < 60
    · have hci := Hcl.out i hi2
      obtain ⟨si, hsi⟩ : ∃ s, Pl.said (Pl.hc zs len) t f i = s := ⟨_, rfl⟩
      rw [hsi] at hci
      have HSi := Lib.hid hsi
      clear hsi
      have hii : (i : Int) < 60 := by omega
      go_wp2_with fail
      go_loop [7, 12] (fun up kk => ∃ k : Nat, i < k ∧ k ≤ 60 ∧ k ≤ i + 4 ∧ kk = .int .i64 (k : Nat) ∧ up = .bool true) (fun _ kk => 60 - (intOf kk).toNat)
      case atStart => exact ⟨i + 1, by omega, by omega, by omega, by go_num, rfl⟩
      case round =>
        obtain ⟨k, hk1, hk2, hk3, rfl, rfl⟩ := hrel
        by_cases hkk : k < 60 ∧ k < i + 4
        · obtain ⟨hk4, hk5⟩ := hkk
          have hck := Hcl.out k hk4
          obtain ⟨sk, hsk⟩ : ∃ s, Pl.said (Pl.hc zs len) t f k = s := ⟨_, rfl⟩
          rw [hsk] at hck
          have hno : ¬ (si = true ∧ sk = true) := fun hh => Hse.out i k hk1 hk5 hk4 (HSi.out.trans hh.1) (hsk.trans hh.2)
          have hk6 : (k : Int) < 60 := by omega
          have hk7 : (k : Int) < i + 4 := by omega
          clear hsk
          cases si
          · clear hno
            go_wp2_with fail
            go_round
            case rel => exact ⟨k + 1, by omega, by omega, by omega, by go_num, rfl⟩
            case measure => simp [intOf]; omega
          · obtain rfl : sk = false := by cases sk <;> simp_all
            clear hno
            go_wp2_with fail
            go_round
            case rel => exact ⟨k + 1, by omega, by omega, by omega, by go_num, rfl⟩
            case measure => simp [intOf]; omega
        · have hk4 : ¬ (k : Int) < 60 ∨ ((k : Int) < 60 ∧ ¬ (k : Int) < i + 4) := by omega
          clear hkk
          rcases hk4 with hk4 | ⟨hk4, hk5⟩
          all_goals
            go_wp2_with fail
            go_round
            case rel => exact ⟨i + 1, by omega, by go_num, rfl⟩
            case measure => simp [intOf]; omega
    · obtain rfl : i = 60 := by omega
      go_wp2_with fail
      go_ret
      exact ⟨ret_bool (by simp), B⟩
end Go.Proofs.YtomfbadniajnlaaDoor
