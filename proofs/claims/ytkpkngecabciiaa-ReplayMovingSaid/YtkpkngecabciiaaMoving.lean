/-
  If a window whose Top is at least 64, and a counter are moved by the same number, the window after it is moved, too: the walk of ReplayMoving. Conditions: none.
-/
import Derived.Test.YtkpkngecabciiaaMatch
namespace Go.Proofs.Ytkpkngecabciiaa
open Go.RowKit

theorem valid_move {t k : Int} {b : Nat} (hv : Pl.valid t b = true) (h64 : 64 ≤ t) (hk : 0 ≤ k) (hm : t + k ≤ 1000000000) : Pl.valid (t + k) b = true := by
  have bt := Pl.valid_bd hv
  rw [Pl.valid_mid (by omega) bt.2, if_neg (by omega)] at hv
  rw [Pl.valid_mid (by omega) hm, if_neg (by omega)]
  exact hv
theorem fresh_move {t n k : Int} {b : Nat} (hv : Pl.valid t b = true) (hn : Pl.isCtr n = true) (h64 : 64 ≤ t) (hk : 0 ≤ k) (hm : t + k ≤ 1000000000) (hm2 : n + k ≤ 1000000000) : Pl.fresh (t + k) b (n + k) = Pl.fresh t b n := by
  have bn := Pl.isCtr_bd hn
  have e : t + k - (n + k) = t - n := by omega
  simp [Pl.fresh, hv, hn, valid_move hv h64 hk hm, Pl.isCtr_of (show 1 ≤ n + k by omega) hm2, e]
theorem note_move {t n k : Int} {b : Nat} (hv : Pl.valid t b = true) (hn : Pl.isCtr n = true) (h64 : 64 ≤ t) (hk : 0 ≤ k) (hm : t + k ≤ 1000000000) (hm2 : n + k ≤ 1000000000) :
    (Pl.fresh t b n = true → (Pl.note (t + k) b (n + k)).t = (Pl.note t b n).t + k) ∧ (Pl.fresh t b n = false → (Pl.note (t + k) b (n + k)).t = 0) ∧ (Pl.note (t + k) b (n + k)).b = (Pl.note t b n).b ∧ (Pl.note (t + k) b (n + k)).e = (Pl.note t b n).e := by
  have bn := Pl.isCtr_bd hn
  have e1 : max (t + k) (n + k) = max t n + k := by omega
  have e2 : max t n + k - (t + k) = max t n - t := by omega
  have e3 : max t n + k - (n + k) = max t n - n := by omega
  have hf := fresh_move hv hn h64 hk hm hm2
  have hv2 := valid_move hv h64 hk hm
  have hn2 := Pl.isCtr_of (show 1 ≤ n + k by omega) hm2
  cases hc : Pl.fresh t b n
  · rw [hc] at hf
    simp [Pl.note, hv, hn, hv2, hn2, hf, hc]
  · rw [hc] at hf
    simp [Pl.note, hv, hn, hv2, hn2, hf, hc, e1, e2, e3, Pl.nbits]
theorem note_ends {t n : Int} {b : Nat} (hv : Pl.valid t b = true) (hn : Pl.isCtr n = true) : (Pl.fresh t b n = true ∧ (Pl.note t b n).e = 0) ∨ (Pl.fresh t b n = false ∧ (Pl.note t b n).e = 14 ∧ (Pl.note t b n).t = 0 ∧ (Pl.note t b n).b = 0) := by
  cases hc : Pl.fresh t b n
  · right; simp [Pl.note, hv, hn, hc]
  · left; simp [Pl.note, hv, hn, hc]

theorem keep4 {W0 W W' : World} {a b : Nat} {a0 a1 b0 b1 : Value} (h : W.cell? ⟨a, 0, none⟩ = some a0 ∧ W.cell? ⟨a, 1, none⟩ = some a1 ∧ W.cell? ⟨b, 0, none⟩ = some b0 ∧ W.cell? ⟨b, 1, none⟩ = some b1 ∧ Below W0.heap.size W0 W) (hb : Below W.heap.size W W') :
    W'.cell? ⟨a, 0, none⟩ = some a0 ∧ W'.cell? ⟨a, 1, none⟩ = some a1 ∧ W'.cell? ⟨b, 0, none⟩ = some b0 ∧ W'.cell? ⟨b, 1, none⟩ = some b1 ∧ Below W0.heap.size W0 W' := by
  have K : ∀ {g o : Nat} {v : Value}, W.cell? ⟨g, o, none⟩ = some v → W'.cell? ⟨g, o, none⟩ = some v := fun {g o v} hc => by
    have hlt : g < W.heap.size := by
      unfold World.cell? at hc
      cases ho : W.heap[g]? with
      | none => simp [ho] at hc
      | some x => exact (Array.getElem?_eq_some_iff.1 ho).1
    exact (hb.cell (p := ⟨g, o, none⟩) hlt).trans hc
  exact ⟨K h.1, K h.2.1, K h.2.2.1, K h.2.2.2.1, B_trans h.2.2.2.2 hb⟩

set_option maxHeartbeats 2000000 in
theorem moving_out (t : Int) (b : Nat) (n k : Int) (w : World) (hb : b < 2 ^ 64) (h : ¬ (Pl.valid t b = true ∧ 64 ≤ t ∧ Pl.isCtr n = true ∧ t ≤ 500000000 ∧ n ≤ 500000000)) :
    Calls Try.prog 6 #[.agg #[.int .i64 t, .int .u64 b], .int .i64 n, .int .u16 k] w fun e w' => e = .returned (.bool true) ∧ Below w.heap.size w w' := by
  have k0 := Win.new w (.int .i64 t) (.int .u64 b)
  have HH := Lib.hid h
  clear h
  cases hv : Pl.valid t b
  · go_enter Try.func6, Try.ntmps6
    go_wp2_with fail
    refine (head_any _).mono ?_
    rintro e w1 ⟨rfl, hb1⟩
    have B : Below w.heap.size w w1 := (Joins.below_alloc1 w _).trans (hb1.mono (by simp))
    replace k0 := k0.below hb1
    obtain ⟨c0, c1, -, -⟩ := k0.all
    go_wp2_with fail
    refine (rvalid_any t b _ hb).mono ?_
    rw [hv]
    rintro e w2 ⟨rfl, hb2⟩
    go_wp2_with fail
    go_ret
    exact ⟨rfl, B_trans B hb2⟩
  have HV := Lib.hid hv
  clear hv
  by_cases h64 : t < 64
  · go_enter Try.func6, Try.ntmps6
    go_wp2_with fail
    refine (head_any _).mono ?_
    rintro e w1 ⟨rfl, hb1⟩
    have B : Below w.heap.size w w1 := (Joins.below_alloc1 w _).trans (hb1.mono (by simp))
    replace k0 := k0.below hb1
    obtain ⟨c0, c1, -, -⟩ := k0.all
    go_wp2_with fail
    refine (rvalid_any t b _ hb).mono ?_
    rw [HV.out]
    rintro e w2 ⟨rfl, hb2⟩
    replace k0 := k0.below hb2
    clear c0 c1
    obtain ⟨c0, c1, -, -⟩ := k0.all
    go_wp2_with fail
    go_ret
    exact ⟨rfl, B_trans B hb2⟩
  cases hn : Pl.isCtr n
  all_goals
    have HN := Lib.hid hn
    clear hn
    go_enter Try.func6, Try.ntmps6
    go_wp2_with fail
    refine (head_any _).mono ?_
    rintro e w1 ⟨rfl, hb1⟩
    have B : Below w.heap.size w w1 := (Joins.below_alloc1 w _).trans (hb1.mono (by simp))
    replace k0 := k0.below hb1
    obtain ⟨c0, c1, -, -⟩ := k0.all
    go_wp2_with fail
    refine (rvalid_any t b _ hb).mono ?_
    rw [HV.out]
    rintro e w2 ⟨rfl, hb2⟩
    replace k0 := k0.below hb2
    clear c0 c1
    obtain ⟨c0, c1, -, -⟩ := k0.all
    go_wp2_with fail
    refine (rctr_any n _).mono ?_
    rw [HN.out]
    rintro e w3 ⟨rfl, rfl⟩
  · go_wp2_with fail
    go_ret
    exact ⟨rfl, B_trans B hb2⟩
  · by_cases h5 : 500000000 < t
    · go_wp2_with fail
      go_ret
      exact ⟨rfl, B_trans B hb2⟩
    · have h6 : 500000000 < n := by
        refine Int.not_le.1 fun h6 => HH.out ⟨HV.out, by omega, HN.out, by omega, h6⟩
      go_wp2_with fail
      go_ret
      exact ⟨rfl, B_trans B hb2⟩

set_option maxHeartbeats 2000000 in
theorem moving_in (t : Int) (b : Nat) (n k : Int) (w : World) (hb : b < 2 ^ 64) (hv : Pl.valid t b = true) (h64 : 64 ≤ t) (hn : Pl.isCtr n = true) (h5 : t ≤ 500000000) (h6 : n ≤ 500000000) (hk0 : 0 ≤ k) (hk1 : k ≤ 65535) :
    Calls Try.prog 6 #[.agg #[.int .i64 t, .int .u64 b], .int .i64 n, .int .u16 k] w fun e w' => e = .returned (.bool true) ∧ Below w.heap.size w w' := by
  have k0 := Win.new w (.int .i64 t) (.int .u64 b)
  have bn := Pl.isCtr_bd hn
  have hfm := fresh_move hv hn h64 hk0 (show t + k ≤ 1000000000 by omega) (show n + k ≤ 1000000000 by omega)
  obtain ⟨hm1, hm4, hm2, hm3⟩ := note_move hv hn h64 hk0 (show t + k ≤ 1000000000 by omega) (show n + k ≤ 1000000000 by omega)
  rcases note_ends (t := t) (n := n) (b := b) hv hn with ⟨hf, he⟩ | ⟨hf, he, ht0, hb0⟩
  · have A1 := Lib.hid (fun w => note_at t b n w b (Pl.note t b n).t ((Pl.note t b n).b : Nat) 0 rfl hb rfl rfl he)
    have A2 := Lib.hid (fun w => note_at (t + k) b (n + k) w b ((Pl.note t b n).t + k) ((Pl.note t b n).b : Nat) 0 rfl hb (hm1 hf) (by rw [hm2]) (hm3.trans he))
    have A3 := Lib.hid hf
    have A4 := Lib.hid (hfm.trans hf)
    have HT : 0 ≤ (Pl.note t b n).t ∧ (Pl.note t b n).t ≤ 1000000000 := by
      have : (Pl.note t b n).t = max t n := by simp [Pl.note, hv, hn, hf]
      omega
    revert A1 A2 HT
    generalize (Pl.note t b n).t = T
    generalize (Pl.note t b n).b = Z
    intro A1 A2 HT
    have HV := Lib.hid hv
    have HN := Lib.hid hn
    clear hm1 hm2 hm3 hm4 he hf hfm hv hn
    go_enter Try.func6, Try.ntmps6
    go_wp2_with fail
    refine (head_any _).mono ?_
    rintro e w1 ⟨rfl, hb1⟩
    have B : Below w.heap.size w w1 := (Joins.below_alloc1 w _).trans (hb1.mono (by simp))
    replace k0 := k0.below hb1
    obtain ⟨c0, c1, -, -⟩ := k0.all
    go_wp2_with fail
    refine (rvalid_any t b _ hb).mono ?_
    rw [HV.out]
    rintro e w2 ⟨rfl, hb2⟩
    replace k0 := k0.below hb2
    replace B := B_trans B hb2
    clear c0 c1
    obtain ⟨c0, c1, -, -⟩ := k0.all
    go_wp2_with fail
    refine (rctr_any n _).mono ?_
    rw [HN.out]
    rintro e w3 ⟨rfl, rfl⟩
    have k1 := Win.new w2 (.int .i64 (t + k)) (.int .u64 b)
    have k0' := k0.alloc (.cells #[.int .i64 (t + k), .int .u64 b] 24)
    obtain ⟨d0, d1, -, -⟩ := k0'.all
    go_wp2_with fail
    refine (A1.out _).mono ?_
    rintro e w4 ⟨rfl, hb4⟩
    replace k0 := (k0'.below hb4).alloc (.cells #[.int .i64 T, .int .u64 (Z : Nat)] 24)
    replace k1 := (k1.below hb4).alloc (.cells #[.int .i64 T, .int .u64 (Z : Nat)] 24)
    have k2 := Win.new w4 (.int .i64 T) (.int .u64 (Z : Nat))
    replace B := B_alloc (B_trans (B_alloc B _) hb4) (.cells #[.int .i64 T, .int .u64 (Z : Nat)] 24)
    clear c0 c1 d0 d1 k0'
    obtain ⟨c0, c1, -, -⟩ := k0.all
    obtain ⟨d0, d1, -, -⟩ := k1.all
    go_wp2_with fail
    refine (A2.out _).mono ?_
    rintro e w5 ⟨rfl, hb5⟩
    replace k0 := (k0.below hb5).alloc (.cells #[.int .i64 (T + k), .int .u64 (Z : Nat)] 24)
    replace k1 := (k1.below hb5).alloc (.cells #[.int .i64 (T + k), .int .u64 (Z : Nat)] 24)
    replace k2 := (k2.below hb5).alloc (.cells #[.int .i64 (T + k), .int .u64 (Z : Nat)] 24)
    have k3 := Win.new w5 (.int .i64 (T + k)) (.int .u64 (Z : Nat))
    replace B := B_alloc (B_trans B hb5) (.cells #[.int .i64 (T + k), .int .u64 (Z : Nat)] 24)
    clear c0 c1 d0 d1
    obtain ⟨c0, c1, -, -⟩ := k0.all
    obtain ⟨d0, d1, -, -⟩ := k1.all
    obtain ⟨W0, hW0⟩ : ∃ W0 : World, W0 = w5.alloc (.cells #[.int .i64 (T + k), .int .u64 (Z : Nat)] 24) := ⟨_, rfl⟩
    have B0 : Below W0.heap.size W0 (w5.alloc (.cells #[.int .i64 (T + k), .int .u64 (Z : Nat)] 24)).drew := by rw [hW0]; exact (Below.refl _ _).drew
    have HW0 := Lib.hid hW0
    clear hW0
    have hS0 := And.intro c0 (And.intro c1 (And.intro d0 (And.intro d1 B0)))
    go_wp2_with fail
    have hf1 := A3.out
    have hf2 := A4.out
    have hwr : IntKind.i64.wrap (n + k) = n + k := IntWalk.i64_in _ (by omega)
    go_region_held3 (fun W => W.cell? ⟨w.heap.size, 0, none⟩ = some (.int .i64 t) ∧ W.cell? ⟨w.heap.size, 1, none⟩ = some (.int .u64 b) ∧ W.cell? ⟨w2.heap.size, 0, none⟩ = some (.int .i64 (t + k)) ∧ W.cell? ⟨w2.heap.size, 1, none⟩ = some (.int .u64 b) ∧ Below W0.heap.size W0 W)
      (first | assumption | exact hS0 | (refine keep4 ?_ hb'; assumption))
      (first
        | (go_at_call 14; refine (fresh_any _ b _ _ hb).mono ?_; rintro e w' ⟨rfl, hb'⟩))
    all_goals
      have hEnd := (by assumption : _ ∧ _ ∧ _ ∧ _ ∧ Below W0.heap.size W0 _)
      have hB := hEnd.2.2.2.2
      rw [HW0.out] at hB
      obtain ⟨g0, g1, -, -⟩ := (k2.below hB).all
      obtain ⟨i0, i1, -, -⟩ := (k3.below hB).all
      go_wp2_with fail
      go_ret
      exact ⟨rfl, B_trans B hB⟩
  · have A1 := Lib.hid (fun w => note_at t b n w b 0 0 14 rfl hb ht0 (by rw [hb0]; rfl) he)
    have A2 := Lib.hid (fun w => note_at (t + k) b (n + k) w b 0 0 14 rfl hb (hm4 hf) (by rw [hm2, hb0]; rfl) (hm3.trans he))
    have A3 := Lib.hid hf
    have A4 := Lib.hid (hfm.trans hf)
    have HV := Lib.hid hv
    have HN := Lib.hid hn
    clear hm1 hm2 hm3 hm4 he hf hfm hv hn ht0 hb0
    go_enter Try.func6, Try.ntmps6
    go_wp2_with fail
    refine (head_any _).mono ?_
    rintro e w1 ⟨rfl, hb1⟩
    have B : Below w.heap.size w w1 := (Joins.below_alloc1 w _).trans (hb1.mono (by simp))
    replace k0 := k0.below hb1
    obtain ⟨c0, c1, -, -⟩ := k0.all
    go_wp2_with fail
    refine (rvalid_any t b _ hb).mono ?_
    rw [HV.out]
    rintro e w2 ⟨rfl, hb2⟩
    replace k0 := k0.below hb2
    replace B := B_trans B hb2
    clear c0 c1
    obtain ⟨c0, c1, -, -⟩ := k0.all
    go_wp2_with fail
    refine (rctr_any n _).mono ?_
    rw [HN.out]
    rintro e w3 ⟨rfl, rfl⟩
    have k1 := Win.new w2 (.int .i64 (t + k)) (.int .u64 b)
    have k0' := k0.alloc (.cells #[.int .i64 (t + k), .int .u64 b] 24)
    obtain ⟨d0, d1, -, -⟩ := k0'.all
    go_wp2_with fail
    refine (A1.out _).mono ?_
    rintro e w4 ⟨rfl, hb4⟩
    replace k0 := (k0'.below hb4).alloc (.cells #[.int .i64 0, .int .u64 0] 24)
    replace k1 := (k1.below hb4).alloc (.cells #[.int .i64 0, .int .u64 0] 24)
    have k2 := Win.new w4 (.int .i64 0) (.int .u64 0)
    replace B := B_alloc (B_trans (B_alloc B _) hb4) (.cells #[.int .i64 0, .int .u64 0] 24)
    clear c0 c1 d0 d1 k0'
    obtain ⟨c0, c1, -, -⟩ := k0.all
    obtain ⟨d0, d1, -, -⟩ := k1.all
    go_wp2_with fail
    refine (A2.out _).mono ?_
    rintro e w5 ⟨rfl, hb5⟩
    replace k0 := (k0.below hb5).alloc (.cells #[.int .i64 0, .int .u64 0] 24)
    replace k1 := (k1.below hb5).alloc (.cells #[.int .i64 0, .int .u64 0] 24)
    replace k2 := (k2.below hb5).alloc (.cells #[.int .i64 0, .int .u64 0] 24)
    have k3 := Win.new w5 (.int .i64 0) (.int .u64 0)
    replace B := B_alloc (B_trans B hb5) (.cells #[.int .i64 0, .int .u64 0] 24)
    clear c0 c1 d0 d1
    obtain ⟨c0, c1, -, -⟩ := k0.all
    obtain ⟨d0, d1, -, -⟩ := k1.all
    obtain ⟨W0, hW0⟩ : ∃ W0 : World, W0 = w5.alloc (.cells #[.int .i64 0, .int .u64 0] 24) := ⟨_, rfl⟩
    have B0 : Below W0.heap.size W0 (w5.alloc (.cells #[.int .i64 0, .int .u64 0] 24)).drew := by rw [hW0]; exact (Below.refl _ _).drew
    have HW0 := Lib.hid hW0
    clear hW0
    have hS0 := And.intro c0 (And.intro c1 (And.intro d0 (And.intro d1 B0)))
    go_wp2_with fail
    have hf1 := A3.out
    have hf2 := A4.out
    have hwr : IntKind.i64.wrap (n + k) = n + k := IntWalk.i64_in _ (by omega)
    go_region_held3 (fun W => W.cell? ⟨w.heap.size, 0, none⟩ = some (.int .i64 t) ∧ W.cell? ⟨w.heap.size, 1, none⟩ = some (.int .u64 b) ∧ W.cell? ⟨w2.heap.size, 0, none⟩ = some (.int .i64 (t + k)) ∧ W.cell? ⟨w2.heap.size, 1, none⟩ = some (.int .u64 b) ∧ Below W0.heap.size W0 W)
      (first | assumption | exact hS0 | (refine keep4 ?_ hb'; assumption))
      (first
        | (go_at_call 14; refine (fresh_any _ b _ _ hb).mono ?_; rintro e w' ⟨rfl, hb'⟩))
    all_goals
      have hEnd := (by assumption : _ ∧ _ ∧ _ ∧ _ ∧ Below W0.heap.size W0 _)
      have hB := hEnd.2.2.2.2
      rw [HW0.out] at hB
      obtain ⟨g0, g1, -, -⟩ := (k2.below hB).all
      obtain ⟨i0, i1, -, -⟩ := (k3.below hB).all
      go_wp2_with fail
      go_ret
      exact ⟨rfl, B_trans B hB⟩

theorem moving_law (t b n k : Int) (w : World) (_ : (Lit.int .i64 t).wf = true) (hb : (Lit.int .u64 b).wf = true) (_ : (Lit.int .i64 n).wf = true) (hk : (Lit.int .u16 k).wf = true) :
    Calls Try.prog 6 #[.agg #[.int .i64 t, .int .u64 b], .int .i64 n, .int .u16 k] w fun e w' => e = .returned (.bool true) ∧ Below w.heap.size w w' := by
  obtain ⟨b, rfl, h⟩ := u64_nat hb
  have hkb := bounds_u16 hk
  by_cases hh : Pl.valid t b = true ∧ 64 ≤ t ∧ Pl.isCtr n = true ∧ t ≤ 500000000 ∧ n ≤ 500000000
  · exact moving_in t b n k w h hh.1 hh.2.1 hh.2.2.1 hh.2.2.2.1 hh.2.2.2.2 hkb.1 hkb.2
  · exact moving_out t b n k w h hh
end Go.Proofs.Ytkpkngecabciiaa
