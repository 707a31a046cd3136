/-
  Plain laws for TopOnceAccepted: a counter above the top is noted once. Conditions: none.
-/
import Derived.Test.YtffdcnjddoakbaaOnce
namespace Go.Proofs.Ytffdcnjddoakbaa.Pl

theorem nb_has {t m : Int} {b : Nat} (h : t - m < 64) (x : Int) : has (nbits t b m) (max t m - x) = (decide (max t m - x < 64) && (decide (x = m) || has b (t - x))) := by
  by_cases h0 : max t m - x < 0
  · have h1 : ¬ x = m := by omega
    rw [has_neg h0, has_neg (show t - x < 0 by omega)]
    simp [h1]
  by_cases h64 : max t m - x < 64
  · rw [has_mid (by omega) h64, nbits_bit]
    have hj : ((max t m - x).toNat : Int) = max t m - x := by omega
    have hj2 : (max t m - x).toNat < 64 := by omega
    have e1 : decide ((max t m - m).toNat = (max t m - x).toNat) = decide (x = m) := by
      rw [decide_eq_decide]; omega
    rw [e1, hj]
    by_cases hx : x ≤ t
    · have e2 : max t m - t ≤ max t m - x := by omega
      have e3 : (max t m - x).toNat - (max t m - t).toNat = (t - x).toNat := by omega
      rw [has_mid (show 0 ≤ t - x by omega) (by omega), e3]
      simp [hj2, e2, h64, Bool.or_comm]
    · have e2 : ¬ max t m - t ≤ max t m - x := by omega
      rw [has_neg (show t - x < 0 by omega)]
      simp [e2, h64]
  · have e : has (nbits t b m) (max t m - x) = false := by simp [has, h64]
    rw [e]; simp [h64]

theorem nbits_lt {t m : Int} {b : Nat} (h : t - m < 64) : nbits t b m < 2 ^ 64 := by
  unfold nbits
  exact Nat.or_lt_two_pow (up_lt _ _) (Nat.pow_lt_pow_right (by decide) (by omega))

theorem valid_has {t : Int} {b : Nat} (hb : b < 2 ^ 64) (hv : valid t b = true) (x : Int) (hx : has b (t - x) = true) : 1 ≤ x ∧ x ≤ t := by
  have bt := valid_bd hv
  have h0 : 0 ≤ t - x ∧ t - x < 64 := by simp [has] at hx; omega
  rw [has_mid h0.1 h0.2] at hx
  refine ⟨?_, by omega⟩
  by_cases ht : t = 0
  · rw [valid, if_pos ht] at hv
    have : b = 0 := by simpa using hv
    rw [this] at hx; simp at hx
  · refine Int.not_lt.1 fun hlt => ?_
    have := valid_no (t := t) hb (by omega) bt.2 (j := (t - x).toNat) (by omega) (by omega) hx
    rw [this] at hv; cases hv
theorem valid_top {t : Int} {b : Nat} (hv : valid t b = true) (ht : 1 ≤ t) : has b 0 = true := by
  have bt := valid_bd hv
  rw [valid_mid ht bt.2] at hv
  rw [has_zero]
  simp at hv ⊢; exact hv.1
theorem valid_of {t : Int} {b : Nat} (hb : b < 2 ^ 64) (h1 : 1 ≤ t) (h2 : t ≤ 1000000000) (h0 : has b 0 = true) (h : ∀ x : Int, has b (t - x) = true → 1 ≤ x) : valid t b = true := by
  rw [valid_yes hb h1 h2, ← has_zero, h0]
  intro j hj htj
  have := h (t - j)
  rw [show t - (t - (j : Int)) = (j : Int) by omega, has_nat b j hj] at this
  cases hbit : b.testBit j
  · rfl
  · have := this hbit; omega
theorem note_valid {t m : Int} {b : Nat} (hb : b < 2 ^ 64) (hf : fresh t b m = true) : valid (max t m) (nbits t b m) = true := by
  obtain ⟨h64, hnot, hv, hm⟩ := fresh_bd hf
  have bt := valid_bd hv
  have bm := isCtr_bd hm
  refine valid_of (nbits_lt h64) (by omega) (by omega) ?_ fun x hx => ?_
  · have := nb_has (b := b) h64 (max t m)
    rw [Int.sub_self] at this
    rw [this]
    by_cases e : t ≤ m
    · have : max t m = m := by omega
      simp [this]
    · have e2 : max t m = t := by omega
      rw [e2, Int.sub_self, valid_top hv (by omega)]
      simp
  · rw [nb_has h64] at hx
    simp at hx
    rcases hx.2 with h | h
    · omega
    · exact (valid_has hb hv x h).1
/-- A window that knows only counters up to m. -/
def Wok (x : Wn) (m : Int) : Prop := valid x.t x.b = true ∧ x.b < 2 ^ 64 ∧ x.t ≤ m
theorem wok_zero {m : Int} (h : 0 ≤ m) : Wok ⟨0, 0⟩ m := ⟨by simp [valid], by decide, h⟩
theorem wok_mono {x : Wn} {m m' : Int} (h : Wok x m) (hm : m ≤ m') : Wok x m' := ⟨h.1, h.2.1, by have := h.2.2; omega⟩
theorem wok_new {x : Wn} {m n : Int} (h : Wok x m) (hm : m < n) (hn : n ≤ 1000000000) : ∃ B : Nat, note x.t x.b n = ⟨n, B, 0⟩ ∧ note n B n = ⟨0, 0, 14⟩ ∧ Wok ⟨n, B⟩ n ∧ B < 2 ^ 64 := by
  obtain ⟨hv, hb, ht⟩ := h
  have h0 := (valid_bd hv).1
  have hc : isCtr n = true := isCtr_of (by omega) hn
  have hf := fresh_new hv hc (show x.t < n by omega)
  have hmx : max x.t n = n := by omega
  have hnv := note_valid hb hf
  rw [hmx] at hnv
  have h2 := valid_top hnv (by omega)
  have hl : nbits x.t x.b n < 2 ^ 64 := nbits_lt (by omega)
  refine ⟨nbits x.t x.b n, by simp [note, hv, hc, hf, hmx], ?_, ⟨hnv, hl, by simp⟩, hl⟩
  have h3 : fresh n (nbits x.t x.b n) n = false := by simp [fresh, h2]
  simp [note, hnv, hc, h3]
/-- All four windows. -/
def Wall (L : List Wn) (m : Int) : Prop := L.length = 4 ∧ ∀ i, i < 4 → Wok (gw L i) m
theorem wall_mono {L : List Wn} {m m' : Int} (h : Wall L m) (hm : m ≤ m') : Wall L m' := ⟨h.1, fun i hi => wok_mono (h.2 i hi) hm⟩
theorem wall_set {L : List Wn} {m m' : Int} (h : Wall L m) (hm : m ≤ m') (i : Nat) {x : Wn} (hx : Wok x m') : Wall (L.set i x) m' := by
  refine ⟨by rw [List.length_set]; exact h.1, fun j hj => ?_⟩
  by_cases e : i = j
  · subst e
    have : gw (L.set i x) i = x := by unfold gw; rw [List.getD_eq_getElem?_getD, List.getElem?_set_self (by rw [h.1]; exact hj)]; rfl
    rw [this]; exact hx
  · have : gw (L.set i x) j = gw L j := by unfold gw; rw [List.getD_eq_getElem?_getD, List.getD_eq_getElem?_getD, List.getElem?_set_ne e]
    rw [this]; exact wok_mono (h.2 j hj) hm
theorem gw_set {L : List Wn} {i : Nat} {x : Wn} (h : i < L.length) : gw (L.set i x) i = x := by
  unfold gw; rw [List.getD_eq_getElem?_getD, List.getElem?_set_self h]; rfl
end Go.Proofs.Ytffdcnjddoakbaa.Pl
