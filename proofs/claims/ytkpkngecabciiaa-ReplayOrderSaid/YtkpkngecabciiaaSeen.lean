/-
  Plain laws of the replay window: which counters a window has after one more was noted, and that it stays valid. Conditions: none.
-/
import Derived.Test.YtkpkngecabciiaaPlain
namespace Go.Proofs.Ytkpkngecabciiaa.Pl

theorem nb_has {t m : Int} {b : Nat} (h : t - m < 64) (x : Int) : has (nbits t b m) (max t m - x) = (decide (max t m - x < 64) && (decide (x = m) || has b (t - x))) := by
  by_cases h0 : max t m - x < 0
  · have h1 : ¬ x = m := by omega
    rw [has_neg h0, has_neg (show t - x < 0 by omega)]
    simp [h1]
  by_cases h64 : max t m - x < 64
  · rw [has_mid (by omega) h64, nbits_bit]
    have hj : ((max t m - x).toNat : Int) = max t m - x := by omega
    have hj2 : (max t m - x).toNat < 64 := by omega
    have e1 : decide ((max t m - m).toNat = (max t m - x).toNat) = decide (x = m) := by
      rw [decide_eq_decide]; omega
    rw [e1, hj]
    by_cases hx : x ≤ t
    · have e2 : max t m - t ≤ max t m - x := by omega
      have e3 : (max t m - x).toNat - (max t m - t).toNat = (t - x).toNat := by omega
      rw [has_mid (show 0 ≤ t - x by omega) (by omega), e3]
      simp [hj2, e2, h64, Bool.or_comm]
    · have e2 : ¬ max t m - t ≤ max t m - x := by omega
      rw [has_neg (show t - x < 0 by omega)]
      simp [e2, h64]
  · have e : has (nbits t b m) (max t m - x) = false := by simp [has, h64]
    rw [e]; simp [h64]

theorem nbits_lt {t m : Int} {b : Nat} (h : t - m < 64) : nbits t b m < 2 ^ 64 := by
  unfold nbits
  exact Nat.or_lt_two_pow (up_lt _ _) (Nat.pow_lt_pow_right (by decide) (by omega))

theorem valid_has {t : Int} {b : Nat} (hb : b < 2 ^ 64) (hv : valid t b = true) (x : Int) (hx : has b (t - x) = true) : 1 ≤ x ∧ x ≤ t := by
  have bt := valid_bd hv
  have h0 : 0 ≤ t - x ∧ t - x < 64 := by simp [has] at hx; omega
  rw [has_mid h0.1 h0.2] at hx
  refine ⟨?_, by omega⟩
  by_cases ht : t = 0
  · rw [valid, if_pos ht] at hv
    have : b = 0 := by simpa using hv
    rw [this] at hx; simp at hx
  · refine Int.not_lt.1 fun hlt => ?_
    have := valid_no (t := t) hb (by omega) bt.2 (j := (t - x).toNat) (by omega) (by omega) hx
    rw [this] at hv; cases hv
theorem valid_top {t : Int} {b : Nat} (hv : valid t b = true) (ht : 1 ≤ t) : has b 0 = true := by
  have bt := valid_bd hv
  rw [valid_mid ht bt.2] at hv
  rw [has_zero]
  simp at hv ⊢; exact hv.1
theorem valid_of {t : Int} {b : Nat} (hb : b < 2 ^ 64) (h1 : 1 ≤ t) (h2 : t ≤ 1000000000) (h0 : has b 0 = true) (h : ∀ x : Int, has b (t - x) = true → 1 ≤ x) : valid t b = true := by
  rw [valid_yes hb h1 h2, ← has_zero, h0]
  intro j hj htj
  have := h (t - j)
  rw [show t - (t - (j : Int)) = (j : Int) by omega, has_nat b j hj] at this
  cases hbit : b.testBit j
  · rfl
  · have := this hbit; omega
theorem note_valid {t m : Int} {b : Nat} (hb : b < 2 ^ 64) (hf : fresh t b m = true) : valid (max t m) (nbits t b m) = true := by
  obtain ⟨h64, hnot, hv, hm⟩ := fresh_bd hf
  have bt := valid_bd hv
  have bm := isCtr_bd hm
  refine valid_of (nbits_lt h64) (by omega) (by omega) ?_ fun x hx => ?_
  · have := nb_has (b := b) h64 (max t m)
    rw [Int.sub_self] at this
    rw [this]
    by_cases e : t ≤ m
    · have : max t m = m := by omega
      simp [this]
    · have e2 : max t m = t := by omega
      rw [e2, Int.sub_self, valid_top hv (by omega)]
      simp
  · rw [nb_has h64] at hx
    simp at hx
    rcases hx.2 with h | h
    · omega
    · exact (valid_has hb hv x h).1
/-- What a refused counter stays: refused. -/
theorem old_step {t m n : Int} {b : Nat} (_hb : b < 2 ^ 64) (hf : fresh t b m = true) (hn : fresh t b n = false) (hc : isCtr n = true) : fresh (max t m) (nbits t b m) n = false := by
  obtain ⟨h64, _, hv, _⟩ := fresh_bd hf
  cases h : fresh (max t m) (nbits t b m) n
  · rfl
  · obtain ⟨g1, g2, g3, g4⟩ := fresh_bd h
    rw [nb_has h64] at g2
    have g5 : has b (t - n) = false := by simp [g1] at g2; exact g2.2
    have : fresh t b n = true := by simp [fresh, hv, hc, g5]; omega
    rw [hn] at this; cases this
end Go.Proofs.Ytkpkngecabciiaa.Pl
