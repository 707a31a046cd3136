/-
  Plain law of 'each counter is noted once': how a window and the set of the noted counters hang together. Conditions: none.
-/
import Derived.Test.YtkpkngecabciiaaSeen
namespace Go.Proofs.Ytkpkngecabciiaa.Pl

/-- The window (t, b) remembers just the counters of S. -/
structure Agree (t : Int) (b : Nat) (S : Int → Bool) : Prop where
  lt : b < 2 ^ 64
  valid : valid t b = true
  seen : ∀ x : Int, has b (t - x) = (S x && decide (t - x < 64))
  bound : ∀ x : Int, S x = true → 1 ≤ x ∧ x ≤ t

theorem agree_start : Agree 0 0 fun _ => false := ⟨by decide, by decide, fun x => by simp [has], fun x h => by cases h⟩
def add (S : Int → Bool) (n : Int) : Int → Bool := fun x => decide (x = n) || S x

theorem agree_fresh {t n : Int} {b : Nat} {S : Int → Bool} (h : Agree t b S) (hn : isCtr n = true) : fresh t b n = (!S n && decide (t - 64 < n)) := by
  have e : decide (t - n < 64) = decide (t - 64 < n) := by rw [decide_eq_decide]; omega
  rw [fresh, h.valid, hn, h.seen, e]
  cases S n <;> cases hd : decide (t - 64 < n) <;> simp
theorem agree_add {t n : Int} {b : Nat} {S : Int → Bool} (h : Agree t b S) (hf : fresh t b n = true) : Agree (max t n) (nbits t b n) (add S n) := by
  obtain ⟨h64, _, _, hn⟩ := fresh_bd hf
  have bn := isCtr_bd hn
  refine ⟨nbits_lt h64, note_valid h.lt hf, fun x => ?_, fun x hx => ?_⟩
  · rw [nb_has h64, h.seen, add]
    by_cases e : max t n - x < 64
    · have : t - x < 64 := by omega
      simp [e, this]
    · simp [e]
  · simp [add] at hx
    rcases hx with rfl | hx
    · omega
    · have := h.bound x hx; omega
theorem agree_old {t n : Int} {b : Nat} {S : Int → Bool} (h : Agree t b S) (hn : isCtr n = true) (ho : S n = true ∨ ¬ t - 64 < n) : fresh t b n = false := by
  rw [agree_fresh h hn]
  rcases ho with ho | ho
  · simp [ho]
  · simp [ho]
theorem agree_new {t n : Int} {b : Nat} {S : Int → Bool} (h : Agree t b S) (hn : isCtr n = true) (h1 : S n = false) (h2 : t - 64 < n) : fresh t b n = true := by
  rw [agree_fresh h hn]; simp [h1, h2]
end Go.Proofs.Ytkpkngecabciiaa.Pl
