/-
  Plain words for the replay window: what the functions of package replay compute, on whole numbers alone. Conditions: none.
-/
import Derived.WalkKit
import Derived.WalkSpells
import Derived.WalkLawsBesides
namespace Go.Proofs.Ytffdcnjddoakbaa.Pl

def isCtr (n : Int) : Bool := decide (1 ≤ n) && decide (n ≤ 1000000000)
def has (b : Nat) (i : Int) : Bool := decide (0 ≤ i) && decide (i < 64) && b.testBit i.toNat
def up (b : Nat) (k : Int) : Nat := if 64 ≤ k then 0 else (b <<< k.toNat) % 2 ^ 64
def valid (t : Int) (b : Nat) : Bool :=
  if t = 0 then decide (b = 0) else if isCtr t && has b 0 then (if t < 64 then decide (b >>> t.toNat = 0) else true) else false
def fresh (t : Int) (b : Nat) (n : Int) : Bool := valid t b && isCtr n && decide (t - n < 64) && !has b (t - n)
def top (t n : Int) : Int := max t n
def nbits (t : Int) (b : Nat) (n : Int) : Nat := up b (max t n - t) ||| 2 ^ (max t n - n).toNat
structure Out where
  t : Int
  b : Nat
  e : Int
def note (t : Int) (b : Nat) (n : Int) : Out :=
  if valid t b && isCtr n then (if fresh t b n then ⟨max t n, nbits t b n, 0⟩ else ⟨0, 0, 14⟩) else ⟨0, 0, 1⟩

/-! ### the walk's spellings -/
theorem bit_spell (b : Nat) (hb : b < 2 ^ 64) (k : Nat) : (bits .and .u64 ((b : Int) / 2 ^ k) 1 == 1) = b.testBit k := by
  have hd : ((b : Int) / 2 ^ k) = ((b / 2 ^ k : Nat) : Int) := by simp
  have hlt : b / 2 ^ k < 2 ^ 64 := Nat.lt_of_le_of_lt (Nat.div_le_self _ _) hb
  rw [hd, show (1 : Int) = ((1 : Nat) : Int) from rfl, u64_and_nat _ _ (by simpa using hlt) (by decide)]
  rw [Nat.testBit, Nat.shiftRight_eq_div_pow, Nat.and_comm]
  rcases Nat.mod_two_eq_zero_or_one (b / 2 ^ k) with h | h
  · simp [Nat.one_and_eq_mod_two, h]
  · simp [Nat.one_and_eq_mod_two, h]
theorem shl_spell (b k : Nat) : IntKind.u64.wrap ((b : Int) * 2 ^ k) = (((b <<< k) % 2 ^ 64 : Nat) : Int) := by
  rw [IntKind.wrap_u64, Nat.shiftLeft_eq]; simp
theorem emod_nat_lt (x : Nat) (h : x < 18446744073709551616) : (x : Int) % 18446744073709551616 = x := by omega
theorem one_spell (i : Nat) (hi : i < 64) : IntKind.u64.wrap ((2 : Int) ^ min i 64) = ((2 ^ i : Nat) : Int) := by
  have e : min i 64 = i := by omega
  have h : 2 ^ i < 2 ^ 64 := Nat.pow_lt_pow_right (by decide) hi
  have hc : ((2 : Int) ^ i) = ((2 ^ i : Nat) : Int) := by simp
  rw [e, IntKind.wrap_u64, hc]
  exact emod_nat_lt _ (by simpa using h)
theorem or_spell (b i : Nat) (hb : b < 2 ^ 64) (hi : i < 64) : bits .or .u64 (b : Int) (IntKind.u64.wrap (2 ^ min i 64)) = ((b ||| 2 ^ i : Nat) : Int) := by
  rw [one_spell i hi, u64_or_nat _ _ (by simpa using hb) (by have : 2 ^ i < 2 ^ 64 := Nat.pow_lt_pow_right (by decide) hi; simpa using this)]
theorem or_spell' (b i : Nat) (hb : b < 2 ^ 64) (hi : i < 64) : bits .or .u64 (b : Int) (IntKind.u64.wrap (2 ^ i)) = ((b ||| 2 ^ i : Nat) : Int) := by
  have h := or_spell b i hb hi
  rwa [show min i 64 = i by omega] at h
theorem shr_spell' (b k : Nat) : ((b : Int) / 2 ^ k == 0) = decide (b >>> k = 0) := by
  have hd : ((b : Int) / 2 ^ k) = ((b / 2 ^ k : Nat) : Int) := by simp
  rw [hd, Nat.shiftRight_eq_div_pow]
  generalize b / 2 ^ k = x
  rw [Bool.eq_iff_iff]
  simp
theorem isCtr_bd {n : Int} (h : isCtr n = true) : 0 ≤ n ∧ 1 ≤ n ∧ n ≤ 1000000000 := by
  simp [isCtr] at h; omega
theorem nat_zero (b : Nat) : ((b : Int) == 0) = decide (b = 0) := by rw [Bool.eq_iff_iff]; simp
theorem valid_bd {t : Int} {b : Nat} (h : valid t b = true) : 0 ≤ t ∧ t ≤ 1000000000 := by
  unfold valid at h
  by_cases h0 : t = 0
  · omega
  · rw [if_neg h0] at h
    by_cases h1 : (isCtr t && has b 0) = true
    · simp at h1; have := isCtr_bd h1.1; omega
    · rw [if_neg h1] at h; cases h
theorem up_lt (b : Nat) (k : Int) : up b k < 2 ^ 64 := by
  unfold up; split
  · decide
  · exact Nat.mod_lt _ (by decide)
theorem fresh_bd {t n : Int} {b : Nat} (h : fresh t b n = true) : t - n < 64 ∧ has b (t - n) = false ∧ valid t b = true ∧ isCtr n = true := by
  simp [fresh] at h
  exact ⟨h.1.2, h.2, h.1.1.1, h.1.1.2⟩
theorem nb_le {t n : Int} {b : Nat} (h : n ≤ t) : t = max t n ∧ ((up b 0 ||| 2 ^ (t - n).toNat : Nat) : Int) = (nbits t b n : Nat) := by
  have e : max t n = t := by omega
  unfold nbits
  rw [e, Int.sub_self]
  exact ⟨rfl, rfl⟩
theorem nb_gt {t n : Int} {b : Nat} (h : t < n) : n = max t n ∧ ((up b (n - t) ||| 1 : Nat) : Int) = (nbits t b n : Nat) := by
  have e : max t n = n := by omega
  unfold nbits
  rw [e, Int.sub_self]
  exact ⟨rfl, rfl⟩
theorem isCtr_of {n : Int} (h1 : 1 ≤ n) (h2 : n ≤ 1000000000) : isCtr n = true := by simp [isCtr, h1, h2]
theorem isCtr_not {n : Int} (h : n < 1 ∨ 1000000000 < n) : isCtr n = false := by
  cases hc : isCtr n
  · rfl
  · have := isCtr_bd hc; omega
theorem valid_out {t : Int} {b : Nat} (h : t < 0 ∨ 1000000000 < t) : valid t b = false := by
  cases hv : valid t b
  · rfl
  · have := valid_bd hv; omega
theorem has_nat (b : Nat) (j : Nat) (h : j < 64) : has b (j : Int) = b.testBit j := by
  have : (j : Int) < 64 := by omega
  simp [has, this]
theorem has_zero (b : Nat) : has b 0 = b.testBit 0 := has_nat b 0 (by omega)
theorem valid_mid {t : Int} {b : Nat} (h1 : 1 ≤ t) (h2 : t ≤ 1000000000) : valid t b = (b.testBit 0 && (if t < 64 then decide (b >>> t.toNat = 0) else true)) := by
  have h0 : ¬ t = 0 := by omega
  rw [valid, if_neg h0, isCtr_of h1 h2, has_zero]
  cases b.testBit 0 <;> simp
theorem shr_zero {b k : Nat} (hb : b < 2 ^ 64) : b >>> k = 0 ↔ ∀ j : Nat, j < 64 → k ≤ j → b.testBit j = false := by
  constructor
  · intro h j _ hj
    have e : (b >>> k).testBit (j - k) = b.testBit j := by rw [Nat.testBit_shiftRight]; congr 1; omega
    rw [← e, h]; simp
  · intro h
    refine Nat.eq_of_testBit_eq fun i => ?_
    rw [Nat.testBit_shiftRight, Nat.zero_testBit]
    by_cases hi : k + i < 64
    · exact h _ hi (by omega)
    · exact Nat.testBit_lt_two_pow (Nat.lt_of_lt_of_le hb (Nat.pow_le_pow_right (by decide) (by omega)))
theorem valid_no {t : Int} {b j : Nat} (hb : b < 2 ^ 64) (h1 : 1 ≤ t) (h2 : t ≤ 1000000000) (hj : j < 64) (ht : t ≤ j) (hbit : b.testBit j = true) : valid t b = false := by
  rw [valid_mid h1 h2, if_pos (by omega)]
  have : ¬ b >>> t.toNat = 0 := fun h => by
    have := (shr_zero hb).1 h j hj (by omega)
    rw [hbit] at this; cases this
  simp [this]
theorem valid_yes {t : Int} {b : Nat} (hb : b < 2 ^ 64) (h1 : 1 ≤ t) (h2 : t ≤ 1000000000) (h : ∀ j : Nat, j < 64 → t ≤ j → b.testBit j = false) : valid t b = b.testBit 0 := by
  rw [valid_mid h1 h2]
  have e : (if t < 64 then decide (b >>> t.toNat = 0) else true) = true := by
    split
    · exact decide_eq_true ((shr_zero hb).2 fun j hj hk => h j hj (by omega))
    · rfl
  rw [e, Bool.and_true]
theorem ext_false {b k : Nat} {t : Int} (h : ∀ j : Nat, j < k → t ≤ j → b.testBit j = false) (hk : t ≤ k → b.testBit k = false) : ∀ j : Nat, j < k + 1 → t ≤ j → b.testBit j = false := by
  intro j hj ht
  by_cases e : j = k
  · subst e; exact hk ht
  · exact h j (by omega) ht
theorem fresh_far {t n : Int} {b : Nat} (h : ¬ t - n < 64) : fresh t b n = false := by simp [fresh, h]
theorem has_neg {b : Nat} {i : Int} (h : i < 0) : has b i = false := by
  have : ¬ 0 ≤ i := by omega
  simp [has, this]
theorem has_mid {b : Nat} {i : Int} (h0 : 0 ≤ i) (h1 : i < 64) : has b i = b.testBit i.toNat := by simp [has, h0, h1]
theorem fresh_new {t n : Int} {b : Nat} (hv : valid t b = true) (hn : isCtr n = true) (h : t < n) : fresh t b n = true := by
  have h1 : t - n < 64 := by omega
  simp [fresh, hv, hn, h1, has_neg (b := b) (show t - n < 0 by omega)]
theorem fresh_in {t n : Int} {b : Nat} (hv : valid t b = true) (hn : isCtr n = true) (h0 : 0 ≤ t - n) (h1 : t - n < 64) : fresh t b n = !b.testBit (t - n).toNat := by
  simp [fresh, hv, hn, h1, has_mid h0 h1]
/-! ### the reference's loop -/
def rcond (t : Int) (b : Nat) (n m : Int) (k : Nat) : Prop := m - k = n ∨ (m - k ≤ t ∧ t - 64 < m - k ∧ b.testBit (t - (m - k)).toNat = true)
instance (t : Int) (b : Nat) (n m : Int) (k : Nat) : Decidable (rcond t b n m k) := by unfold rcond; exact inferInstance
def racc (t : Int) (b : Nat) (n m : Int) : Nat → Nat
  | 0 => 0
  | k + 1 => if rcond t b n m k then racc t b n m k ||| 2 ^ k else racc t b n m k
theorem racc_yes {t : Int} {b : Nat} {n m : Int} {k : Nat} (h : rcond t b n m k) : racc t b n m (k + 1) = racc t b n m k ||| 2 ^ k := by rw [racc, if_pos h]
theorem racc_no {t : Int} {b : Nat} {n m : Int} {k : Nat} (h : ¬ rcond t b n m k) : racc t b n m (k + 1) = racc t b n m k := by rw [racc, if_neg h]
theorem racc_bit (t : Int) (b : Nat) (n m : Int) (k : Nat) : ∀ j, (racc t b n m k).testBit j = (decide (j < k) && decide (rcond t b n m j)) := by
  induction k with
  | zero => intro j; simp [racc]
  | succ k ih =>
    intro j
    by_cases h : rcond t b n m k
    · rw [racc_yes h, Nat.testBit_or, ih, Nat.testBit_two_pow]
      by_cases e : k = j
      · subst e; simp [h]
      · have : (j < k + 1) = (j < k) := by rw [eq_iff_iff]; omega
        simp [e, this]
    · rw [racc_no h, ih]
      by_cases e : k = j
      · subst e; simp [h]
      · have : (j < k + 1) = (j < k) := by rw [eq_iff_iff]; omega
        simp [this]
theorem racc_lt (t : Int) (b : Nat) (n m : Int) (k : Nat) (hk : k ≤ 64) : racc t b n m k < 2 ^ 64 := by
  refine Nat.lt_pow_two_of_testBit _ fun i hi => ?_
  rw [racc_bit]; have : ¬ i < k := by omega
  simp [this]
theorem up_bit (b : Nat) (k : Int) (h0 : 0 ≤ k) (j : Nat) : (up b k).testBit j = (decide (j < 64) && decide (k ≤ j) && b.testBit (j - k.toNat)) := by
  unfold up
  split
  · have : ¬ (j < 64 ∧ k ≤ j) := by omega
    have h2 : (decide (j < 64) && decide (k ≤ (j : Int))) = false := by simp; omega
    rw [h2]; simp
  · rw [Nat.testBit_mod_two_pow, Nat.testBit_shiftLeft]
    have : (j ≥ k.toNat) = (k ≤ (j : Int)) := by rw [eq_iff_iff]; omega
    simp [this, Bool.and_assoc]
theorem nbits_bit (t : Int) (b : Nat) (n : Int) (j : Nat) : (nbits t b n).testBit j = ((decide (j < 64) && decide (max t n - t ≤ j) && b.testBit (j - (max t n - t).toNat)) || decide ((max t n - n).toNat = j)) := by
  unfold nbits
  rw [Nat.testBit_or, up_bit _ _ (by omega), Nat.testBit_two_pow]
theorem racc_all {t n : Int} {b : Nat} (h : t - n < 64) : racc t b n (max t n) 64 = nbits t b n := by
  refine Nat.eq_of_testBit_eq fun j => ?_
  rw [racc_bit, nbits_bit]
  by_cases hj : j < 64
  · by_cases e : max t n - j = n
    · have e2 : (max t n - n).toNat = j := by omega
      have : rcond t b n (max t n) j := .inl e
      simp [hj, this, e2]
    · have e2 : ¬ (max t n - n).toNat = j := by omega
      by_cases h1 : max t n - t ≤ (j : Int)
      · have e3 : (t - (max t n - (j : Int))).toNat = j - (max t n - t).toNat := by omega
        have : rcond t b n (max t n) j ↔ b.testBit (j - (max t n - t).toNat) = true := by
          unfold rcond
          rw [e3]
          constructor
          · rintro (h | ⟨_, _, h⟩)
            · exact absurd h e
            · exact h
          · intro h; exact .inr ⟨by omega, by omega, h⟩
        simp [hj, this, e2, h1]
      · have : ¬ rcond t b n (max t n) j := by
          rintro (h | ⟨h2, _, _⟩)
          · exact e h
          · omega
        simp [this, e2, h1]
  · have e2 : ¬ (max t n - n).toNat = j := by omega
    simp [hj, e2]
theorem rnb_le {t n : Int} {b : Nat} (hf : fresh t b n = true) (h : n ≤ t) : t = max t n ∧ ((racc t b n t 64 : Nat) : Int) = (nbits t b n : Nat) := by
  have e : max t n = t := by omega
  have := racc_all (b := b) (fresh_bd hf).1
  rw [e] at this
  exact ⟨e.symm, by rw [this]⟩
theorem rnb_gt {t n : Int} {b : Nat} (hf : fresh t b n = true) (h : t < n) : n = max t n ∧ ((racc t b n n 64 : Nat) : Int) = (nbits t b n : Nat) := by
  have e : max t n = n := by omega
  have := racc_all (b := b) (fresh_bd hf).1
  rw [e] at this
  exact ⟨e.symm, by rw [this]⟩
end Go.Proofs.Ytffdcnjddoakbaa.Pl
