/-
  Plain words for numbers from seeds: the next state, its upper half, what Below, Perm and Mask compute, on whole numbers alone. Conditions: none.
-/
import Derived.WalkKit
import Derived.WalkSpells
import Derived.WalkLawsBesides
namespace Go.Proofs.YtomfbadniajnlaaDoor.Pl

/-- One step of the mixing, on whole numbers as the walk writes it. -/
def mixI (x d f : Int) : Int := IntKind.u64.wrap (bits .xor .u64 x (x / d) * f)
def nextI (s : Int) : Int :=
  IntKind.u64.wrap (bits .xor .u64 (mixI (mixI (IntKind.u64.wrap (s + 11400714819323198485)) 1073741824 13787848793156543929) 134217728 10723151780598845931)
    (mixI (mixI (IntKind.u64.wrap (s + 11400714819323198485)) 1073741824 13787848793156543929) 134217728 10723151780598845931 / 2147483648))

/-- The same on bit vectors. -/
def xs (x : BitVec 64) (k : Nat) : BitVec 64 := x ^^^ (x >>> k)
def nextB (s : BitVec 64) : BitVec 64 :=
  xs (xs (xs (s + BitVec.ofNat 64 11400714819323198485) 30 * BitVec.ofNat 64 13787848793156543929) 27 * BitVec.ofNat 64 10723151780598845931) 31
def next (s : Nat) : Nat := (nextB (BitVec.ofNat 64 s)).toNat
theorem next_lt (s : Nat) : next s < 2 ^ 64 := (nextB (BitVec.ofNat 64 s)).isLt

theorem toNat_u64 (n : Nat) (h : n < 2 ^ 64) : (BitVec.ofNat 64 n).toNat = n := by rw [BitVec.toNat_ofNat]; exact Nat.mod_eq_of_lt h
theorem xor_spell (b : BitVec 64) (k d : Nat) (hd : 2 ^ k = d) : bits .xor .u64 (b.toNat : Int) ((b.toNat : Int) / (d : Int)) = ((xs b k).toNat : Int) := by
  have h1 : b.toNat < 18446744073709551616 := b.isLt
  have h2 : b.toNat / d < 18446744073709551616 := Nat.lt_of_le_of_lt (Nat.div_le_self _ _) h1
  rw [← Int.natCast_ediv, u64_xor_nat _ _ h1 h2]
  congr 1
  rw [xs, BitVec.toNat_xor, BitVec.toNat_ushiftRight, Nat.shiftRight_eq_div_pow, hd]
theorem wrap_spell (x : Nat) : IntKind.u64.wrap (x : Int) = ((BitVec.ofNat 64 x).toNat : Int) := by
  rw [IntKind.wrap_u64, BitVec.toNat_ofNat]; simp
theorem mix_spell (b : BitVec 64) (k d f : Nat) (hd : 2 ^ k = d) : mixI (b.toNat : Int) (d : Int) (f : Int) = ((xs b k * BitVec.ofNat 64 f).toNat : Int) := by
  rw [mixI, xor_spell b k d hd, ← Int.natCast_mul, wrap_spell]
  congr 1
  rw [BitVec.toNat_ofNat, BitVec.toNat_mul, BitVec.toNat_ofNat]
  simp
theorem add_spell (s c : Nat) : IntKind.u64.wrap ((s : Int) + (c : Int)) = ((BitVec.ofNat 64 s + BitVec.ofNat 64 c).toNat : Int) := by
  rw [← Int.natCast_add, wrap_spell]
  congr 1
  rw [BitVec.toNat_ofNat, BitVec.toNat_add, BitVec.toNat_ofNat, BitVec.toNat_ofNat]
  exact Nat.add_mod _ _ _
theorem first_spell (s : Nat) : IntKind.u64.wrap ((s : Int) + 11400714819323198485) = ((BitVec.ofNat 64 s + BitVec.ofNat 64 11400714819323198485).toNat : Int) :=
  add_spell s 11400714819323198485
theorem next_spell (s : Nat) : nextI (s : Int) = (next s : Int) := by
  rw [nextI, first_spell, show (1073741824 : Int) = ((1073741824 : Nat) : Int) from rfl, show (13787848793156543929 : Int) = ((13787848793156543929 : Nat) : Int) from rfl,
    mix_spell _ 30 1073741824 _ (by decide), show (134217728 : Int) = ((134217728 : Nat) : Int) from rfl, show (10723151780598845931 : Int) = ((10723151780598845931 : Nat) : Int) from rfl,
    mix_spell _ 27 134217728 _ (by decide), show (2147483648 : Int) = ((2147483648 : Nat) : Int) from rfl, xor_spell _ 31 2147483648 (by decide), wrap_spell]
  congr 1
  exact toNat_u64 _ (BitVec.isLt _)
/-- What the reference computes is the same: there the last result is not multiplied. -/
def refI (s : Int) : Int :=
  bits .xor .u64 (mixI (mixI (IntKind.u64.wrap (s + 11400714819323198485)) 1073741824 13787848793156543929) 134217728 10723151780598845931)
    (mixI (mixI (IntKind.u64.wrap (s + 11400714819323198485)) 1073741824 13787848793156543929) 134217728 10723151780598845931 / 2147483648)
theorem ref_spell (s : Nat) : refI (s : Int) = (next s : Int) := by
  rw [refI, first_spell, show (1073741824 : Int) = ((1073741824 : Nat) : Int) from rfl, show (13787848793156543929 : Int) = ((13787848793156543929 : Nat) : Int) from rfl,
    mix_spell _ 30 1073741824 _ (by decide), show (134217728 : Int) = ((134217728 : Nat) : Int) from rfl, show (10723151780598845931 : Int) = ((10723151780598845931 : Nat) : Int) from rfl,
    mix_spell _ 27 134217728 _ (by decide), show (2147483648 : Int) = ((2147483648 : Nat) : Int) from rfl, xor_spell _ 31 2147483648 (by decide)]
  rfl

/-! ### two states are equal if their next ones are -/
theorem xs_bit (x : BitVec 64) (k i : Nat) : (xs x k).getLsbD i = (x.getLsbD i ^^ x.getLsbD (k + i)) := by simp [xs]
theorem xs_inj {x y : BitVec 64} {k : Nat} (hk : 0 < k) (h : xs x k = xs y k) : x = y := by
  have key : ∀ n i : Nat, 64 ≤ i + n → x.getLsbD i = y.getLsbD i := by
    intro n
    induction n with
    | zero => intro i hi; rw [BitVec.getLsbD_of_ge x i (by omega), BitVec.getLsbD_of_ge y i (by omega)]
    | succ n ih =>
      intro i hi
      have h1 := xs_bit x k i
      rw [h, xs_bit y k i, ih (k + i) (by omega)] at h1
      cases hx : x.getLsbD i <;> cases hy : y.getLsbD i <;> cases hz : y.getLsbD (k + i) <;> simp_all
  exact BitVec.eq_of_getLsbD_eq fun i _ => key 64 i (by omega)
theorem mul_inj {x y f g : BitVec 64} (hfg : f * g = 1#64) (h : x * f = y * f) : x = y := by
  have := congrArg (· * g) h
  simp only [BitVec.mul_assoc, hfg, BitVec.mul_one] at this
  exact this
theorem inv1 : BitVec.ofNat 64 13787848793156543929 * BitVec.ofNat 64 10871156337175269513 = 1#64 := by decide
theorem inv2 : BitVec.ofNat 64 10723151780598845931 * BitVec.ofNat 64 3573116690164977347 = 1#64 := by decide
theorem add_inj {x y c : BitVec 64} (h : x + c = y + c) : x = y := by
  have := congrArg (· - c) h
  simpa only [BitVec.add_sub_cancel] using this
theorem nextB_inj {x y : BitVec 64} (h : nextB x = nextB y) : x = y := by
  unfold nextB at h
  have h1 := xs_inj (by decide) (mul_inj inv1 (xs_inj (by decide) (mul_inj inv2 (xs_inj (by decide) h))))
  exact add_inj h1
theorem next_inj {a b : Nat} (ha : a < 2 ^ 64) (hb : b < 2 ^ 64) (h : next a = next b) : a = b := by
  have h1 := congrArg BitVec.toNat (nextB_inj (BitVec.eq_of_toNat_eq h))
  rwa [toNat_u64 a ha, toNat_u64 b hb] at h1

/-! ### the upper half, and the states one after another -/
def half (s : Nat) : Nat := s / 4294967296
theorem half_lt {s : Nat} (h : s < 2 ^ 64) : half s < 4294967296 := by
  unfold half
  exact Nat.div_lt_of_lt_mul h
theorem half_spell (s : Nat) (h : s < 2 ^ 64) : IntKind.i64.wrap ((s : Int) / 4294967296) = (half s : Int) := by
  have := half_lt h
  rw [IntKind.wrap_i64]
  unfold half at *
  omega
/-- The state after k steps. -/
def st (s : Nat) : Nat → Nat
  | 0 => s
  | k + 1 => next (st s k)
theorem st_lt {s : Nat} (h : s < 2 ^ 64) (k : Nat) : st s k < 2 ^ 64 := by
  cases k with
  | zero => exact h
  | succ k => exact next_lt _
theorem st_next (s k : Nat) : st (next s) k = st s (k + 1) := by
  induction k with
  | zero => rfl
  | succ k ih => rw [st, ih]; rfl
def below (s : Nat) (n : Int) : Int := if n < 1 ∨ 1000000000 < n then 0 else (half (next s) : Int) % n
def mask (s : Nat) (n : Int) : Int := if n < 1 ∨ 16 < n then 0 else 1 + (half (next s) : Int) % (2 ^ n.toNat - 1)
end Go.Proofs.YtomfbadniajnlaaDoor.Pl
