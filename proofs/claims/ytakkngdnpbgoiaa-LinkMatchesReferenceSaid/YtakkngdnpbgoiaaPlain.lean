/-
  Plain words for links: what a valid list is, where a peer stands, what a frame counts, what a link costs. Conditions: none.
-/
import Derived.WalkKit
namespace Go.Proofs.Ytakkngdnpbgoiaa

structure Lk where
  P : Int
  S : Int
  G : Int
deriving DecidableEq

namespace Pl
def z : Lk := ⟨0, 0, 0⟩
/-- The link at an index. -/
def g (L : List Lk) (i : Nat) : Lk := L.getD i z
def Ok1 (x : Lk) : Prop := (0 ≤ x.P ∧ x.P ≤ 59) ∧ (0 ≤ x.S ∧ x.S ≤ 31) ∧ (0 ≤ x.G ∧ x.G ≤ x.S)
instance (x : Lk) : Decidable (Ok1 x) := by unfold Ok1; infer_instance
/-- One element in its place. -/
def OkAt (L : List Lk) (i : Nat) : Prop := Ok1 (g L i) ∧ (0 < i → (g L (i - 1)).P < (g L i).P)
instance (L : List Lk) (i : Nat) : Decidable (OkAt L i) := by unfold OkAt; infer_instance
def Vld (L : List Lk) : Prop := ∀ i, i < L.length → OkAt L i
instance (L : List Lk) : Decidable (Vld L) := by unfold Vld; infer_instance

/-- The first index whose peer is not below p. -/
def fnd : List Lk → Int → Nat
  | [], _ => 0
  | x :: l, p => if p ≤ x.P then 0 else fnd l p + 1
def of (L : List Lk) (p : Int) : Lk := if fnd L p < L.length ∧ (g L (fnd L p)).P = p then g L (fnd L p) else ⟨p, 0, 0⟩
def cnt (x : Lk) (a : Bool) : Lk :=
  if x.S + 1 = 32 then ⟨x.P, 16, (if a then x.G + 1 else x.G) / 2⟩ else ⟨x.P, x.S + 1, if a then x.G + 1 else x.G⟩
/-- From which index on the rest stays. -/
def rst (L : List Lk) (p : Int) : Nat := if fnd L p < L.length ∧ (g L (fnd L p)).P = p then fnd L p + 1 else fnd L p
def count (L : List Lk) (p : Int) (a : Bool) : List Lk := L.take (fnd L p) ++ cnt (of L p) a :: L.drop (rst L p)
def cost1 (x : Lk) : Int := min 4096 (128 * (x.S + 1) / (x.G + 1))
def cost (L : List Lk) (p : Int) : Int := if Vld L ∧ 0 ≤ p ∧ p ≤ 59 then cost1 (of L p) else 0

theorem g_at {L : List Lk} {i : Nat} (h : i < L.length) : L[i]? = some (g L i) := by
  rw [g, List.getD_eq_getElem?_getD, List.getElem?_eq_getElem h]; rfl
theorem fnd_le (L : List Lk) (p : Int) : fnd L p ≤ L.length := by
  induction L with
  | nil => simp [fnd]
  | cons x l ih => rw [fnd]; split <;> simp; omega
theorem g_cons (x : Lk) (l : List Lk) (i : Nat) : g (x :: l) (i + 1) = g l i := rfl
theorem fnd_lt {L : List Lk} {p : Int} {i : Nat} (h : i < fnd L p) : (g L i).P < p := by
  induction L generalizing i with
  | nil => simp [fnd] at h
  | cons x l ih =>
    rw [fnd] at h
    split at h
    · omega
    · cases i with
      | zero => show x.P < p; omega
      | succ i => exact ih (by omega)
theorem fnd_ge {L : List Lk} {p : Int} (h : fnd L p < L.length) : p ≤ (g L (fnd L p)).P := by
  induction L with
  | nil => simp at h
  | cons x l ih =>
    rw [fnd] at h ⊢
    split
    · assumption
    · rename_i hx
      rw [if_neg hx] at h
      exact ih (by simpa using h)
/-- The index that a search finds. -/
theorem fnd_of {L : List Lk} {p : Int} {k : Nat} (hk : k ≤ L.length) (hlo : ∀ i, i < k → (g L i).P < p) (hhi : k < L.length → p ≤ (g L k).P) : fnd L p = k := by
  rcases Nat.lt_trichotomy (fnd L p) k with h | h | h
  · have := hlo _ h
    have := fnd_ge (L := L) (p := p) (by omega)
    omega
  · exact h
  · have := fnd_lt h
    have := hhi (by have := fnd_le L p; omega)
    omega

theorem vld_lt {L : List Lk} (h : Vld L) {i j : Nat} (hij : i < j) (hj : j < L.length) : (g L i).P < (g L j).P := by
  induction j with
  | zero => omega
  | succ j ih =>
    have h1 := (h (j + 1) hj).2 (by omega)
    rcases Nat.lt_or_ge i j with h2 | h2
    · have := ih h2 (by omega); simp only [Nat.add_sub_cancel] at h1; omega
    · obtain rfl : i = j := by omega
      simpa using h1
theorem vld_low {L : List Lk} (h : Vld L) {i : Nat} (hi : i < L.length) : (i : Int) ≤ (g L i).P := by
  induction i with
  | zero => exact (h 0 hi).1.1.1
  | succ i ih =>
    have := ih (by omega)
    have := vld_lt h (show i < i + 1 by omega) hi
    push_cast; omega
theorem vld_len {L : List Lk} (h : Vld L) : L.length ≤ 60 := by
  rcases Nat.eq_zero_or_pos L.length with h0 | h0
  · omega
  · have h1 := vld_low h (i := L.length - 1) (by omega)
    have h2 := (h (L.length - 1) (by omega)).1.1.2
    omega
theorem of_ok {L : List Lk} (h : Vld L) {p : Int} (hp : 0 ≤ p ∧ p ≤ 59) : Ok1 (of L p) := by
  rw [of]; split
  · rename_i hh; exact (h _ hh.1).1
  · unfold Ok1; simp only; omega
theorem of_P (L : List Lk) (p : Int) : (of L p).P = p := by
  rw [of]; split
  · rename_i hh; exact hh.2
  · rfl
/-- A peer that stands at i is found there. -/
theorem of_at {L : List Lk} (h : Vld L) {i : Nat} (hi : i < L.length) : of L (g L i).P = g L i ∧ fnd L (g L i).P = i := by
  have hf : fnd L (g L i).P = i := fnd_of (by omega) (fun j hj => vld_lt h hj hi) (fun _ => Int.le_refl _)
  exact ⟨by rw [of, hf, if_pos ⟨hi, rfl⟩], hf⟩
/-- A peer that stands nowhere has the empty link. -/
theorem of_none {L : List Lk} {p : Int} (h : ∀ i, i < L.length → (g L i).P ≠ p) : of L p = ⟨p, 0, 0⟩ := by
  rw [of, if_neg]; rintro ⟨h1, h2⟩; exact h _ h1 h2
end Pl
end Go.Proofs.Ytakkngdnpbgoiaa
