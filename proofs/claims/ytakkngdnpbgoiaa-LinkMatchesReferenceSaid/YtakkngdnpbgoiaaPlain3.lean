/-
  Plain law of links: the reference's way to count, peer by peer, makes the same list. Conditions: none.
-/
import Derived.Test.YtakkngdnpbgoiaaPlain2
namespace Go.Proofs.Ytakkngdnpbgoiaa.Pl

/-- What peer k adds. -/
def Here (L : List Lk) (k : Int) : Prop := fnd L k < L.length ∧ (g L (fnd L k)).P = k
instance (L : List Lk) (k : Int) : Decidable (Here L k) := by unfold Here; infer_instance
def ent (L : List Lk) (p : Int) (a : Bool) (k : Nat) : List Lk := if (k : Int) = p then [cnt (of L p) a] else if Here L k then [of L k] else []
def bld (L : List Lk) (p : Int) (a : Bool) : Nat → List Lk
  | 0 => []
  | k + 1 => bld L p a k ++ ent L p a k
theorem ent_P {L : List Lk} {p : Int} {a : Bool} {k : Nat} {x : Lk} (h : x ∈ ent L p a k) : x.P = k := by
  unfold ent at h
  split at h
  · rename_i e; rw [List.mem_singleton] at h; subst h; rw [cnt_P, of_P]; exact e.symm
  · split at h
    · rw [List.mem_singleton] at h; subst h; exact of_P _ _
    · simp at h
theorem ent_len (L : List Lk) (p : Int) (a : Bool) (k : Nat) : (ent L p a k).length ≤ 1 := by
  unfold ent; split
  · simp
  · split <;> simp
theorem bld_len (L : List Lk) (p : Int) (a : Bool) (k : Nat) : (bld L p a k).length ≤ k := by
  induction k with
  | zero => simp [bld]
  | succ k ih => rw [bld, List.length_append]; have := ent_len L p a k; omega
theorem bld_mem {L : List Lk} {p : Int} {a : Bool} {k : Nat} {x : Lk} : x ∈ bld L p a k ↔ ∃ j, j < k ∧ x ∈ ent L p a j := by
  induction k with
  | zero => simp [bld]
  | succ k ih =>
    rw [bld, List.mem_append, ih]
    constructor
    · rintro (⟨j, hj, h⟩ | h)
      · exact ⟨j, by omega, h⟩
      · exact ⟨k, by omega, h⟩
    · rintro ⟨j, hj, h⟩
      rcases Nat.lt_or_ge j k with h1 | h1
      · exact .inl ⟨j, h1, h⟩
      · obtain rfl : j = k := by omega
        exact .inr h
theorem bld_pair (L : List Lk) (p : Int) (a : Bool) (k : Nat) : (bld L p a k).Pairwise (fun x y => x.P < y.P) := by
  induction k with
  | zero => simp [bld]
  | succ k ih =>
    rw [bld, List.pairwise_append]
    refine ⟨ih, ?_, fun x hx y hy => ?_⟩
    · have := ent_len L p a k
      match h : ent L p a k, this with
      | [], _ => simp
      | [z], _ => simp
    · obtain ⟨j, hj, h⟩ := bld_mem.1 hx
      have := ent_P h
      have := ent_P hy
      omega
theorem here_of {L : List Lk} (h : Vld L) {x : Lk} (hx : x ∈ L) : Here L x.P := by
  obtain ⟨i, hi, rfl⟩ := mem_g hx
  unfold Here; rw [(of_at h hi).2]; exact ⟨hi, rfl⟩
theorem of_here {L : List Lk} {k : Int} (h : Here L k) : of L k ∈ L := by
  have h' : fnd L k < L.length ∧ (g L (fnd L k)).P = k := h
  rw [of, if_pos h']; exact g_mem h.1
theorem bld_all {L : List Lk} (h : Vld L) {p : Int} (hp : 0 ≤ p ∧ p ≤ 59) (a : Bool) : bld L p a 60 = count L p a := by
  refine ext (bld_pair L p a 60) ((vld_iff _).1 (count_vld h hp a)).2 fun x => ?_
  rw [bld_mem, mem_count h]
  constructor
  · rintro ⟨j, hj, hx⟩
    have hP := ent_P hx
    unfold ent at hx
    split at hx
    · exact .inl (by simpa using hx)
    · rename_i hne
      split at hx
      · rename_i hh
        rw [List.mem_singleton] at hx
        exact .inr ⟨by rw [hx]; exact of_here hh, by rw [hP]; exact hne⟩
      · simp at hx
  · rintro (rfl | ⟨hx, hne⟩)
    · refine ⟨p.toNat, by omega, ?_⟩
      rw [ent, if_pos (by omega)]; simp
    · have hok := ((vld_iff L).1 h).1 x hx
      have h59 := hok.1
      refine ⟨x.P.toNat, by omega, ?_⟩
      have e : ((x.P.toNat : Nat) : Int) = x.P := by omega
      rw [ent, e, if_neg hne, if_pos (here_of h hx), of_mem h hx]; simp
/-- Where peer k stands, if anywhere. -/
theorem here_at {L : List Lk} (h : Vld L) {k : Int} {i : Nat} (hi : i < L.length) : (g L i).P = k ↔ (Here L k ∧ fnd L k = i) := by
  constructor
  · rintro rfl
    exact ⟨here_of h (g_mem hi), (of_at h hi).2⟩
  · rintro ⟨h1, rfl⟩; exact h1.2
end Go.Proofs.Ytakkngdnpbgoiaa.Pl
