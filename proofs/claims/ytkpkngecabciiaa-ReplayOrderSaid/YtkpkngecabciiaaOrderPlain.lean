/-
  Plain law of 'the order does not matter': a window is known by its Top and by what it remembers. Conditions: none.
-/
import Derived.Test.YtkpkngecabciiaaOncePlain
namespace Go.Proofs.Ytkpkngecabciiaa.Pl

def mem (L : List Int) : Int → Bool := fun x => decide (x ∈ L)
/-- Counters that differ and lie within 64 of each other. -/
structure Near (L : List Int) : Prop where
  nodup : L.Nodup
  ctr : ∀ x ∈ L, 1 ≤ x ∧ x ≤ 1000000
  near : ∀ x ∈ L, ∀ y ∈ L, x - y < 64

structure After (L : List Int) (t : Int) (b : Nat) : Prop where
  agree : Agree t b (mem L)
  top : (t = 0 ∧ L = []) ∨ t ∈ L

theorem mem_nil : mem [] = fun _ => false := by funext x; simp [mem]
theorem after_nil : After [] 0 0 := ⟨by rw [mem_nil]; exact agree_start, .inl ⟨rfl, rfl⟩⟩
theorem after_fresh {L : List Int} {k : Nat} (hL : Near L) (hk : k < L.length) {t : Int} {b : Nat} (h : After (L.take k) t b) : fresh t b (L[k]?.getD 0) = true := by
  have hx : L[k] ∈ L := List.getElem_mem hk
  have hc := hL.ctr _ hx
  rw [List.getElem?_eq_getElem hk, Option.getD_some]
  refine agree_new h.agree (isCtr_of (by omega) (by omega)) ?_ ?_
  · simp only [mem, decide_eq_false_iff_not]
    intro hm
    rw [List.mem_take_iff_getElem] at hm
    obtain ⟨j, hj, e⟩ := hm
    have := List.pairwise_iff_getElem.1 hL.nodup j k (by omega) hk (by omega)
    exact this e
  · rcases h.top with ⟨rfl, _⟩ | hm
    · omega
    · have := hL.near _ (List.mem_of_mem_take hm) _ hx; omega
theorem after_step {L : List Int} {k : Nat} (hk : k < L.length) {t : Int} {b : Nat} (h : After (L.take k) t b) (hf : fresh t b (L[k]?.getD 0) = true) : After (L.take (k + 1)) (max t (L[k]?.getD 0)) (nbits t b (L[k]?.getD 0)) := by
  have e : L.take (k + 1) = L.take k ++ [L[k]?.getD 0] := by
    rw [List.take_succ_eq_append_getElem hk, List.getElem?_eq_getElem hk, Option.getD_some]
  rw [e]
  have ha := agree_add h.agree hf
  refine ⟨?_, .inr ?_⟩
  · have : add (mem (L.take k)) (L[k]?.getD 0) = mem (L.take k ++ [L[k]?.getD 0]) := by
      funext x
      simp only [add, mem, List.mem_append, List.mem_singleton]
      rw [Bool.eq_iff_iff]; simp [or_comm]
    rwa [this] at ha
  · by_cases hle : t ≤ L[k]?.getD 0
    · rw [Int.max_eq_right hle]; simp
    · rw [Int.max_eq_left (by omega)]
      rcases h.top with ⟨rfl, _⟩ | hm
      · have := (isCtr_bd (fresh_bd hf).2.2.2).1; omega
      · exact List.mem_append_left _ hm
theorem after_unique {L M : List Int} {t u : Int} {b c : Nat} (hLM : ∀ x, x ∈ L ↔ x ∈ M) (h : After L t b) (k : After M u c) : t = u ∧ b = c := by
  have hm : mem L = mem M := by funext x; simp only [mem, hLM]
  have ht : t = u := by
    rcases h.top with ⟨rfl, rfl⟩ | h1
    · rcases k.top with ⟨rfl, _⟩ | k1
      · rfl
      · exact absurd ((hLM _).2 k1) (by simp)
    · rcases k.top with ⟨rfl, rfl⟩ | k1
      · exact absurd ((hLM _).1 h1) (by simp)
      · have a1 := k.agree.bound t (by simpa [mem] using (hLM _).1 h1)
        have a2 := h.agree.bound u (by simpa [mem] using (hLM _).2 k1)
        omega
  subst ht
  refine ⟨rfl, Nat.eq_of_testBit_eq fun i => ?_⟩
  by_cases hi : i < 64
  · have h1 := h.agree.seen (t - i)
    have h2 := k.agree.seen (t - i)
    rw [show t - (t - (i : Int)) = (i : Int) by omega, has_nat _ _ hi] at h1 h2
    rw [h1, h2, hm]
  · rw [Nat.testBit_lt_two_pow (Nat.lt_of_lt_of_le h.agree.lt (Nat.pow_le_pow_right (by decide) (by omega))), Nat.testBit_lt_two_pow (Nat.lt_of_lt_of_le k.agree.lt (Nat.pow_le_pow_right (by decide) (by omega)))]

/-- The list that ReplayOrder makes. -/
def ords (f : Int) (s : Nat) (k : Nat) : List Int := ((List.range k).filter fun i => s.testBit i).map fun (i : Nat) => 1 + f + (i : Int)
theorem ords_yes {f : Int} {s k : Nat} (h : s.testBit k = true) : ords f s (k + 1) = ords f s k ++ [1 + f + (k : Int)] := by simp [ords, List.range_succ, List.filter_append, h]
theorem ords_no {f : Int} {s k : Nat} (h : s.testBit k = false) : ords f s (k + 1) = ords f s k := by simp [ords, List.range_succ, List.filter_append, h]
theorem ords_mem {f : Int} {s k : Nat} {x : Int} (h : x ∈ ords f s k) : 1 + f ≤ x ∧ x < 1 + f + k := by
  simp [ords] at h
  obtain ⟨i, ⟨h1, _⟩, rfl⟩ := h
  omega
theorem ords_sorted (f : Int) (s k : Nat) : (ords f s k).Pairwise (· < ·) := by
  unfold ords
  rw [List.pairwise_map]
  exact ((List.pairwise_lt_range).filter _).imp (fun h => by omega)
theorem ords_nodup (f : Int) (s k : Nat) : (ords f s k).Nodup := by
  exact (ords_sorted f s k).imp (fun h => by omega)
theorem ords_near {f : Int} {s : Nat} (h0 : 0 ≤ f) (h1 : f ≤ 65535) : Near (ords f s 64) :=
  ⟨ords_nodup _ _ _, fun x hx => by have := ords_mem hx; omega, fun x hx y hy => by have := ords_mem hx; have := ords_mem hy; omega⟩
theorem near_of {L M : List Int} (hL : Near L) (hn : M.Nodup) (h : ∀ x, x ∈ M ↔ x ∈ L) : Near M := ⟨hn, fun x hx => hL.ctr x ((h x).1 hx), fun x hx y hy => hL.near x ((h x).1 hx) y ((h y).1 hy)⟩
theorem ords_len (f : Int) (s k : Nat) : (ords f s k).length ≤ k := by
  unfold ords; rw [List.length_map]; exact Nat.le_trans (List.length_filter_le _ _) (by simp)
theorem ords_last {f : Int} {s k : Nat} {t : Int} {b : Nat} (hk : 0 < (ords f s k).length) (h : After (ords f s k) t b) : t = (ords f s k)[(ords f s k).length - 1]?.getD 0 := by
  have hlt : (ords f s k).length - 1 < (ords f s k).length := by omega
  rw [List.getElem?_eq_getElem hlt, Option.getD_some]
  have hx : (ords f s k)[(ords f s k).length - 1] ∈ ords f s k := List.getElem_mem hlt
  have h1 := h.agree.bound ((ords f s k)[(ords f s k).length - 1]) (by simp only [mem, decide_eq_true_eq]; exact hx)
  rcases h.top with ⟨_, e⟩ | ht
  · rw [e] at hk; simp at hk
  · obtain ⟨j, hj, e⟩ := List.getElem_of_mem ht
    rcases Nat.lt_or_ge j ((ords f s k).length - 1) with h2 | h2
    · have := List.pairwise_iff_getElem.1 (ords_sorted f s k) j _ hj hlt h2
      omega
    · have : j = (ords f s k).length - 1 := by omega
      subst this; exact e.symm
theorem mem_turn (L : List Int) (K : Nat) (x : Int) : x ∈ L.drop K ++ L.take K ↔ x ∈ L := by
  have e : L = L.take K ++ L.drop K := (List.take_append_drop K L).symm
  constructor
  · intro h
    rw [e, List.mem_append]
    exact (List.mem_append.1 h).symm
  · intro h
    rw [e, List.mem_append] at h
    exact List.mem_append.2 h.symm
theorem nodup_turn {L : List Int} (h : L.Nodup) (K : Nat) : (L.drop K ++ L.take K).Nodup := by
  have hp : (L.drop K ++ L.take K).Perm L := (List.perm_append_comm).trans (by rw [List.take_append_drop])
  exact hp.nodup_iff.2 h
end Go.Proofs.Ytkpkngecabciiaa.Pl
