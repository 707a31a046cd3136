/-
  The plain law of the permutation: swaps downwards from the last place. It is a permutation of its list, and its last element is the first number drawn.
-/
import Derived.Test.YtodmklkjdogafaaDoorPlain
namespace Go.Proofs.YtodmklkjdogafaaDoor.Pl

theorem gd {l : List Int} {i : Nat} (h : i < l.length) : l.getD i 0 = l[i] := by simp [List.getD, h]
def fill (N k : Nat) : List Int := (List.range N).map fun i => if i < k then (i : Int) else 0
theorem fill_len (N k : Nat) : (fill N k).length = N := by simp [fill]
theorem fill_zero (N : Nat) : fill N 0 = List.replicate N 0 := by
  refine List.ext_getElem (by simp [fill]) fun i h1 h2 => ?_
  simp [fill]
theorem fill_set {N k : Nat} : (fill N k).set k (k : Int) = fill N (k + 1) := by
  refine List.ext_getElem (by simp [fill]) fun i h1 h2 => ?_
  simp only [fill, List.getElem_set, List.getElem_map, List.getElem_range]
  by_cases h : k = i
  · subst h; simp
  · rw [if_neg h]
    by_cases h3 : i < k
    · rw [if_pos h3, if_pos (by omega)]
    · rw [if_neg h3, if_neg (by omega)]
/-- The numbers from 0 to N - 1. -/
def nums (N : Nat) : List Int := (List.range N).map fun (i : Nat) => (i : Int)
theorem nums_len (N : Nat) : (nums N).length = N := by simp [nums]
theorem fill_full (N : Nat) : fill N N = nums N := by
  refine List.ext_getElem (by simp [fill, nums]) fun i h1 h2 => ?_
  have hi : i < N := by simpa [nums] using h2
  simp [fill, nums, hi]
theorem nums_succ (N : Nat) : nums (N + 1) = nums N ++ [(N : Int)] := by simp [nums, List.range_succ]

def sw (l : List Int) (i k : Nat) : List Int := (l.set i (l.getD k 0)).set k (l.getD i 0)
theorem sw_len (l : List Int) (i k : Nat) : (sw l i k).length = l.length := by simp [sw]
/-- The swaps from place i down to place 1. -/
def pm (s : Nat) : List Int → Nat → List Int
  | l, 0 => l
  | l, i + 1 => pm (next s) (sw l (i + 1) (half (next s) % (i + 2))) i
termination_by _ i => i
theorem pm_zero (s : Nat) (l : List Int) : pm s l 0 = l := by rw [pm]
theorem pm_succ (s : Nat) (l : List Int) (i : Nat) : pm s l (i + 1) = pm (next s) (sw l (i + 1) (half (next s) % (i + 2))) i := by rw [pm]
def perm (s N : Nat) : List Int := pm s (nums N) (N - 1)

theorem pm_len (i : Nat) : ∀ (s : Nat) (l : List Int), (pm s l i).length = l.length := by
  induction i with
  | zero => intro s l; rw [pm_zero]
  | succ i ih => intro s l; rw [pm_succ, ih, sw_len]
theorem perm_len (s N : Nat) : (perm s N).length = N := by rw [perm, pm_len, nums_len]

theorem sw_perm {l : List Int} {i k : Nat} (hi : i < l.length) (hk : k < l.length) : (sw l i k).Perm l := by
  rw [sw, gd hk, gd hi]
  exact List.set_set_perm hi hk
theorem pm_perm (i : Nat) : ∀ (s : Nat) (l : List Int), i < l.length → (pm s l i).Perm l := by
  induction i with
  | zero => intro s l _; rw [pm_zero]
  | succ i ih =>
    intro s l h
    rw [pm_succ]
    have hk : half (next s) % (i + 2) < l.length := Nat.lt_of_lt_of_le (Nat.mod_lt _ (by omega)) (by omega)
    exact (ih _ _ (by rw [sw_len]; omega)).trans (sw_perm h hk)
theorem perm_perm (s : Nat) {N : Nat} (h : 1 ≤ N) : (perm s N).Perm (nums N) := pm_perm _ _ _ (by rw [nums_len]; omega)

theorem sw_map (f : Int → Int) {l : List Int} {i k : Nat} (hi : i < l.length) (hk : k < l.length) : sw (l.map f) i k = (sw l i k).map f := by
  simp only [sw, List.map_set]
  rw [gd hk, gd hi, gd (by simpa using hk), gd (by simpa using hi)]
  simp
theorem sw_append {l t : List Int} {i k : Nat} (hi : i < l.length) (hk : k < l.length) : sw (l ++ t) i k = sw l i k ++ t := by
  simp only [sw]
  rw [gd hk, gd hi, gd (by simp; omega), gd (by simp; omega), List.getElem_append_left hk, List.getElem_append_left hi,
    List.set_append_left _ _ hi, List.set_append_left _ _ (by simpa using hk)]
theorem pm_map (f : Int → Int) (i : Nat) : ∀ (s : Nat) (l : List Int), i < l.length → pm s (l.map f) i = (pm s l i).map f := by
  induction i with
  | zero => intro s l _; rw [pm_zero, pm_zero]
  | succ i ih =>
    intro s l h
    have hk : half (next s) % (i + 2) < l.length := Nat.lt_of_lt_of_le (Nat.mod_lt _ (by omega)) (by omega)
    rw [pm_succ, pm_succ, sw_map f h hk, ih _ _ (by rw [sw_len]; omega)]
theorem pm_append (t : List Int) (i : Nat) : ∀ (s : Nat) (l : List Int), i < l.length → pm s (l ++ t) i = pm s l i ++ t := by
  induction i with
  | zero => intro s l _; rw [pm_zero, pm_zero]
  | succ i ih =>
    intro s l h
    have hk : half (next s) % (i + 2) < l.length := Nat.lt_of_lt_of_le (Nat.mod_lt _ (by omega)) (by omega)
    rw [pm_succ, pm_succ, sw_append h hk, ih _ _ (by rw [sw_len]; omega)]

/-- The first number drawn. -/
def last (s N : Nat) : Nat := half (next s) % N
theorem first_swap (s M : Nat) : sw (nums (M + 1)) M (last s (M + 1)) = (nums M).map (fun x => if x = (last s (M + 1) : Int) then (M : Int) else x) ++ [(last s (M + 1) : Int)] := by
  have hk : last s (M + 1) < M + 1 := Nat.mod_lt _ (by omega)
  generalize last s (M + 1) = k at hk
  have e : sw (nums (M + 1)) M k = ((nums (M + 1)).set M (k : Int)).set k (M : Int) := by
    rw [sw, gd (by simpa [nums] using hk), gd (by simp [nums])]; simp [nums]
  rw [e]
  refine List.ext_getElem (by simp [nums]) fun i h1 h2 => ?_
  have hi : i < M + 1 := by simpa [nums] using h1
  simp only [List.getElem_set, nums, List.getElem_map, List.getElem_range]
  by_cases hiM : i = M
  · subst hiM
    rw [List.getElem_append_right (by simp)]
    by_cases hki : k = i
    · simp [hki]
    · rw [if_neg hki, if_pos rfl]; simp
  · rw [List.getElem_append_left (by simp; omega)]
    simp only [List.getElem_map, List.getElem_range]
    by_cases hki : k = i
    · subst hki; simp
    · rw [if_neg hki, if_neg (by omega), if_neg (by omega)]
/-- THE LAW: the last element is the first number drawn; the others are the next state's permutation of one number less, with the greatest number in that one's place. -/
theorem perm_steps (s M : Nat) (h : 1 ≤ M) : perm s (M + 1) = (perm (next s) M).map (fun x => if x = (last s (M + 1) : Int) then (M : Int) else x) ++ [(last s (M + 1) : Int)] := by
  obtain ⟨K, rfl⟩ : ∃ K, M = K + 1 := ⟨M - 1, by omega⟩
  rw [perm, show K + 1 + 1 - 1 = K + 1 from by omega, pm_succ, show half (next s) % (K + 2) = last s (K + 1 + 1) from rfl, first_swap, pm_append _ _ _ _ (by simp [nums]), pm_map _ _ _ _ (by simp [nums])]
  rfl
end Go.Proofs.YtodmklkjdogafaaDoor.Pl
