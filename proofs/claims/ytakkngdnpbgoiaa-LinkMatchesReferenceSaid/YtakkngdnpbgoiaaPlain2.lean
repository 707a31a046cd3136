/-
  Plain laws of links: what a frame makes of a valid list, and of the costs. Conditions: none.
-/
import Derived.Test.YtakkngdnpbgoiaaPlain
namespace Go.Proofs.Ytakkngdnpbgoiaa.Pl

theorem cnt_P (x : Lk) (a : Bool) : (cnt x a).P = x.P := by unfold cnt; split <;> rfl
theorem cnt_ok {x : Lk} (h : Ok1 x) (a : Bool) : Ok1 (cnt x a) := by
  unfold Ok1 at *; unfold cnt
  split
  · cases a <;> simp <;> omega
  · cases a <;> simp <;> omega
theorem g_mem {L : List Lk} {i : Nat} (h : i < L.length) : g L i ∈ L := List.mem_of_getElem? (g_at h)
theorem mem_g {L : List Lk} {x : Lk} (h : x ∈ L) : ∃ i, i < L.length ∧ g L i = x := by
  obtain ⟨i, hi⟩ := List.mem_iff_getElem?.1 h
  have hlt := (List.getElem?_eq_some_iff.1 hi).1
  rw [g_at hlt] at hi
  exact ⟨i, hlt, Option.some.inj hi⟩
/-- Valid: each element, and their order. -/
theorem vld_iff (L : List Lk) : Vld L ↔ (∀ x ∈ L, Ok1 x) ∧ L.Pairwise (fun x y => x.P < y.P) := by
  constructor
  · intro h
    refine ⟨fun x hx => ?_, ?_⟩
    · obtain ⟨i, hi, rfl⟩ := mem_g hx
      exact (h i hi).1
    · rw [List.pairwise_iff_getElem]
      intro i j hi hj hij
      have := vld_lt h hij hj
      have e1 := g_at hi
      have e2 := g_at hj
      rw [List.getElem?_eq_getElem hi] at e1
      rw [List.getElem?_eq_getElem hj] at e2
      rw [Option.some.inj e1, Option.some.inj e2]
      exact this
  · rintro ⟨h1, h2⟩ i hi
    refine ⟨h1 _ (g_mem hi), fun h0 => ?_⟩
    have := (List.pairwise_iff_getElem.1 h2) (i - 1) i (by omega) hi (by omega)
    have e1 := g_at (show i - 1 < L.length by omega)
    have e2 := g_at hi
    rw [List.getElem?_eq_getElem (show i - 1 < L.length by omega)] at e1
    rw [List.getElem?_eq_getElem hi] at e2
    rw [Option.some.inj e1, Option.some.inj e2] at this
    exact this
theorem of_mem {L : List Lk} (h : Vld L) {x : Lk} (hx : x ∈ L) : of L x.P = x := by
  obtain ⟨i, hi, rfl⟩ := mem_g hx
  exact (of_at h hi).1
theorem of_no {L : List Lk} {p : Int} (h : ∀ x ∈ L, x.P ≠ p) : of L p = ⟨p, 0, 0⟩ := of_none fun _ hi => h _ (g_mem hi)

theorem take_lt {L : List Lk} {p : Int} {x : Lk} (hx : x ∈ L.take (fnd L p)) : x ∈ L ∧ x.P < p := by
  obtain ⟨i, hi, rfl⟩ := mem_g hx
  rw [List.length_take] at hi
  have e : g (L.take (fnd L p)) i = g L i := by
    unfold g; rw [List.getD_eq_getElem?_getD, List.getD_eq_getElem?_getD, List.getElem?_take_of_lt (by omega)]
  rw [e]
  exact ⟨g_mem (by omega), fnd_lt (by omega)⟩
theorem drop_gt {L : List Lk} (h : Vld L) {p : Int} {x : Lk} (hx : x ∈ L.drop (rst L p)) : x ∈ L ∧ p < x.P := by
  obtain ⟨i, hi, rfl⟩ := mem_g hx
  rw [List.length_drop] at hi
  have e : g (L.drop (rst L p)) i = g L (rst L p + i) := by
    unfold g; rw [List.getD_eq_getElem?_getD, List.getD_eq_getElem?_getD, List.getElem?_drop]
  rw [e]
  refine ⟨g_mem (by omega), ?_⟩
  unfold rst at hi ⊢
  split at hi
  · rename_i hh
    rw [if_pos hh]
    have := vld_lt h (show fnd L p < fnd L p + 1 + i by omega) (by omega)
    omega
  · rename_i hh
    rw [if_neg hh]
    have h1 := fnd_ge (L := L) (p := p) (by omega)
    have h2 : (g L (fnd L p)).P ≠ p := fun e => hh ⟨by omega, e⟩
    rcases Nat.eq_zero_or_pos i with rfl | hi0
    · rw [Nat.add_zero]; omega
    · have := vld_lt h (show fnd L p < fnd L p + i by omega) (by omega)
      omega
theorem mem_count {L : List Lk} (h : Vld L) (p : Int) (a : Bool) (x : Lk) : x ∈ count L p a ↔ x = cnt (of L p) a ∨ (x ∈ L ∧ x.P ≠ p) := by
  unfold count
  simp only [List.mem_append, List.mem_cons]
  constructor
  · rintro (hx | rfl | hx)
    · have := take_lt hx; exact .inr ⟨this.1, by omega⟩
    · exact .inl rfl
    · have := drop_gt h hx; exact .inr ⟨this.1, by omega⟩
  · rintro (rfl | ⟨hx, hp⟩)
    · exact .inr (.inl rfl)
    · obtain ⟨i, hi, rfl⟩ := mem_g hx
      rcases Nat.lt_or_ge i (fnd L p) with hlt | hge
      · refine .inl (List.mem_of_getElem? (i := i) ?_)
        rw [List.getElem?_take_of_lt hlt]; exact g_at hi
      · refine .inr (.inr (List.mem_of_getElem? (i := i - rst L p) ?_))
        have hr : rst L p ≤ i := by
          unfold rst; split
          · rename_i hh
            have : i ≠ fnd L p := fun e => hp (by rw [e]; exact hh.2)
            omega
          · exact hge
        rw [List.getElem?_drop, show rst L p + (i - rst L p) = i by omega]; exact g_at hi
theorem count_vld {L : List Lk} (h : Vld L) {p : Int} (hp : 0 ≤ p ∧ p ≤ 59) (a : Bool) : Vld (count L p a) := by
  have hv := (vld_iff L).1 h
  rw [vld_iff]
  refine ⟨fun x hx => ?_, ?_⟩
  · rcases (mem_count h p a x).1 hx with rfl | ⟨hx, _⟩
    · exact cnt_ok (of_ok h hp) a
    · exact hv.1 x hx
  · unfold count
    rw [List.pairwise_append]
    have hP : (cnt (of L p) a).P = p := by rw [cnt_P, of_P]
    refine ⟨hv.2.sublist (List.take_sublist _ _), ?_, fun x hx y hy => ?_⟩
    · rw [List.pairwise_cons]
      refine ⟨fun y hy => ?_, hv.2.sublist (List.drop_sublist _ _)⟩
      have := (drop_gt h hy).2; omega
    · have h1 := (take_lt hx).2
      rcases List.mem_cons.1 hy with rfl | hy
      · omega
      · have := (drop_gt h hy).2; omega
theorem of_count {L : List Lk} (h : Vld L) {p : Int} (hp : 0 ≤ p ∧ p ≤ 59) (a : Bool) (q : Int) : of (count L p a) q = if q = p then cnt (of L p) a else of L q := by
  have hv := count_vld h hp a
  split
  · rename_i e
    subst e
    have := of_mem hv ((mem_count h q a _).2 (.inl rfl))
    rwa [cnt_P, of_P] at this
  · rename_i hne
    by_cases hx : ∃ x ∈ L, x.P = q
    · obtain ⟨x, hx, rfl⟩ := hx
      rw [of_mem h hx, of_mem hv ((mem_count h p a x).2 (.inr ⟨hx, hne⟩))]
    · rw [of_no (fun x h2 e => hx ⟨x, h2, e⟩), of_no]
      intro x h2 e
      rcases (mem_count h p a x).1 h2 with rfl | ⟨h3, _⟩
      · rw [cnt_P, of_P] at e; exact hne e.symm
      · exact hx ⟨x, h3, e⟩
/-- Two valid lists of the same elements are one. -/
theorem ext : ∀ {A B : List Lk}, A.Pairwise (fun x y => x.P < y.P) → B.Pairwise (fun x y => x.P < y.P) → (∀ x, x ∈ A ↔ x ∈ B) → A = B := by
  intro A
  induction A with
  | nil =>
    intro B _ _ h
    cases B with
    | nil => rfl
    | cons y l => exact absurd ((h y).2 (List.mem_cons_self ..)) (by simp)
  | cons x l ih =>
    intro B ha hb h
    cases B with
    | nil => exact absurd ((h x).1 (List.mem_cons_self ..)) (by simp)
    | cons y m =>
      rw [List.pairwise_cons] at ha hb
      have hxy : x = y := by
        rcases List.mem_cons.1 ((h x).1 (List.mem_cons_self ..)) with e | hx
        · exact e
        · rcases List.mem_cons.1 ((h y).2 (List.mem_cons_self ..)) with e | hy
          · exact e.symm
          · have := ha.1 y hy; have := hb.1 x hx; omega
      subst hxy
      congr 1
      refine ih ha.2 hb.2 fun z => ⟨fun hz => ?_, fun hz => ?_⟩
      · rcases List.mem_cons.1 ((h z).1 (List.mem_cons_of_mem _ hz)) with e | h2
        · have := ha.1 z hz; rw [e] at this; omega
        · exact h2
      · rcases List.mem_cons.1 ((h z).2 (List.mem_cons_of_mem _ hz)) with e | h2
        · have := hb.1 z hz; rw [e] at this; omega
        · exact h2
theorem indep {L : List Lk} (h : Vld L) {p q : Int} (hp : 0 ≤ p ∧ p ≤ 59) (hq : 0 ≤ q ∧ q ≤ 59) (hne : p ≠ q) (a b : Bool) :
    count (count L p a) q b = count (count L q b) p a := by
  have v1 := count_vld h hp a
  have v2 := count_vld h hq b
  refine ext ((vld_iff _).1 (count_vld v1 hq b)).2 ((vld_iff _).1 (count_vld v2 hp a)).2 fun x => ?_
  rw [mem_count v1, mem_count v2, mem_count h, mem_count h, of_count h hp, of_count h hq, if_neg (fun e => hne e.symm), if_neg hne]
  have e1 : (cnt (of L p) a).P = p := by rw [cnt_P, of_P]
  have e2 : (cnt (of L q) b).P = q := by rw [cnt_P, of_P]
  constructor
  · rintro (rfl | ⟨rfl | ⟨hx, h1⟩, h2⟩)
    · exact .inr ⟨.inl rfl, by omega⟩
    · exact .inl rfl
    · exact .inr ⟨.inr ⟨hx, h2⟩, h1⟩
  · rintro (rfl | ⟨rfl | ⟨hx, h1⟩, h2⟩)
    · exact .inr ⟨.inl rfl, by omega⟩
    · exact .inl rfl
    · exact .inr ⟨.inr ⟨hx, h2⟩, h1⟩

/-- After so many frames. -/
def aft (L : List Lk) (p : Int) (a : Bool) : Nat → List Lk
  | 0 => L
  | k + 1 => count (aft L p a k) p a
def cnts (x : Lk) (a : Bool) : Nat → Lk
  | 0 => x
  | k + 1 => cnt (cnts x a k) a
theorem aft_vld {L : List Lk} (h : Vld L) {p : Int} (hp : 0 ≤ p ∧ p ≤ 59) (a : Bool) (k : Nat) : Vld (aft L p a k) := by
  induction k with
  | zero => exact h
  | succ k ih => exact count_vld ih hp a
theorem aft_of {L : List Lk} (h : Vld L) {p : Int} (hp : 0 ≤ p ∧ p ≤ 59) (a : Bool) (k : Nat) : of (aft L p a k) p = cnts (of L p) a k := by
  induction k with
  | zero => rfl
  | succ k ih => rw [aft, of_count (aft_vld h hp a k) hp, if_pos rfl, ih]; rfl
theorem aft_cost {L : List Lk} (h : Vld L) {p : Int} (hp : 0 ≤ p ∧ p ≤ 59) (a : Bool) (k : Nat) : cost (aft L p a k) p = cost1 (cnts (of L p) a k) := by
  rw [cost, if_pos ⟨aft_vld h hp a k, hp⟩, aft_of h hp]
end Go.Proofs.Ytakkngdnpbgoiaa.Pl
