/-
  Plain words for a timer: what a tick, a reset and a hearing make of it, and the laws of a row of ticks. Conditions: none.
-/
import Derived.Test.YtomfbadniajnlaaDoorPlain
namespace Go.Proofs.YtomfbadniajnlaaDoor.Pl

/-- A valid timer. -/
def Ok (I B F C S : Int) : Prop := (I = 1 ∨ I = 2 ∨ I = 4 ∨ I = 8) ∧ (0 ≤ B ∧ B ≤ 999999984) ∧ (0 ≤ S ∧ S ≤ 1000000000) ∧ (B + I / 2 ≤ F ∧ F ≤ B + I - 1) ∧ (0 ≤ C ∧ C ≤ 100)
instance (I B F C S : Int) : Decidable (Ok I B F C S) := by unfold Ok; infer_instance
/-- The frame in which a timer may send, in an interval of a length that begins in a frame. -/
def fire (S len frame : Int) : Int := frame + len / 2 + below (1000003 * S + frame).toNat (len - len / 2)

structure T where
  I : Int
  B : Int
  F : Int
  C : Int
  S : Int
def T.Ok (t : T) : Prop := Pl.Ok t.I t.B t.F t.C t.S
instance (t : T) : Decidable t.Ok := by unfold T.Ok; infer_instance
def frameOk (f : Int) : Prop := 0 ≤ f ∧ f ≤ 999999984
instance (f : Int) : Decidable (frameOk f) := by unfold frameOk; infer_instance
def start (S len frame : Int) : T := ⟨len, frame, fire S len frame, 0, S⟩
def tickT (t : T) (f : Int) : T := if t.Ok ∧ frameOk f ∧ t.B + t.I ≤ f then start t.S (min 8 (2 * t.I)) f else t
def tickB (t : T) (f : Int) : Bool := decide (t.Ok ∧ frameOk f ∧ t.B ≤ f ∧ f = (tickT t f).F ∧ (tickT t f).C < 2)
def hear (t : T) : T := if t.Ok then { t with C := min 100 (t.C + 1) } else t
def hearN : Nat → T → T
  | 0, t => t
  | n + 1, t => hear (hearN n t)
def reset (t : T) (f : Int) : T := if t.Ok ∧ frameOk f ∧ t.I ≠ 1 then start t.S 1 f else t

theorem below_bd (s : Nat) (n : Int) (h1 : 1 ≤ n) (h2 : n ≤ 1000000000) : 0 ≤ below s n ∧ below s n < n := by
  rw [below, if_neg (by omega)]
  exact ⟨Int.emod_nonneg _ (by omega), Int.emod_lt_of_pos _ (by omega)⟩
theorem fire_bd (S len f : Int) (h : len = 1 ∨ len = 2 ∨ len = 4 ∨ len = 8) : f + len / 2 ≤ fire S len f ∧ fire S len f ≤ f + len - 1 := by
  have := below_bd (1000003 * S + f).toNat (len - len / 2) (by omega) (by omega)
  unfold fire; omega
theorem start_ok {S len f : Int} (h : len = 1 ∨ len = 2 ∨ len = 4 ∨ len = 8) (hS : 0 ≤ S ∧ S ≤ 1000000000) (hf : frameOk f) : (start S len f).Ok := by
  have := fire_bd S len f h
  unfold frameOk at hf
  simp only [T.Ok, start, Ok]
  omega
theorem hear_ok {t : T} (h : t.Ok) : (hear t).Ok := by
  rw [hear, if_pos h]; unfold T.Ok Ok at *; simp only; omega
theorem tick_ok {t : T} (f : Int) (h : t.Ok) : (tickT t f).Ok := by
  unfold tickT; split
  · rename_i hh; exact start_ok (by have := h; unfold T.Ok Ok at this; omega) (by have := h; unfold T.Ok Ok at this; omega) hh.2.1
  · exact h
theorem reset_ok {t : T} (f : Int) (h : t.Ok) : (reset t f).Ok := by
  unfold reset; split
  · rename_i hh; exact start_ok (.inl rfl) (by have := h; unfold T.Ok Ok at this; omega) hh.2.1
  · exact h
theorem hear_seed (t : T) : (hear t).S = t.S := by unfold hear; split <;> rfl
theorem tick_seed (t : T) (f : Int) : (tickT t f).S = t.S := by unfold tickT; split <;> rfl
theorem reset_seed (t : T) (f : Int) : (reset t f).S = t.S := by unfold reset; split <;> rfl
theorem hearN_ok (n : Nat) {t : T} (h : t.Ok) : (hearN n t).Ok := by
  induction n with
  | zero => exact h
  | succ n ih => exact hear_ok ih
theorem hear_same (t : T) : (hear t).I = t.I ∧ (hear t).B = t.B ∧ (hear t).F = t.F ∧ (hear t).S = t.S := by unfold hear; split <;> simp
theorem hearN_same (n : Nat) (t : T) : (hearN n t).I = t.I ∧ (hearN n t).B = t.B ∧ (hearN n t).F = t.F ∧ (hearN n t).S = t.S := by
  induction n with
  | zero => exact ⟨rfl, rfl, rfl, rfl⟩
  | succ n ih => have := hear_same (hearN n t); rw [hearN]; simp only [this, ih, and_self]

/-! ### a row of ticks -/
def run (h : Nat → Nat) (t : T) (f : Int) : Nat → T
  | 0 => t
  | i + 1 => tickT (hearN (h i) (run h t f i)) (f + i)
def said (h : Nat → Nat) (t : T) (f : Int) (i : Nat) : Bool := tickB (hearN (h i) (run h t f i)) (f + i)

/-- What one tick in or right behind the interval does. -/
theorem tick_step {t : T} {f : Int} (n : Nat) (h : t.Ok) (h1 : t.B ≤ f) (h2 : f ≤ t.B + t.I) (h3 : f ≤ 999999984) :
    let u := tickT (hearN n t) f
    u.Ok ∧ u.B ≤ f ∧ f + 1 ≤ u.B + u.I ∧ (tickB (hearN n t) f = true → f = u.F) ∧
      ((f < t.B + t.I ∧ u.I = t.I ∧ u.B = t.B ∧ u.F = t.F) ∨ (f = t.B + t.I ∧ u.B = f ∧ u.C = 0 ∧ ((t.I = 1 ∧ u.I = 2) ∨ (t.I = 2 ∧ u.I = 4) ∨ (t.I = 4 ∧ u.I = 8) ∨ (t.I = 8 ∧ u.I = 8)))) := by
  have hs := hearN_same n t
  have ho := hearN_ok n h
  have hu := tick_ok f ho
  generalize hearN n t = x at *
  refine ⟨hu, ?_⟩
  have hk := h
  unfold T.Ok Ok at hk
  have hb : tickB x f = true → f = (tickT x f).F := fun hb => by unfold tickB at hb; simp only [decide_eq_true_eq] at hb; exact hb.2.2.2.1
  by_cases hc : x.B + x.I ≤ f
  · have e : tickT x f = start x.S (min 8 (2 * x.I)) f := by rw [tickT, if_pos ⟨ho, ⟨by omega, by omega⟩, hc⟩]
    rw [e] at hb ⊢
    refine ⟨?_, ?_, hb, .inr ⟨by omega, rfl, rfl, ?_⟩⟩ <;> simp only [start] <;> omega
  · have e : tickT x f = x := by rw [tickT, if_neg (by intro hh; exact hc hh.2.2)]
    rw [e] at hb ⊢
    exact ⟨by omega, by omega, hb, .inl ⟨by omega, by omega, by omega, by omega⟩⟩
/-- Nothing heard: a tick in the frame speaks unless two were heard before. -/
theorem tick_speaks {t : T} {f : Int} (h : t.Ok) (h1 : t.B ≤ f) (h2 : 0 ≤ f ∧ f ≤ 999999984) (h3 : (tickT t f).C < 2) : tickB t f = decide (f = (tickT t f).F) := by
  unfold tickB
  rw [Bool.eq_iff_iff]; simp only [decide_eq_true_eq]
  exact ⟨fun hh => hh.2.2.2.1, fun hh => ⟨h, h2, h1, hh, h3⟩⟩

theorem run_inv (h : Nat → Nat) {t : T} {f : Int} (ht : t.Ok) (h1 : t.B ≤ f) (h2 : f ≤ t.B + t.I) (h3 : f ≤ 900000000) (i : Nat) (hi : i ≤ 2000) :
    (run h t f i).Ok ∧ (run h t f i).B ≤ f + i ∧ f + i ≤ (run h t f i).B + (run h t f i).I := by
  induction i with
  | zero => simpa [run] using ⟨ht, h1, h2⟩
  | succ i ih =>
    obtain ⟨a, b, c⟩ := ih (by omega)
    have := tick_step (h i) a b c (by omega)
    simp only at this
    rw [run]; push_cast
    refine ⟨this.1, by omega, by omega⟩

/-! ### seldom -/
theorem run_eight (h : Nat → Nat) {t : T} {f : Int} (ht : t.Ok) (h1 : t.B ≤ f) (h2 : f ≤ t.B + t.I) (h3 : f ≤ 900000000) (h8 : t.I = 8) (i : Nat) (hi : i ≤ 1000) : (run h t f i).I = 8 := by
  induction i with
  | zero => exact h8
  | succ i ih =>
    have ih := ih (by omega)
    obtain ⟨a, b, c⟩ := run_inv h ht h1 h2 h3 i (by omega)
    have := tick_step (h i) a b c (by omega)
    simp only at this
    rw [run]; omega
theorem seldom_inv (h : Nat → Nat) {t : T} {f : Int} (ht : t.Ok) (h1 : t.B ≤ f) (h2 : f ≤ t.B + t.I) (h3 : f ≤ 900000000) (h8 : t.I = 8) (i : Nat) (hs : said h t f i = true) (d : Nat) (hd : i + 1 + d ≤ 1000) :
    f + i = (run h t f (i + 1 + d)).F ∨ f + i + 4 ≤ (run h t f (i + 1 + d)).F := by
  induction d with
  | zero =>
    obtain ⟨a, b, c⟩ := run_inv h ht h1 h2 h3 i (by omega)
    have := tick_step (h i) a b c (by omega)
    simp only at this
    exact .inl (this.2.2.2.1 hs)
  | succ d ih =>
    have ih := ih (by omega)
    obtain ⟨a, b, c⟩ := run_inv h ht h1 h2 h3 (i + 1 + d) (by omega)
    have e8 := run_eight h ht h1 h2 h3 h8 (i + 1 + d) (by omega)
    have := tick_step (h (i + 1 + d)) a b c (by omega)
    simp only at this
    have hu := this.1
    have ha := a
    unfold T.Ok Ok at hu ha
    rw [show i + 1 + (d + 1) = (i + 1 + d) + 1 from rfl, run]
    omega
theorem seldom (h : Nat → Nat) {t : T} {f : Int} (ht : t.Ok) (h1 : t.B ≤ f) (h2 : f ≤ t.B + t.I) (h3 : f ≤ 900000000) (h8 : t.I = 8) (i k : Nat) (hik : i < k) (hk : k < i + 4) (hk2 : k < 60)
    (hs : said h t f i = true) (hs2 : said h t f k = true) : False := by
  have hv := seldom_inv h ht h1 h2 h3 h8 i hs (k - i) (by omega)
  rw [show i + 1 + (k - i) = k + 1 by omega] at hv
  obtain ⟨a, b, c⟩ := run_inv h ht h1 h2 h3 k (by omega)
  have := tick_step (h k) a b c (by omega)
  simp only at this
  have := this.2.2.2.1 hs2
  rw [run] at hv
  omega

/-! ### again -/
def lastS (t : T) (f : Int) : Nat → Int
  | 0 => -1
  | i + 1 => if said (fun _ => 0) t f i then (i : Int) else lastS t f i
theorem run_zero (t : T) (f : Int) (i : Nat) : run (fun _ => 0) t f (i + 1) = tickT (run (fun _ => 0) t f i) (f + i) := rfl
theorem said_zero (t : T) (f : Int) (i : Nat) : said (fun _ => 0) t f i = tickB (run (fun _ => 0) t f i) (f + i) := rfl
theorem lastS_succ (t : T) (f : Int) (i : Nat) : lastS t f (i + 1) = if tickB (run (fun _ => 0) t f i) (f + i) = true then (i : Int) else lastS t f i := rfl
theorem run_C {t : T} {f : Int} (ht : t.Ok) (h1 : t.B ≤ f) (h2 : f ≤ t.B + t.I) (h3 : f ≤ 900000000) (hC : t.C < 2) (i : Nat) (hi : i ≤ 2000) : (run (fun _ => 0) t f i).C < 2 := by
  induction i with
  | zero => exact hC
  | succ i ih =>
    have ih := ih (by omega)
    rw [run]; simp only [hearN]
    unfold tickT; split
    · simp [start]
    · exact ih
theorem again_inv {t : T} {f : Int} (ht : t.Ok) (h1 : t.B = f) (h3 : f ≤ 900000000) (hC : t.C < 2) (i : Nat) (hi : i ≤ 1000) :
    let u := run (fun _ => 0) t f (i + 1)
    let l := lastS t f (i + 1)
    (u.F ≤ f + i ∧ l = u.F - f) ∨ (f + i < u.F ∧ u.F - f - l ≤ 11) := by
  induction i with
  | zero =>
    have hst := tick_step 0 ht (Int.le_of_eq h1) (by have := ht; unfold T.Ok Ok at this; omega) (by omega)
    have z : f + ((0 : Nat) : Int) = f := by simp
    simp only [run, lastS, said, hearN, z] at hst ⊢
    have hk := ht
    have hu := hst.1
    unfold T.Ok Ok at hk hu
    have hsp := tick_speaks (f := f) ht (Int.le_of_eq h1) (by omega) (by
      unfold tickT
      split
      · simp [start]
      · exact hC)
    rw [hsp]
    by_cases e : f = (tickT t f).F
    · rw [decide_eq_true e, if_pos rfl]; simp only [Int.natCast_zero]; omega
    · rw [decide_eq_false e, if_neg (by simp)]; omega
  | succ i ih =>
    have ih := ih (by omega)
    obtain ⟨a, b, c⟩ := run_inv (fun _ => 0) ht (Int.le_of_eq h1) (by have := ht; unfold T.Ok Ok at this; omega) h3 (i + 1) (by omega)
    have hc := run_C ht (Int.le_of_eq h1) (by have := ht; unfold T.Ok Ok at this; omega) h3 hC (i + 2) (by omega)
    have hst := tick_step 0 a b c (by push_cast; omega)
    simp only at ih
    rw [run_zero] at hc
    rw [lastS_succ, run_zero]
    simp only [hearN] at hst
    generalize run (fun _ => 0) t f (i + 1) = x at *
    generalize lastS t f (i + 1) = l at *
    have hsp := tick_speaks (f := f + (i + 1 : Nat)) a (by push_cast; omega) (by have := a; unfold T.Ok Ok at this; push_cast; omega) hc
    rw [hsp]
    have hu := hst.1
    unfold T.Ok Ok at a hu
    push_cast at *
    by_cases e : f + (i + 1) = (tickT x (f + (i + 1))).F
    · rw [decide_eq_true e, if_pos rfl]; omega
    · rw [decide_eq_false e, if_neg (by simp)]; omega
theorem again {t : T} (ht : t.Ok) (h3 : t.B ≤ 900000000) (hC : t.C < 2) (i : Nat) (hi : i ≤ 100) : (i : Int) - lastS t t.B (i + 1) < 12 := by
  have h := again_inv ht rfl h3 hC i (by omega)
  simp only at h
  obtain ⟨a, b, c⟩ := run_inv (fun _ => 0) ht (Int.le_refl _) (by have := ht; unfold T.Ok Ok at this; omega) h3 (i + 1) (by omega)
  unfold T.Ok Ok at a
  push_cast at *
  omega

/-! ### reset -/
theorem reset_soon {t : T} {f : Int} (ht : t.Ok) (h1 : t.B ≤ f) (h2 : f ≤ t.B + t.I) (h3 : f ≤ 900000000) :
    ∃ i : Nat, i < 4 ∧ said (fun _ => 0) (reset t f) f i = true := by
  have hk := ht
  unfold T.Ok Ok at hk
  by_cases hI : t.I = 1
  · have e : reset t f = t := by rw [reset, if_neg (by intro h; exact h.2.2 hI)]
    rw [e]
    have two : ∀ g : Int, t.B + 1 = g → tickT t g = start t.S 2 g := fun g hg => by
      rw [tickT, if_pos ⟨ht, ⟨by omega, by omega⟩, by omega⟩, hI]; rfl
    have sok : ∀ g : Int, frameOk g → (start t.S 2 g).Ok := fun g hg => start_ok (by omega) (by omega) hg
    have sp : ∀ g : Int, frameOk g → g ≤ 999999000 → tickB (start t.S 2 g) (g + 1) = true := fun g hg hg2 => by
      have hb := fire_bd t.S 2 g (by omega)
      have e2 : tickT (start t.S 2 g) (g + 1) = start t.S 2 g := by rw [tickT, if_neg (by simp only [start]; omega)]
      have hg' := hg
      unfold frameOk at hg'
      rw [tickB, e2]
      refine decide_eq_true ⟨sok g hg, ⟨by omega, by omega⟩, ?_, ?_, ?_⟩ <;> simp only [start] <;> omega
    by_cases hf : f = t.B
    · have e0 : tickT t f = t := by rw [tickT, if_neg (by omega)]
      refine ⟨2, by omega, ?_⟩
      have z : f + ((0 : Nat) : Int) = f := by simp
      rw [said_zero, run_zero, run_zero, run, z, e0, two (f + ((1 : Nat) : Int)) (by simp; omega), show f + ((2 : Nat) : Int) = (f + 1) + 1 by simp; omega]
      exact sp (f + 1) ⟨by omega, by omega⟩ (by omega)
    · refine ⟨1, by omega, ?_⟩
      have z : f + ((0 : Nat) : Int) = f := by simp
      rw [said_zero, run_zero, run, z, two f (by omega)]
      exact sp f ⟨by omega, by omega⟩ (by omega)
  · have e : reset t f = start t.S 1 f := by rw [reset, if_pos ⟨ht, ⟨by omega, by omega⟩, hI⟩]
    rw [e]
    have hb := fire_bd t.S 1 f (by omega)
    refine ⟨0, by omega, ?_⟩
    have e2 : tickT (start t.S 1 f) f = start t.S 1 f := by rw [tickT, if_neg (by simp only [start]; omega)]
    have z : f + ((0 : Nat) : Int) = f := by simp
    rw [said_zero, run, z, tickB, e2]
    refine decide_eq_true ⟨start_ok (by omega) (by omega) ⟨by omega, by omega⟩, ⟨by omega, by omega⟩, ?_, ?_, ?_⟩ <;> simp only [start] <;> omega

/-! ### growth -/
/-- What holds of the timer ahead of tick i, at the frame f + i. -/
def Grow (t : T) (f : Int) (i : Nat) : Prop := t.Ok ∧ t.B ≤ f + i ∧ f + i ≤ t.B + t.I ∧ (t.I = 1 → t.B ≤ f) ∧ (t.I = 2 → t.B ≤ f + 1) ∧ (t.I = 4 → t.B ≤ f + 3)
theorem grow_start {t : T} {f : Int} (ht : t.Ok) (h1 : t.B ≤ f) (h2 : f ≤ t.B + t.I) : Grow t f 0 := ⟨ht, by omega, by omega, by omega, by omega, by omega⟩
theorem grow_step {t : T} {f : Int} {i : Nat} (n : Nat) (h : Grow t f i) (h3 : f ≤ 900000000) (hi : i ≤ 1000) :
    let u := tickT (hearN n t) (f + i)
    Grow u f (i + 1) ∧ t.I ≤ u.I ∧ (u.B = t.B ∨ (u.B = t.B + t.I ∧ u.B = f + i)) ∧ (i < 7 ∨ u.I = 8) := by
  obtain ⟨a, b, c, d1, d2, d3⟩ := h
  have := tick_step n a b c (by omega)
  simp only at this ⊢
  unfold Grow
  obtain ⟨k1, k2, k3, _, k5⟩ := this
  refine ⟨⟨k1, ?_⟩, ?_⟩
  · push_cast; unfold T.Ok Ok at a; omega
  · have ku := k1; unfold T.Ok Ok at a ku; omega

/-! ### suppressed -/
theorem supp_early {t : T} {f : Int} (ht : t.Ok) (h : f < t.B + t.I) : tickB (hear (hear t)) f = false := by
  refine decide_eq_false ?_
  rintro ⟨a, b, c, d, e⟩
  have hs := hear_same t
  have hs2 := hear_same (hear t)
  have h0 := hear_ok ht
  rw [tickT, if_neg (by omega), hear, if_pos h0, hear, if_pos ht] at e
  unfold T.Ok Ok at ht
  simp only at e
  omega
theorem supp_late {t : T} {f : Int} (ht : t.Ok) (h : t.B + t.I ≤ f) (hf : frameOk f) :
    tickT (hear (hear t)) f = tickT t f ∧ (tickT t f).C = 0 ∧ tickB (hear (hear t)) f = tickB t f := by
  have hs := hear_same t
  have hs2 := hear_same (hear t)
  have h0 := hear_ok (hear_ok ht)
  have e1 : tickT t f = start t.S (min 8 (2 * t.I)) f := by rw [tickT, if_pos ⟨ht, hf, h⟩]
  have e2 : tickT (hear (hear t)) f = start t.S (min 8 (2 * t.I)) f := by rw [tickT, if_pos ⟨h0, hf, by omega⟩, hs2.1, hs2.2.2.2, hs.1, hs.2.2.2]
  refine ⟨by rw [e1, e2], by rw [e1]; rfl, ?_⟩
  unfold tickB
  rw [e1, e2, Bool.eq_iff_iff]; simp only [decide_eq_true_eq]
  unfold T.Ok Ok at ht
  constructor
  · rintro ⟨a, b, c, d⟩; exact ⟨by unfold T.Ok Ok; omega, b, by omega, d⟩
  · rintro ⟨a, b, c, d⟩; exact ⟨h0, b, by omega, d⟩
theorem supp_bad {t : T} {f : Int} (hf : ¬ frameOk f) : tickB t f = false := decide_eq_false fun h => hf h.2.1
end Go.Proofs.YtomfbadniajnlaaDoor.Pl
