/-
  The counters that a law makes out of steps: the walk of slotmeshlaw29.counters. Condition: the steps' cells are known.
-/
import Derived.Test.YtkpkngecabciiaaMatch
import Derived.Maps.AppendAt
namespace Go.Proofs.Ytkpkngecabciiaa
open Go.RowKit

namespace Pl
def stepAt (zs : List Int) : Nat → Int
  | 0 => 500
  | k + 1 => max 1 (stepAt zs k + zs[k]?.getD 0)
def ctrs (zs : List Int) (k : Nat) : List Int := (List.range k).map fun i => stepAt zs (i + 1)
theorem ctrs_len (zs : List Int) (k : Nat) : (ctrs zs k).length = k := by simp [ctrs]
theorem ctrs_succ (zs : List Int) (k : Nat) : ctrs zs (k + 1) = ctrs zs k ++ [stepAt zs (k + 1)] := by simp [ctrs, List.range_succ]
theorem stepAt_bd {zs : List Int} (h : ∀ j : Nat, -128 ≤ zs[j]?.getD 0 ∧ zs[j]?.getD 0 ≤ 127) (k : Nat) : 1 ≤ stepAt zs k ∧ stepAt zs k ≤ 500 + 127 * k := by
  induction k with
  | zero => simp [stepAt]
  | succ k ih => have := h k; rw [stepAt]; omega
theorem ctrs_get {zs : List Int} {k j : Nat} (h : j < k) : (ctrs zs k)[j]? = some (stepAt zs (j + 1)) := by simp [ctrs, h]
end Pl

/-- A list of whole numbers in memory of the call's own, or the nil slice. -/
def Row (base : Nat) (w : World) (v : Value) (xs : List Int) : Prop := w.ownsRow base 3 1 v xs.length (xs.map (Value.int .i64))

theorem Try.info3 : (Try.prog.info? 3).map (fun i => (i.zero, i.size, i.bytes)) = some (some (.int .i64 0), 1, 8) := by kernel_rfl

theorem row_app {w : World} {base : Nat} {v : Value} {xs : List Int} {x : Int} (h : w.ownsRow base 3 1 v (xs.length + 1) (xs.map (Value.int .i64) ++ [.int .i64 x])) : Row base w v (xs ++ [x]) := by
  unfold Row; simpa using h

set_option maxHeartbeats 1600000 in
set_option maxRecDepth 100000 in
theorem ctrs_some (b off len cap : Nat) (zs : List Int) (w : World) (hlen : len ≤ 140737488351232) (hz : len ≤ zs.length) (hb : b < w.heap.size)
    (hc : ∀ j, j < zs.length → w.cell? ⟨b, off + j, none⟩ = some (.int .i8 (zs.getD j 0))) (hr : ∀ j : Nat, -128 ≤ zs[j]?.getD 0 ∧ zs[j]?.getD 0 ≤ 127) :
    Calls Try.prog 16 #[.slice (some ⟨b, off, none⟩) len cap] w fun e w' => ∃ v, e = .returned v ∧ Row w.heap.size w' v (Pl.ctrs zs (min len 100)) ∧ Below w.heap.size w w' := by
  obtain ⟨i0, hi, hz0, hz1, hz2⟩ := info_parts Try.info3
  go_enter Try.func16, Try.ntmps16
  go_wp2_with fail
  go_loopw [3, 4, 5] (fun v at_ i wr => ∃ k : Nat, k ≤ len ∧ k ≤ 100 ∧ i = .int .i64 k ∧ at_ = .int .i64 (Pl.stepAt zs k) ∧ Row w.heap.size wr v (Pl.ctrs zs k) ∧ Below w.heap.size w wr)
    (fun _ _ i _ => len - (intOf i).toNat)
  case atStart => exact ⟨0, by omega, by omega, rfl, rfl, World.ownsRow_nil _ _ _ _, Below.refl _ _⟩
  case round =>
    obtain ⟨k, hk, hk2, rfl, rfl, hown, hB⟩ := hrel
    have hsb := Pl.stepAt_bd hr k
    have hzk := hr k
    by_cases hlt : k < len
    · by_cases hlt2 : k < 100
      · have hcx : wr.cell? ⟨b, off + k, none⟩ = some (.int .i8 (zs[k]?.getD 0)) := by
          have := (hB.cell (p := ⟨b, off + k, none⟩) hb).trans (hc k (by omega))
          rwa [List.getD_eq_getElem?_getD] at this
        have hsu : Pl.stepAt zs (k + 1) = max 1 (Pl.stepAt zs k + zs[k]?.getD 0) := rfl
        have HS := Lib.hid hsu
        clear hsu
        have hlen2 := Pl.ctrs_len zs k
        have HL := Lib.hid hlen2
        clear hlen2
        unfold Row at hown
        rw [HL.out] at hown
        generalize hS : Pl.stepAt zs k = S at *
        generalize hZ : zs[k]?.getD 0 = Z at *
        clear hS hZ
        by_cases hm : S + Z < 1
        all_goals
          go_wp2_with (first
            | (at_builtin; refine wpList_append_own _ rfl _ _ 33 rfl w.heap.size 3 i0 (.int .i64 0) 1 8 Try.underlying33 hi hz0 hz1 hz2 rfl (by decide) _ _ _ rfl (hown.alloc _) ⟨wr.heap.size, 0, none⟩ 1 1 [_] rfl rfl (cell_one_new _ _ _) (by intro u hu; simp at hu; subst hu; rfl) (by unfold maxLen; omega) (by omega) (by have := hB.size; simp; omega) ?_))
        all_goals
          intro v' w1 hown1 hgrow _
          have hB1 : Below w.heap.size w w1 := (B_alloc hB _).grown hgrow (B_alloc hB _).size (fun j hj => (hown.lt j hj).1)
          have hrow := row_app (by rw [HL.out]; exact hown1)
          clear hown1 hgrow hown
          go_wp2_with fail
          go_roundw
          case rel => exact ⟨k + 1, by omega, by omega, by go_num, by rw [HS.out]; first | (rw [show max 1 (S + Z) = 1 by omega]; done) | (rw [show max 1 (S + Z) = S + Z by omega]; done), by rw [Pl.ctrs_succ, HS.out]; first | (rw [show max 1 (S + Z) = 1 by omega]; exact hrow) | (rw [show max 1 (S + Z) = S + Z by omega]; exact hrow), hB1⟩
          all_goals first | (simp [intOf]; done) | (simp [intOf]; omega)
      · go_wp2_with fail
        go_ret
        obtain rfl : k = 100 := by omega
        exact ⟨_, rfl, by rw [show min len 100 = 100 by omega]; exact hown, hB⟩
    · go_wp2_with fail
      go_ret
      obtain rfl : k = len := by omega
      exact ⟨_, rfl, by rw [show min k 100 = k by omega]; exact hown, hB⟩

set_option maxHeartbeats 400000 in
theorem ctrs_none (a : Option Addr) (cap : Nat) (w : World) :
    Calls Try.prog 16 #[.slice a 0 cap] w fun e w' => e = .returned (.slice none 0 0) ∧ Below w.heap.size w w' := by
  go_enter Try.func16, Try.ntmps16
  go_wp2_with fail
  refine wp_loop_rounds 1 ?_
  rw [rounds_succ]
  go_wp2_with fail
  go_ret
  exact ⟨rfl, Below.refl _ _⟩

/-- A slice of small numbers that came in. -/
def Steps (w : World) (a : Option Addr) (len cap : Nat) (zs : List Int) : Prop :=
  (a = none ∧ len = 0 ∧ cap = 0 ∧ zs = []) ∨
  ∃ x, a = some x ∧ len ≤ cap ∧ cap ≤ maxLen ∧ zs.length = cap ∧ (∀ i, i < zs.length → w.cell? (x.add i) = some (.int .i8 (zs.getD i 0))) ∧ ∀ n ∈ zs, (Lit.int .i8 n).wf = true

theorem cell_lt {w : World} {p : Addr} {v : Value} (hc : w.cell? p = some v) : p.block < w.heap.size := by
  unfold World.cell? at hc
  cases ho : w.heap[p.block]? with
  | none => simp [ho] at hc
  | some x => exact (Array.getElem?_eq_some_iff.1 ho).1
theorem Steps.below {w w' : World} {a : Option Addr} {len cap : Nat} {zs : List Int} (h : Steps w a len cap zs) (hb : Below w.heap.size w w') : Steps w' a len cap zs := by
  rcases h with h | ⟨x, h0, h1, h2, h3, hc, hwf⟩
  · exact .inl h
  · exact .inr ⟨x, h0, h1, h2, h3, fun i hi => (hb.cell (cell_lt (hc i hi))).trans (hc i hi), hwf⟩

theorem ctrs_any (a : Option Addr) (len cap : Nat) (zs : List Int) (w : World) (h : Steps w a len cap zs) (hl : len * 1 ≤ 140737488351232) :
    Calls Try.prog 16 #[.slice a len cap] w fun e w' => ∃ v, e = .returned v ∧ Row w.heap.size w' v (Pl.ctrs zs (min len 100)) ∧ Below w.heap.size w w' := by
  by_cases h0 : len = 0
  · subst h0
    exact (ctrs_none a cap w).mono fun e w' ⟨he, hb⟩ => ⟨_, he, by simpa [Pl.ctrs, Row] using World.ownsRow_nil w' w.heap.size 3 1, hb⟩
  · rcases h with ⟨_, h1, _⟩ | ⟨x, rfl, h1, h2, h3, hc, hwf⟩
    · exact absurd h1 h0
    · obtain ⟨b, off, rfl, hcc⟩ := ints_at hc (by omega)
      exact ctrs_some b off len cap zs w (by omega) (by omega) (cell_lt (hcc 0 (by omega))) hcc (range_i8 hwf)
end Go.Proofs.Ytkpkngecabciiaa
