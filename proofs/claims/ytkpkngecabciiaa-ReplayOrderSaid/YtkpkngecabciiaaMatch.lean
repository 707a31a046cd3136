/-
  For every window and counter, Note, Valid and Fresh return what the reference returns: the walk of ReplayMatchesReference. Conditions: none.
-/
import Derived.Test.YtkpkngecabciiaaRef
import Derived.Deep.RegionHeld3
import Derived.OpenShut
namespace Go.Proofs.Ytkpkngecabciiaa
open Go.RowKit

theorem keep6 {w W W' : World} {a b c : Nat} {a0 a1 b0 b1 c0 c1 : Value} (h : W.cell? ⟨a, 0, none⟩ = some a0 ∧ W.cell? ⟨a, 1, none⟩ = some a1 ∧ W.cell? ⟨b, 0, none⟩ = some b0 ∧ W.cell? ⟨b, 1, none⟩ = some b1 ∧ W.cell? ⟨c, 0, none⟩ = some c0 ∧ W.cell? ⟨c, 1, none⟩ = some c1 ∧ Below w.heap.size w W) (hb : Below W.heap.size W W') :
    W'.cell? ⟨a, 0, none⟩ = some a0 ∧ W'.cell? ⟨a, 1, none⟩ = some a1 ∧ W'.cell? ⟨b, 0, none⟩ = some b0 ∧ W'.cell? ⟨b, 1, none⟩ = some b1 ∧ W'.cell? ⟨c, 0, none⟩ = some c0 ∧ W'.cell? ⟨c, 1, none⟩ = some c1 ∧ Below w.heap.size w W' := by
  have K : ∀ {g o : Nat} {v : Value}, W.cell? ⟨g, o, none⟩ = some v → W'.cell? ⟨g, o, none⟩ = some v := fun {g o v} hc => by
    have hlt : g < W.heap.size := by
      unfold World.cell? at hc
      cases ho : W.heap[g]? with
      | none => simp [ho] at hc
      | some x => exact (Array.getElem?_eq_some_iff.1 ho).1
    exact (hb.cell (p := ⟨g, o, none⟩) hlt).trans hc
  exact ⟨K h.1, K h.2.1, K h.2.2.1, K h.2.2.2.1, K h.2.2.2.2.1, K h.2.2.2.2.2.1, B_trans h.2.2.2.2.2.2 hb⟩

set_option maxHeartbeats 2000000 in
theorem match_walk (t : Int) (b : Nat) (n : Int) (w : World) (hb : b < 2 ^ 64) :
    Calls Try.prog 3 #[.agg #[.int .i64 t, .int .u64 b], .int .i64 n] w fun e w' => e = .returned (.bool true) ∧ Below w.heap.size w w' := by
  go_enter Try.func3, Try.ntmps3
  go_wp2_with fail
  have k0 := Win.new w (.int .i64 t) (.int .u64 b)
  refine (head_any _).mono ?_
  rintro e w1 ⟨rfl, hb1⟩
  have B : Below w.heap.size w w1 := (Joins.below_alloc1 w _).trans (hb1.mono (by simp))
  replace k0 := k0.below hb1
  obtain ⟨c0, c1, -, -⟩ := k0.all
  go_wp2_with fail
  refine (note_any t b n _ hb).mono ?_
  generalize hN : Pl.note t b n = N
  have HN := Lib.hid hN
  clear hN
  rintro e w2 ⟨rfl, hb2⟩
  replace B := B_alloc (B_trans B hb2) (.cells #[.int .i64 N.t, .int .u64 (N.b : Nat)] 24)
  replace k0 := (k0.below hb2).alloc (.cells #[.int .i64 N.t, .int .u64 (N.b : Nat)] 24)
  have k1 := Win.new w2 (.int .i64 N.t) (.int .u64 (N.b : Nat))
  clear c0 c1
  obtain ⟨c0, c1, -, -⟩ := k0.all
  obtain ⟨d0, d1, -, -⟩ := k1.all
  go_wp2_with fail
  refine (rnote_any t b n _ hb).mono ?_
  rw [HN.out]
  rintro e w3 ⟨rfl, hb3⟩
  replace B := B_alloc (B_trans B hb3) (.cells #[.int .i64 N.t, .int .u64 (N.b : Nat)] 24)
  replace k0 := (k0.below hb3).alloc (.cells #[.int .i64 N.t, .int .u64 (N.b : Nat)] 24)
  replace k1 := (k1.below hb3).alloc (.cells #[.int .i64 N.t, .int .u64 (N.b : Nat)] 24)
  have k2 := Win.new w3 (.int .i64 N.t) (.int .u64 (N.b : Nat))
  clear c0 c1 d0 d1
  obtain ⟨c0, c1, -, -⟩ := k0.all
  obtain ⟨d0, d1, -, -⟩ := k1.all
  obtain ⟨e0, e1, -, -⟩ := k2.all
  have hS0 := And.intro c0 (And.intro c1 (And.intro d0 (And.intro d1 (And.intro e0 (And.intro e1 B.drew)))))
  go_wp2_with fail
  go_region_held3 (fun W => W.cell? ⟨w.heap.size, 0, none⟩ = some (.int .i64 t) ∧ W.cell? ⟨w.heap.size, 1, none⟩ = some (.int .u64 b) ∧ W.cell? ⟨w2.heap.size, 0, none⟩ = some (.int .i64 N.t) ∧ W.cell? ⟨w2.heap.size, 1, none⟩ = some (.int .u64 (N.b : Nat)) ∧ W.cell? ⟨w3.heap.size, 0, none⟩ = some (.int .i64 N.t) ∧ W.cell? ⟨w3.heap.size, 1, none⟩ = some (.int .u64 (N.b : Nat)) ∧ Below w.heap.size w W)
    (first | assumption | (exact hS0) | (refine keep6 ?_ hb'; assumption))
    (first
      | (go_at_call 12; refine (valid_any t b _ hb).mono ?_; rintro e w' ⟨rfl, hb'⟩)
      | (go_at_call 13; refine (rvalid_any t b _ hb).mono ?_; rintro e w' ⟨rfl, hb'⟩)
      | (go_at_call 14; refine (fresh_any t b n _ hb).mono ?_; rintro e w' ⟨rfl, hb'⟩)
      | (go_at_call 15; refine (rfresh_any t b n _ hb).mono ?_; rintro e w' ⟨rfl, hb'⟩))
  all_goals
    have hEnd := (by assumption : _ ∧ _ ∧ _ ∧ _ ∧ _ ∧ _ ∧ Below w.heap.size w _)
    go_wp2_with fail
    go_ret
    exact ⟨rfl, hEnd.2.2.2.2.2.2⟩

theorem u64_nat {x : Int} (h : (Lit.int .u64 x).wf = true) : ∃ b : Nat, x = b ∧ b < 2 ^ 64 := by
  have hb := bounds_u64 h
  exact ⟨x.toNat, by omega, by have : x.toNat < 18446744073709551616 := by omega
                               simpa using this⟩
theorem match_law (t b n : Int) (w : World) (_ : (Lit.int .i64 t).wf = true) (hb : (Lit.int .u64 b).wf = true) (_ : (Lit.int .i64 n).wf = true) :
    Calls Try.prog 3 #[.agg #[.int .i64 t, .int .u64 b], .int .i64 n] w fun e w' => e = .returned (.bool true) ∧ Below w.heap.size w w' := by
  obtain ⟨b, rfl, h⟩ := u64_nat hb
  exact match_walk t b n w h
end Go.Proofs.Ytkpkngecabciiaa
