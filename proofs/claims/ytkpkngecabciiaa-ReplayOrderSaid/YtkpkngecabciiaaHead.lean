/-
  The laws' fixed examples (head) are true: the walk of slotmeshlaw29.head. Conditions: none.
-/
import Derived.Test.YtkpkngecabciiaaWalks
namespace Go.Proofs.Ytkpkngecabciiaa
open Go.RowKit

theorem note_at (t : Int) (b : Nat) (n : Int) (w : World) (bi t' b' e' : Int) (hbi : bi = (b : Int)) (hb : b < 2 ^ 64) (h1 : (Pl.note t b n).t = t') (h2 : (((Pl.note t b n).b : Nat) : Int) = b') (h3 : (Pl.note t b n).e = e') :
    Calls Try.prog 10 #[.agg #[.int .i64 t, .int .u64 bi], .int .i64 n] w fun e w' => e = .returned (.tuple #[.agg #[.int .i64 t', .int .u64 b'], .int .i64 e']) ∧ Below w.heap.size w w' := by
  rw [hbi, ← h1, ← h2, ← h3]
  exact note_any t b n w hb
theorem fresh_at (t : Int) (b : Nat) (n : Int) (w : World) (bi : Int) (r : Bool) (hbi : bi = (b : Int)) (hb : b < 2 ^ 64) (h : Pl.fresh t b n = r) :
    Calls Try.prog 14 #[.agg #[.int .i64 t, .int .u64 bi], .int .i64 n] w fun e w' => e = .returned (.bool r) ∧ Below w.heap.size w w' := by
  rw [hbi, ← h]; exact fresh_any t b n w hb
theorem valid_at (t : Int) (b : Nat) (w : World) (bi : Int) (r : Bool) (hbi : bi = (b : Int)) (hb : b < 2 ^ 64) (h : Pl.valid t b = r) :
    Calls Try.prog 12 #[.agg #[.int .i64 t, .int .u64 bi]] w fun e w' => e = .returned (.bool r) ∧ Below w.heap.size w w' := by
  rw [hbi, ← h]; exact valid_any t b w hb

theorem B_alloc {w w1 : World} (h : Below w.heap.size w w1) (o : Obj) : Below w.heap.size w (w1.alloc o) := h.alloc h.size o
theorem B_trans {w w1 w2 : World} (h : Below w.heap.size w w1) (k : Below w1.heap.size w1 w2) : Below w.heap.size w w2 := h.trans (k.mono h.size)

set_option maxHeartbeats 1000000 in
theorem head_any (w : World) : Calls Try.prog 9 #[] w fun e w' => e = .returned (.bool true) ∧ Below w.heap.size w w' := by
  go_enter Try.func9, Try.ntmps9
  go_wp2_with fail
  refine (note_at 0 0 5 _ 0 5 1 0 rfl (by decide) rfl rfl rfl).mono ?_
  rintro e w1 ⟨rfl, B1⟩
  have A1 := Win.new w1 (.int .i64 5) (.int .u64 1)
  obtain ⟨a0, a1, -, -⟩ := A1.all
  go_wp2_with fail
  refine (note_at 5 1 7 _ 1 7 5 0 rfl (by decide) rfl rfl rfl).mono ?_
  rintro e w2 ⟨rfl, B2⟩
  replace B1 := B_trans (B_alloc B1 _) B2
  clear a0 a1
  replace A1 := (A1.below B2).alloc (.cells #[.int .i64 7, .int .u64 5] 24)
  have A2 := Win.new w2 (.int .i64 7) (.int .u64 5)
  obtain ⟨a0, a1, -, -⟩ := A2.all
  go_wp2_with fail
  refine (note_at 7 5 6 _ 5 7 7 0 rfl (by decide) rfl rfl rfl).mono ?_
  rintro e w3 ⟨rfl, B3⟩
  replace B1 := B_trans (B_alloc B1 _) B3
  clear a0 a1
  replace A1 := (A1.below B3).alloc (.cells #[.int .i64 7, .int .u64 7] 24)
  replace A2 := (A2.below B3).alloc (.cells #[.int .i64 7, .int .u64 7] 24)
  have A3 := Win.new w3 (.int .i64 7) (.int .u64 7)
  obtain ⟨a0, a1, -, -⟩ := A3.all
  go_wp2_with fail
  refine (note_at 7 7 5 _ 7 0 0 14 rfl (by decide) rfl rfl rfl).mono ?_
  rintro e w4 ⟨rfl, B4⟩
  replace B1 := B_trans (B_alloc B1 _) B4
  clear a0 a1
  replace A1 := (A1.below B4).alloc (.cells #[.int .i64 0, .int .u64 0] 24)
  replace A2 := (A2.below B4).alloc (.cells #[.int .i64 0, .int .u64 0] 24)
  replace A3 := (A3.below B4).alloc (.cells #[.int .i64 0, .int .u64 0] 24)
  obtain ⟨a0, a1, -, -⟩ := A3.all
  go_wp2_with fail
  refine (note_at 7 7 71 _ 7 71 1 0 rfl (by decide) rfl rfl rfl).mono ?_
  rintro e w5 ⟨rfl, B5⟩
  replace B1 := B_trans (B_alloc B1 _) B5
  clear a0 a1
  replace A1 := (A1.below B5).alloc (.cells #[.int .i64 71, .int .u64 1] 24)
  replace A2 := (A2.below B5).alloc (.cells #[.int .i64 71, .int .u64 1] 24)
  replace A3 := (A3.below B5).alloc (.cells #[.int .i64 71, .int .u64 1] 24)
  have A4 := Win.new w5 (.int .i64 71) (.int .u64 1)
  obtain ⟨a0, a1, -, -⟩ := A1.all
  go_wp2_with fail
  refine (note_at 5 1 0 _ 1 0 0 1 rfl (by decide) rfl rfl rfl).mono ?_
  rintro e w6 ⟨rfl, B6⟩
  replace B1 := B_trans (B_alloc B1 _) B6
  clear a0 a1
  replace A1 := (A1.below B6).alloc (.cells #[.int .i64 0, .int .u64 0] 24)
  replace A2 := (A2.below B6).alloc (.cells #[.int .i64 0, .int .u64 0] 24)
  replace A3 := (A3.below B6).alloc (.cells #[.int .i64 0, .int .u64 0] 24)
  replace A4 := (A4.below B6).alloc (.cells #[.int .i64 0, .int .u64 0] 24)
  obtain ⟨a0, a1, -, -⟩ := A1.all
  obtain ⟨b0, b1, -, -⟩ := A2.all
  obtain ⟨c0, c1, -, -⟩ := A3.all
  obtain ⟨d0, d1, -, -⟩ := A4.all
  go_wp2_with fail
  refine (fresh_at 71 1 8 _ 1 true rfl (by decide) rfl).mono ?_
  rintro e w7 ⟨rfl, B7⟩
  replace B1 := B_trans (B_alloc B1 _) B7
  clear a0 a1 b0 b1 c0 c1 d0 d1
  replace A4 := A4.below B7
  obtain ⟨d0, d1, -, -⟩ := A4.all
  go_wp2_with fail
  refine (fresh_at 71 1 7 _ 1 false rfl (by decide) rfl).mono ?_
  rintro e w8 ⟨rfl, B8⟩
  replace B1 := B_trans B1 B8
  clear d0 d1
  replace A4 := A4.below B8
  obtain ⟨d0, d1, -, -⟩ := A4.all
  go_wp2_with fail
  refine (valid_at 71 1 _ 1 true rfl (by decide) rfl).mono ?_
  rintro e w9 ⟨rfl, B9⟩
  replace B1 := B_trans B1 B9
  go_wp2_with fail
  refine (valid_at 1 3 _ 3 false rfl (by decide) rfl).mono ?_
  rintro e w10 ⟨rfl, B10⟩
  replace B1 := B_trans B1 B10
  go_wp2_with fail
  go_ret
  exact ⟨rfl, B1⟩
end Go.Proofs.Ytkpkngecabciiaa
