/-
  The laws' fixed examples (head) are true: the walk of slotmeshlaw06.head. Condition: the table of steps reads as its initialiser lays it.
-/
import Derived.Test.YtodmklkjdogafaaDoorRefs
namespace Go.Proofs.YtodmklkjdogafaaDoor
open Go.RowKit

theorem next_at (s : Nat) (w : World) (si r : Int) (h1 : si = (s : Int)) (h2 : ((Pl.next s : Nat) : Int) = r) (hL : Laid w) :
    Calls Tryd.prog 10 #[.int .u64 si] w fun e w' => e = .returned (.int .u64 r) ∧ Below w.heap.size w w' := by
  rw [h1, ← h2]; exact next_any s w hL
theorem below_at (s : Nat) (n : Int) (w : World) (si r : Int) (h1 : si = (s : Int)) (hs : s < 2 ^ 64) (h2 : Pl.below s n = r) (hL : Laid w) :
    Calls Tryd.prog 12 #[.int .u64 si, .int .i64 n] w fun e w' => e = .returned (.int .i64 r) ∧ Below w.heap.size w w' := by
  rw [h1, ← h2]; exact below_any s n w hs hL
theorem mask_at (s : Nat) (n : Int) (w : World) (si r : Int) (h1 : si = (s : Int)) (hs : s < 2 ^ 64) (h2 : Pl.mask s n = r) (hL : Laid w) :
    Calls Tryd.prog 17 #[.int .u64 si, .int .i64 n] w fun e w' => e = .returned (.int .i64 r) ∧ Below w.heap.size w w' := by
  rw [h1, ← h2]; exact mask_any s n w hs hL
theorem perm_at (s N : Nat) (w : World) (si ni : Int) (L : List Int) (h1 : si = (s : Int)) (hn : ni = (N : Int)) (hs : s < 2 ^ 64) (h2 : Pl.perm s N = L) (hL : Laid w) (hN1 : 1 ≤ N) (hN2 : N ≤ 1000) :
    Calls Tryd.prog 15 #[.int .u64 si, .int .i64 ni] w fun e w' => e = .returned (.slice (some ⟨w.heap.size, 0, none⟩) N N) ∧ Lst w' w.heap.size L ∧ Below w.heap.size w w' := by
  rw [h1, hn, ← h2]; exact perm_any s N w hs hL hN1 hN2
theorem none_at (s : Nat) (n : Int) (w : World) (si : Int) (h1 : si = (s : Int)) (hn : n < 1 ∨ 1000 < n) :
    Calls Tryd.prog 15 #[.int .u64 si, .int .i64 n] w fun e w' => e = .returned (.slice none 0 0) ∧ Below w.heap.size w w' := by
  rw [h1]; exact perm_none s n w hn

set_option maxHeartbeats 2000000 in
theorem head_any (w : World) (hL : Laid w) : Calls Tryd.prog 9 #[] w fun e w' => e = .returned (.bool true) ∧ Below w.heap.size w w' := by
  go_enter Tryd.func9, Tryd.ntmps9
  have B : Below w.heap.size w w := Below.refl _ _
  go_wp2_with fail
  refine (next_at 0 _ 0 16294208416658607535 rfl (by decide +kernel) (hL.below B)).mono ?_
  rintro e w1 ⟨rfl, B1⟩
  replace B := B_trans B B1
  go_wp2_with fail
  refine (next_at 1 _ 1 10451216379200822465 rfl (by decide +kernel) (hL.below B)).mono ?_
  rintro e w2 ⟨rfl, B2⟩
  replace B := B_trans B B2
  go_wp2_with fail
  refine (below_at 0 10 _ 0 3 rfl (by decide) (by decide +kernel) (hL.below B)).mono ?_
  rintro e w3 ⟨rfl, B3⟩
  replace B := B_trans B B3
  go_wp2_with fail
  refine (below_at 1 10 _ 1 6 rfl (by decide) (by decide +kernel) (hL.below B)).mono ?_
  rintro e w4 ⟨rfl, B4⟩
  replace B := B_trans B B4
  go_wp2_with fail
  refine (mask_at 0 3 _ 0 5 rfl (by decide) (by decide +kernel) (hL.below B)).mono ?_
  rintro e w5 ⟨rfl, B5⟩
  replace B := B_trans B B5
  go_wp2_with fail
  refine (mask_at 1 3 _ 1 1 rfl (by decide) (by decide +kernel) (hL.below B)).mono ?_
  rintro e w6 ⟨rfl, B6⟩
  replace B := B_trans B B6
  go_wp2_with fail
  refine (perm_at 0 2 _ 0 2 [0, 1] rfl rfl (by decide) (by decide +kernel) (hL.below B) (by decide) (by decide)).mono ?_
  rintro e w7 ⟨rfl, hl, B7⟩
  replace B := B_trans B B7
  go_wp2_with fail
  have hx := hl.below (Below.refl w7.heap.size w7 |>.alloc (Nat.le_refl _) (.cells #[.int .i64 0, .int .i64 1] 3))
  have hy : Lst (w7.alloc (.cells #[.int .i64 0, .int .i64 1] 3)) w7.heap.size [0, 1] := World.alloc_heap_new w7 _
  replace B := B_alloc B (.cells #[.int .i64 0, .int .i64 1] 3)
  refine (same_any _ 2 _ 2 2 [0, 1] _ (by decide) (fun i hi => hx.cell hi) (fun i hi => hy.cell hi)).mono ?_
  rintro e w8 ⟨rfl, B8⟩
  replace B := B_trans B B8
  clear hl hx hy
  go_wp2_with fail
  refine (perm_at 1 2 _ 1 2 [1, 0] rfl rfl (by decide) (by decide +kernel) (hL.below B) (by decide) (by decide)).mono ?_
  rintro e w9 ⟨rfl, hl, B9⟩
  replace B := B_trans B B9
  go_wp2_with fail
  have hx := hl.below (Below.refl w9.heap.size w9 |>.alloc (Nat.le_refl _) (.cells #[.int .i64 1, .int .i64 0] 3))
  have hy : Lst (w9.alloc (.cells #[.int .i64 1, .int .i64 0] 3)) w9.heap.size [1, 0] := World.alloc_heap_new w9 _
  replace B := B_alloc B (.cells #[.int .i64 1, .int .i64 0] 3)
  refine (same_any _ 2 _ 2 2 [1, 0] _ (by decide) (fun i hi => hx.cell hi) (fun i hi => hy.cell hi)).mono ?_
  rintro e w10 ⟨rfl, B10⟩
  replace B := B_trans B B10
  clear hl hx hy
  go_wp2_with fail
  refine (below_at 0 0 _ 0 0 rfl (by decide) (by decide +kernel) (hL.below B)).mono ?_
  rintro e w11 ⟨rfl, B11⟩
  replace B := B_trans B B11
  go_wp2_with fail
  refine (none_at 0 1001 _ 0 rfl (by decide)).mono ?_
  rintro e w12 ⟨rfl, B12⟩
  replace B := B_trans B B12
  go_wp2_with fail
  refine (mask_at 0 17 _ 0 0 rfl (by decide) (by decide +kernel) (hL.below B)).mono ?_
  rintro e w13 ⟨rfl, B13⟩
  replace B := B_trans B B13
  go_wp2_with fail
  go_ret
  exact ⟨rfl, B⟩
end Go.Proofs.YtodmklkjdogafaaDoor
