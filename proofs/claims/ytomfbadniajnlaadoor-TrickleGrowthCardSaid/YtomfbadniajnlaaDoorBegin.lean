/-
  (*timer).begin: what it writes into the timer's block; and the reference's Interval. Condition: the table of steps reads as its initialiser lays it.
-/
import Derived.Test.YtomfbadniajnlaaDoorRValid
namespace Go.Proofs.YtomfbadniajnlaaDoor
open Go.RowKit

/-- Block b is a timer. -/
def Tm (W : World) (b : Nat) (t : TypeId) (I B F C S : Int) : Prop := W.heap[b]? = some (.cells #[.int .i64 I, .int .i64 B, .int .i64 F, .int .i64 C, .int .i64 S] t (0, 0))
theorem Tm.cells {W : World} {b : Nat} {t : TypeId} {I B F C S : Int} (h : Tm W b t I B F C S) :
    W.cell? ⟨b, 0, none⟩ = some (.int .i64 I) ∧ W.cell? ⟨b, 1, none⟩ = some (.int .i64 B) ∧ W.cell? ⟨b, 2, none⟩ = some (.int .i64 F) ∧ W.cell? ⟨b, 3, none⟩ = some (.int .i64 C) ∧ W.cell? ⟨b, 4, none⟩ = some (.int .i64 S) := by
  unfold Tm at h; simp [World.cell?, h]
theorem Tm.frozen {W : World} {b : Nat} {t : TypeId} {I B F C S : Int} (h : Tm W b t I B F C S) (i : Nat) : W.frozen? ⟨b, i, none⟩ = false := by
  unfold Tm at h; simp [World.frozen?, h]
theorem Tm.lt {W : World} {b : Nat} {t : TypeId} {I B F C S : Int} (h : Tm W b t I B F C S) : b < W.heap.size := (Array.getElem?_eq_some_iff.1 h).1
theorem Tm.below {W W' : World} {b : Nat} {t : TypeId} {I B F C S : Int} (h : Tm W b t I B F C S) (hb : Below W.heap.size W W') : Tm W' b t I B F C S := (hb.block b h.lt).trans h
theorem Tm.upto {W W' : World} {b n : Nat} {t : TypeId} {I B F C S : Int} (h : Tm W b t I B F C S) (hb : Below n W W') (hn : b < n) : Tm W' b t I B F C S := (hb.block b hn).trans h
section
variable {W : World} {b : Nat} {t : TypeId} {I B F C S : Int} (h : Tm W b t I B F C S) (x : Int)
include h
theorem Tm.set0 : Tm (W.setCell ⟨b, 0, none⟩ (.int .i64 x)) b t x B F C S := by have := Joins.block_setCell (w := W) (i := 0) h (.int .i64 x); simpa [Tm] using this
theorem Tm.set1 : Tm (W.setCell ⟨b, 1, none⟩ (.int .i64 x)) b t I x F C S := by have := Joins.block_setCell (w := W) (i := 1) h (.int .i64 x); simpa [Tm] using this
theorem Tm.set2 : Tm (W.setCell ⟨b, 2, none⟩ (.int .i64 x)) b t I B x C S := by have := Joins.block_setCell (w := W) (i := 2) h (.int .i64 x); simpa [Tm] using this
theorem Tm.set3 : Tm (W.setCell ⟨b, 3, none⟩ (.int .i64 x)) b t I B F x S := by have := Joins.block_setCell (w := W) (i := 3) h (.int .i64 x); simpa [Tm] using this
end

theorem below_at (s : Nat) (n : Int) (w : World) (si r : Int) (h1 : si = (s : Int)) (hs : s < 2 ^ 64) (h2 : Pl.below s n = r) (hL : Laid w) :
    Calls Tryd.prog 29 #[.int .u64 si, .int .i64 n] w fun e w' => e = .returned (.int .i64 r) ∧ Below w.heap.size w w' := by
  rw [h1, ← h2]; exact below_any s n w hs hL
theorem rbelow_at (s : Nat) (n : Int) (w : World) (si r : Int) (h1 : si = (s : Int)) (h2 : Pl.below s n = r) :
    Calls Tryd.prog 30 #[.int .u64 si, .int .i64 n] w fun e w' => e = .returned (.int .i64 r) ∧ w = w' := by
  rw [h1, ← h2]; exact rbelow_any s n w

set_option maxHeartbeats 1000000 in
theorem begin_any (b : Nat) (len f I B F C S : Int) (w : World) (hT : Tm w b 42 I B F C S) (hb : 0 < b) (hl : len = 1 ∨ len = 2 ∨ len = 4 ∨ len = 8) (hf : 0 ≤ f ∧ f ≤ 999999984) (hS : 0 ≤ S ∧ S ≤ 1000000000) (hL : Laid w) :
    Calls Tryd.prog 25 #[.pointer (some ⟨b, 0, none⟩), .int .i64 len, .int .i64 f] w fun e w' => e = .returned (.tuple #[]) ∧ Tm w' b 42 len f (Pl.fire S len f) 0 S ∧ Below b w w' := by
  obtain ⟨c0, c1, c2, c3, c4⟩ := hT.cells
  have f0 := hT.frozen 0
  have f1 := hT.frozen 1
  have f2 := hT.frozen 2
  have f3 := hT.frozen 3
  have f4 := hT.frozen 4
  have hbl := hT.lt
  obtain ⟨hf1, hf2⟩ := hf
  obtain ⟨hS1, hS2⟩ := hS
  have l1 : 1 ≤ len := by omega
  have l2 : len ≤ 8 := by omega
  have hbd := Pl.below_bd (1000003 * S + f).toNat (len - len / 2) (by omega) (by omega)
  obtain ⟨r, hr⟩ : ∃ r, Pl.below (1000003 * S + f).toNat (len - len / 2) = r := ⟨_, rfl⟩
  have hfire : Pl.fire S len f = f + len / 2 + r := by unfold Pl.fire; rw [hr]
  rw [hr] at hbd
  obtain ⟨r1, r2⟩ := hbd
  rw [hfire]
  have HR := Lib.hid hr
  clear hl hfire hr
  have B0 := Below.refl b w
  go_enter Tryd.func25, Tryd.ntmps25
  go_wp2_with fail
  have T3 := ((hT.set0 len).set1 f).set3 0
  have B3 := ((B0.setCell (p := ⟨b, 0, none⟩) (Nat.le_refl _) (.int .i64 len)).setCell (p := ⟨b, 1, none⟩) (Nat.le_refl _) (.int .i64 f)).setCell (p := ⟨b, 3, none⟩) (Nat.le_refl _) (.int .i64 0)
  refine (below_at (1000003 * S + f).toNat _ _ _ r (by omega) (by omega) HR.out (hL.upto B3 hb)).mono ?_
  rintro e w1 ⟨rfl, Bw⟩
  have T4 := T3.below Bw
  have B4 := B3.trans (Bw.mono (B' := b) (by have := T3.lt; omega))
  clear B3 T3 Bw c0 c1 c2 c3 c4 f0 f1 f2 f3 f4 hT B0 hL
  have d2 := T4.cells.2.2.1
  have e2 := T4.frozen 2
  go_wp2_with fail
  go_end0
  exact ⟨rfl, T4.set2 _, B4.setCell (Nat.le_refl _) _⟩

set_option maxHeartbeats 1000000 in
theorem interval_any (S len f : Int) (w : World) (hl : len = 1 ∨ len = 2 ∨ len = 4 ∨ len = 8) (hf : 0 ≤ f ∧ f ≤ 999999984) (hS : 0 ≤ S ∧ S ≤ 1000000000) :
    Calls Tryd.prog 27 #[.int .i64 S, .int .i64 len, .int .i64 f] w fun e w' => e = .returned (.agg #[.int .i64 len, .int .i64 f, .int .i64 (Pl.fire S len f), .int .i64 0, .int .i64 S]) ∧ Below w.heap.size w w' := by
  obtain ⟨hf1, hf2⟩ := hf
  obtain ⟨hS1, hS2⟩ := hS
  have l1 : 1 ≤ len := by omega
  have l2 : len ≤ 8 := by omega
  have hbd := Pl.below_bd (1000003 * S + f).toNat (len - len / 2) (by omega) (by omega)
  obtain ⟨r, hr⟩ : ∃ r, Pl.below (1000003 * S + f).toNat (len - len / 2) = r := ⟨_, rfl⟩
  have hfire : Pl.fire S len f = f + len / 2 + r := by unfold Pl.fire; rw [hr]
  rw [hr] at hbd
  obtain ⟨r1, r2⟩ := hbd
  rw [hfire]
  have HR := Lib.hid hr
  clear hl hfire hr
  go_enter Tryd.func27, Tryd.ntmps27
  go_wp2_with (go_at_call 30; refine (rbelow_at (1000003 * S + f).toNat _ _ _ r (by omega) HR.out).mono ?_; rintro e w1 ⟨rfl, rfl⟩)
  exact bodyPost_ret (v := .agg #[.int .i64 len, .int .i64 f, .int .i64 (f + len / 2 + r), .int .i64 0, .int .i64 S]) (by simp [results, Tryd.results27, go_sem]) rfl ⟨rfl, B_alloc (Below.refl _ _) _⟩
end Go.Proofs.YtomfbadniajnlaaDoor
