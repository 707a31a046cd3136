/-
  Packages seal and keyring: the key of a slot, the root's ring, what is sealed and what opens. Conditions: slots from 0 to 1000000000.
-/
import Derived.Test.YtffdcnjddoakbaaRWalks
import Derived.BigQuiet
import Derived.Deep.RegionHeld3
import Derived.Lib.Hide
import Derived.Lib.SmallJoins
import Derived.Handy
import Derived.RegionTactic
import Derived.BigRegion
namespace Go.Proofs.Ytffdcnjddoakbaa
open Go.RowKit

theorem B_alloc {w w1 : World} (h : Below w.heap.size w w1) (o : Obj) : Below w.heap.size w (w1.alloc o) := h.alloc h.size o
theorem B_trans {w w1 w2 : World} (h : Below w.heap.size w w1) (k : Below w1.heap.size w1 w2) : Below w.heap.size w w2 := h.trans (k.mono h.size)
theorem B_drewN {w w1 : World} (h : Below w.heap.size w w1) (n : Nat) : Below w.heap.size w (w1.drewN n) := h.trans (Joins.below_draws _ _ _)
theorem cell_lt {w : World} {p : Addr} {v : Value} (hc : w.cell? p = some v) : p.block < w.heap.size := by
  unfold World.cell? at hc
  cases ho : w.heap[p.block]? with
  | none => simp [ho] at hc
  | some o => exact (Array.getElem?_eq_some_iff.1 ho).1
theorem cell_up {w w1 : World} {B : Nat} {p : Addr} {v : Value} (hb : Below B w w1) (hc : w.cell? p = some v) (hp : p.block < B) : w1.cell? p = some v := (hb.cell hp).trans hc
theorem cell_below {w w1 : World} {p : Addr} {v : Value} (hb : Below w.heap.size w w1) (hc : w.cell? p = some v) : w1.cell? p = some v := cell_up hb hc (cell_lt hc)
theorem froz_below {w w1 : World} {p : Addr} (hb : Below w.heap.size w w1) (hp : p.block < w.heap.size) (hc : w.frozen? p = false) : w1.frozen? p = false := (hb.frozen hp).trans hc

/-- A frame without a body. -/
structure Fr where
  K : Int
  F : Int
  T : Int
  A : Int
  Y : Int
def Fr.v (x : Fr) : Value := .agg #[.int .i64 x.K, .int .i64 x.F, .int .i64 x.T, .int .i64 x.A, .int .i64 x.Y, .slice none 0 0]
/-- Block b is a frame. -/
def Fb (W : World) (b : Nat) (x : Fr) : Prop := W.heap[b]? = some (.cells #[.int .i64 x.K, .int .i64 x.F, .int .i64 x.T, .int .i64 x.A, .int .i64 x.Y, .slice none 0 0] 31 (0, 0))
/-- Block b is a ring. -/
def Rb (W : World) (b : Nat) (e f : Int) : Prop := W.heap[b]? = some (.cells #[.int .i64 e, .int .i64 f] 36 (0, 0))
section
variable {W W' : World} {b n : Nat} {x : Fr} {e f : Int}
theorem Fb.cells (h : Fb W b x) : W.cell? ⟨b, 0, none⟩ = some (.int .i64 x.K) ∧ W.cell? ⟨b, 1, none⟩ = some (.int .i64 x.F) ∧ W.cell? ⟨b, 2, none⟩ = some (.int .i64 x.T) ∧ W.cell? ⟨b, 3, none⟩ = some (.int .i64 x.A) ∧ W.cell? ⟨b, 4, none⟩ = some (.int .i64 x.Y) ∧ W.cell? ⟨b, 5, none⟩ = some (.slice none 0 0) := by
  unfold Fb at h; simp [World.cell?, h]
theorem Fb.frozen (h : Fb W b x) (i : Nat) : W.frozen? ⟨b, i, none⟩ = false := by unfold Fb at h; simp [World.frozen?, h]
theorem Fb.lt (h : Fb W b x) : b < W.heap.size := (Array.getElem?_eq_some_iff.1 h).1
theorem Fb.below (h : Fb W b x) (hb : Below W.heap.size W W') : Fb W' b x := (hb.block b h.lt).trans h
theorem Fb.upto (h : Fb W b x) (hb : Below n W W') (hn : b < n) : Fb W' b x := (hb.block b hn).trans h
theorem Fb.set4 (h : Fb W b x) (y : Int) : Fb (W.setCell ⟨b, 4, none⟩ (.int .i64 y)) b ⟨x.K, x.F, x.T, x.A, y⟩ := by have := Joins.block_setCell (w := W) (i := 4) h (.int .i64 y); simpa [Fb] using this
theorem Rb.cells (h : Rb W b e f) : W.cell? ⟨b, 0, none⟩ = some (.int .i64 e) ∧ W.cell? ⟨b, 1, none⟩ = some (.int .i64 f) := by
  unfold Rb at h; simp [World.cell?, h]
theorem Rb.frozen (h : Rb W b e f) (i : Nat) : W.frozen? ⟨b, i, none⟩ = false := by unfold Rb at h; simp [World.frozen?, h]
theorem Rb.lt (h : Rb W b e f) : b < W.heap.size := (Array.getElem?_eq_some_iff.1 h).1
theorem Rb.below (h : Rb W b e f) (hb : Below W.heap.size W W') : Rb W' b e f := (hb.block b h.lt).trans h
end
theorem Fb.new (w : World) (x : Fr) : Fb (w.alloc (.cells #[.int .i64 x.K, .int .i64 x.F, .int .i64 x.T, .int .i64 x.A, .int .i64 x.Y, .slice none 0 0] 31)) w.heap.size x := heap_alloc_new w _
theorem Rb.new (w : World) (e f : Int) : Rb (w.alloc (.cells #[.int .i64 e, .int .i64 f] 36)) w.heap.size e f := heap_alloc_new w _

theorem cell_new (w : World) (xs : Array Value) (t : TypeId) (i : Nat) (v : Value) (h : xs[i]? = some v) : (w.alloc (.cells xs t)).cell? ⟨w.heap.size, i, none⟩ = some v := (World.cell?_alloc_mark w xs t (0, 0) i).trans h

theorem of_any (n : Int) (w : World) (h0 : 0 ≤ n) (h1 : n ≤ 1000000000) :
    Calls Try.prog 9 #[.int .i64 n] w fun e w' => e = .returned (.int .i64 (n / 2000)) ∧ w = w' := by
  go_enter Try.func9, Try.ntmps9
  go_wp2_with fail
  go_ret
  exact ⟨rfl, rfl⟩
theorem num_any (n : Int) (w : World) (h0 : 0 ≤ n) (h1 : n ≤ 1000000000) :
    Calls Try.prog 21 #[.int .i64 n] w fun e w' => e = .returned (.int .i64 (n + 1)) ∧ w = w' := by
  go_enter Try.func21, Try.ntmps21
  go_wp2_with fail
  go_ret
  exact ⟨rfl, rfl⟩
theorem slot_any (n : Int) (w : World) (h0 : 0 ≤ n) (h1 : n ≤ 1000000000) :
    Calls Try.prog 15 #[.int .i64 n] w fun e w' => e = .returned (.bool true) ∧ w = w' := by
  go_enter Try.func15, Try.ntmps15
  go_wp2_with fail
  go_ret
  exact ⟨ret_bool (by simp), rfl⟩
theorem key_any (n : Int) (w : World) (h0 : 0 ≤ n) (h1 : n ≤ 1000000000) :
    Calls Try.prog 8 #[.int .i64 n] w fun e w' => e = .returned (.tuple #[.int .i64 (n / 2000 + 1), .int .i64 0]) ∧ w = w' := by
  have hq0 : 0 ≤ n / 2000 := by omega
  have hq1 : n / 2000 ≤ 1000000000 := by omega
  go_enter Try.func8, Try.ntmps8
  go_wp2
  go_ret2
  exact ⟨rfl, rfl⟩
theorem knows_any (e f n : Int) (w : World) (h0 : e ≤ n) (h1 : n < f) :
    Calls Try.prog 10 #[.int .i64 n, .agg #[.int .i64 e, .int .i64 f]] w fun e' w' => e' = .returned (.bool true) ∧ Below w.heap.size w w' := by
  go_enter Try.func10, Try.ntmps10
  go_wp2_with fail
  go_ret
  exact ⟨ret_bool (by simp), by go_grown⟩
theorem unless_any (b : Bool) (n : Int) (w : World) :
    Calls Try.prog 19 #[.bool b, .int .i64 n] w fun e' w' => e' = .returned (.int .i64 (if b then 0 else n)) ∧ w = w' := by
  cases b
  all_goals
    go_enter Try.func19, Try.ntmps19
    go_wp2_with fail
    go_ret
    exact ⟨rfl, rfl⟩
theorem within_any (g : Nat) (n : Int) (w : World) (h0 : 0 ≤ n) (h1 : n ≤ 1000000000) (c0 : w.cell? ⟨g, 0, none⟩ = some (.int .i64 0)) (c1 : w.cell? ⟨g, 1, none⟩ = some (.int .i64 n)) (c2 : w.cell? ⟨g, 2, none⟩ = some (.int .i64 1000000000)) :
    Calls Try.prog 16 #[.slice (some ⟨g, 0, none⟩) 3 3] w fun e' w' => e' = .returned (.bool true) ∧ Below w.heap.size w w' := by
  go_enter Try.func16, Try.ntmps16
  go_wp2_with fail
  refine wp_loop_rounds 3 ?_
  rw [rounds_succ]
  go_wp2_with fail
  go_quiet (fail)
  go_wp2_with fail
  rw [rounds_succ]
  go_wp2_with fail
  go_quiet (fail)
  go_wp2_with fail
  rw [rounds_succ]
  go_wp2_with fail
  go_ret
  exact ⟨ret_bool (by simp), B_drewN (Below.refl _ _) _⟩
theorem epoch_any (n : Int) (w : World) (h0 : 0 ≤ n) (h1 : n ≤ 1000000000) :
    Calls Try.prog 11 #[.int .i64 n] w fun e' w' => e' = .returned (.tuple #[.int .i64 (n / 2000), .int .i64 0]) ∧ Below w.heap.size w w' := by
  go_enter Try.func11, Try.ntmps11
  go_wp2_with fail
  refine (within_any _ n _ h0 h1 (cell_new _ _ _ _ _ rfl) (cell_new _ _ _ _ _ rfl) (cell_new _ _ _ _ _ rfl)).mono ?_
  rintro e w1 ⟨rfl, hb⟩
  have B := B_trans (B_alloc (Below.refl w.heap.size w) _) hb
  go_wp2_with fail
  go_ret2
  exact ⟨rfl, B⟩
theorem root_any (n : Int) (w : World) (h0 : 0 ≤ n) (h1 : n ≤ 1000000000) :
    Calls Try.prog 6 #[.int .i64 n] w fun e' w' => e' = .returned (.agg #[.int .i64 (n / 2000), .int .i64 (n / 2000 + 2)]) ∧ Below w.heap.size w w' := by
  have hq0 : 0 ≤ n / 2000 := by omega
  have hq1 : n / 2000 ≤ 1000000000 := by omega
  have T := Rb.new w 0 0
  have B0 := B_alloc (Below.refl w.heap.size w) (.cells #[.int .i64 0, .int .i64 0] 36)
  go_enter Try.func6, Try.ntmps6
  go_wp2_with fail
  refine (epoch_any n _ h0 h1).mono ?_
  rintro e w1 ⟨rfl, hb⟩
  have B := B_trans B0 hb
  have T1 := T.below hb
  obtain ⟨c0, c1⟩ := T1.cells
  have f0 := T1.frozen 0
  have f1 := T1.frozen 1
  have hlt := T1.lt
  clear T T1 B0 hb
  go_wp2_with fail
  refine bodyPost_ret (v := .agg #[.int .i64 (n / 2000), .int .i64 (n / 2000 + 2)]) (by simp [results, Try.results6, go_sem, c0, c1]) rfl ⟨rfl, ?_⟩
  go_grown
set_option maxHeartbeats 4000000 in
theorem seal_any (x : Fr) (w : World) (h0 : 0 ≤ x.A) (h1 : x.A ≤ 1000000000) :
    Calls Try.prog 5 #[x.v, .agg #[.int .i64 (x.A / 2000), .int .i64 (x.A / 2000 + 2)]] w fun e' w' => e' = .returned (.tuple #[(Fr.mk x.K x.F x.T x.A (x.A / 2000 + 1)).v, .int .i64 0]) ∧ Below w.heap.size w w' := by
  obtain ⟨K, F, T, A, Y⟩ := x
  simp only at h0 h1 ⊢
  have hq0 : 0 ≤ A / 2000 := by omega
  have hq1 : A / 2000 ≤ 1000000000 := by omega
  unfold Fr.v
  simp only
  go_enter Try.func5, Try.ntmps5
  go_wp2_with (first | (go_at_call 8; refine (key_any A _ h0 h1).mono ?_; rintro e w' ⟨rfl, rfl⟩))
  have k0 := Fb.new w ⟨K, F, T, A, Y⟩
  have k1 := Rb.new (w.alloc (.cells #[.int .i64 K, .int .i64 F, .int .i64 T, .int .i64 A, .int .i64 Y, .slice none 0 0] 31)) (A / 2000) (A / 2000 + 2)
  have k2 := Fb.new ((w.alloc (.cells #[.int .i64 K, .int .i64 F, .int .i64 T, .int .i64 A, .int .i64 Y, .slice none 0 0] 31)).alloc (.cells #[.int .i64 (A / 2000), .int .i64 (A / 2000 + 2)] 36)) ⟨0, 0, 0, 0, 0⟩
  rw [World.size_alloc] at k1 k2
  rw [World.size_alloc] at k2
  replace k1 := k1.below (B_alloc (Below.refl _ _) (.cells #[.int .i64 0, .int .i64 0, .int .i64 0, .int .i64 0, .int .i64 0, .slice none 0 0] 31))
  replace k0 := (k0.below (B_alloc (Below.refl _ _) (.cells #[.int .i64 (A / 2000), .int .i64 (A / 2000 + 2)] 36))).below (B_alloc (Below.refl _ _) (.cells #[.int .i64 0, .int .i64 0, .int .i64 0, .int .i64 0, .int .i64 0, .slice none 0 0] 31))
  have B : Below w.heap.size w _ := B_alloc (B_alloc (B_alloc (Below.refl w.heap.size w) (.cells #[.int .i64 K, .int .i64 F, .int .i64 T, .int .i64 A, .int .i64 Y, .slice none 0 0] 31)) (.cells #[.int .i64 (A / 2000), .int .i64 (A / 2000 + 2)] 36)) (.cells #[.int .i64 0, .int .i64 0, .int .i64 0, .int .i64 0, .int .i64 0, .slice none 0 0] 31)
  obtain ⟨W, hW⟩ : ∃ W, W = ((w.alloc (.cells #[.int .i64 K, .int .i64 F, .int .i64 T, .int .i64 A, .int .i64 Y, .slice none 0 0] 31)).alloc (.cells #[.int .i64 (A / 2000), .int .i64 (A / 2000 + 2)] 36)).alloc (.cells #[.int .i64 0, .int .i64 0, .int .i64 0, .int .i64 0, .int .i64 0, .slice none 0 0] 31) := ⟨_, rfl⟩
  rw [← hW] at k0 k1 k2 B ⊢
  clear hW
  have hw0 : w.heap.size < W.heap.size := k0.lt
  have hw1 : w.heap.size + 1 < W.heap.size := k1.lt
  have hw2 : w.heap.size + 1 + 1 < W.heap.size := k2.lt
  have HK0 := Lib.hid k0
  have HK2 := Lib.hid k2
  have HB := Lib.hid B
  obtain ⟨-, -, -, c3, -, -⟩ := k0.cells
  obtain ⟨d0, d1⟩ := k1.cells
  have HS := Lib.hid (fun W' (hb : Below W.heap.size W W') => And.intro (cell_below hb c3) (And.intro (cell_below hb d0) (And.intro (cell_below hb d1) hb)))
  have HT := Lib.hid (fun W1 W2 (h : W1.cell? ⟨w.heap.size, 3, none⟩ = some (.int .i64 A) ∧ W1.cell? ⟨w.heap.size + 1, 0, none⟩ = some (.int .i64 (A / 2000)) ∧ W1.cell? ⟨w.heap.size + 1, 1, none⟩ = some (.int .i64 (A / 2000 + 2)) ∧ Below W.heap.size W W1) (hb : Below W1.heap.size W1 W2) => HS.out W2 (B_trans h.2.2.2 hb))
  have hS1 := HS.out W.drew (Below.refl _ _).drew
  clear k0 k1 k2 c3 d0 d1 B
  go_region_held3 (fun W' => W'.cell? ⟨w.heap.size, 3, none⟩ = some (.int .i64 A) ∧ W'.cell? ⟨w.heap.size + 1, 0, none⟩ = some (.int .i64 (A / 2000)) ∧ W'.cell? ⟨w.heap.size + 1, 1, none⟩ = some (.int .i64 (A / 2000 + 2)) ∧ Below W.heap.size W W')
    (first | assumption | exact hS1 | (refine HT.out _ _ ?_ hb'; assumption))
    (first
      | (go_at_call 9; refine (of_any A _ h0 h1).mono ?_; rintro e w' ⟨rfl, rfl⟩)
      | (go_at_call 10; refine (knows_any (A / 2000) (A / 2000 + 2) (A / 2000) _ (by omega) (by omega)).mono ?_; rintro e w' ⟨rfl, hb'⟩))
  all_goals
    have hEnd := (by assumption : _ ∧ _ ∧ _ ∧ Below W.heap.size W _)
    have hb := hEnd.2.2.2
    have m0 := HK0.out.below hb
    have m2 := HK2.out.below hb
    have B := B_trans HB.out hb
    clear hS1 hEnd
    obtain ⟨a0, a1, a2, a3, a4, a5⟩ := m0.cells
    obtain ⟨b0, b1, b2, b3, b4, b5⟩ := m2.cells
    have g4 := m0.frozen 4
    have l0 := m0.lt
    have l2 := m2.lt
    have q0 := m2.frozen 0
    have q1 := m2.frozen 1
    have q2 := m2.frozen 2
    have q3 := m2.frozen 3
    have q4 := m2.frozen 4
    have q5 := m2.frozen 5
    clear m0 m2 hb
    go_wp2_with fail
    refine bodyPost_ret (v := .tuple #[.agg #[.int .i64 K, .int .i64 F, .int .i64 T, .int .i64 A, .int .i64 (A / 2000 + 1), .slice none 0 0], .int .i64 0]) (by simp [results, Try.results5, go_sem, b0, b1, b2, b3, b4, b5]) rfl ⟨rfl, ?_⟩
    go_grown
end Go.Proofs.Ytffdcnjddoakbaa
