/-
  seal.Open: a frame opens in its own slot alone. Conditions: slots from 0 to 1000000000, the ring of the slot.
-/
import Derived.Test.YtffdcnjddoakbaaSeal
import Derived.Laws.EntriesVeiled
namespace Go.Proofs.Ytffdcnjddoakbaa
open Go.RowKit

theorem open1_any (g : Nat) (n : Int) (w : World) (h0 : 0 ≤ n) (h1 : n ≤ 1000000000) (c : w.cell? ⟨g, 0, none⟩ = some (.int .i64 n)) :
    Calls Try.prog 17 #[.pointer (some ⟨g, 0, none⟩)] w fun e w' => e = .returned (.int .i64 0) ∧ w = w' := by
  go_enter Try.func17, Try.ntmps17
  go_wp2_with (first | (go_at_call 8; refine (key_any n _ h0 h1).mono ?_; rintro e w' ⟨rfl, rfl⟩))
  go_ret
  exact ⟨rfl, rfl⟩
theorem open2_any (f g : Nat) (n m : Int) (b : Bool) (w : World) (c : w.cell? ⟨f, 3, none⟩ = some (.int .i64 m)) (d : w.cell? ⟨g, 0, none⟩ = some (.int .i64 n)) (hb : (m == n) = b) :
    Calls Try.prog 18 #[.pointer (some ⟨f, 0, none⟩), .pointer (some ⟨g, 0, none⟩)] w fun e w' => e = .returned (.int .i64 (if b then 0 else 14)) ∧ w = w' := by
  cases b
  · go_enter Try.func18, Try.ntmps18
    go_wp2_with (first | (go_at_call 19; refine (unless_any false 14 _).mono ?_; rintro e w' ⟨rfl, rfl⟩))
    go_ret
    exact ⟨rfl, rfl⟩
  · go_enter Try.func18, Try.ntmps18
    go_wp2_with (first | (go_at_call 19; refine (unless_any true 14 _).mono ?_; rintro e w' ⟨rfl, rfl⟩))
    go_ret
    exact ⟨rfl, rfl⟩
set_option maxHeartbeats 4000000 in
theorem open3_any (f g r : Nat) (n : Int) (w : World) (h0 : 0 ≤ n) (h1 : n ≤ 1000000000) (c : w.cell? ⟨f, 4, none⟩ = some (.int .i64 (n / 2000 + 1))) (d : w.cell? ⟨g, 0, none⟩ = some (.int .i64 n))
    (e0 : w.cell? ⟨r, 0, none⟩ = some (.int .i64 (n / 2000))) (e1 : w.cell? ⟨r, 1, none⟩ = some (.int .i64 (n / 2000 + 2))) :
    Calls Try.prog 20 #[.pointer (some ⟨f, 0, none⟩), .pointer (some ⟨g, 0, none⟩), .pointer (some ⟨r, 0, none⟩)] w fun e w' => e = .returned (.int .i64 0) ∧ Below w.heap.size w w' := by
  have HS := Lib.hid (fun W' (hb : Below w.heap.size w W') => And.intro (cell_below hb c) (And.intro (cell_below hb d) (And.intro (cell_below hb e0) (And.intro (cell_below hb e1) hb))))
  have HT := Lib.hid (fun W1 W2 (h : W1.cell? ⟨f, 4, none⟩ = some (.int .i64 (n / 2000 + 1)) ∧ W1.cell? ⟨g, 0, none⟩ = some (.int .i64 n) ∧ W1.cell? ⟨r, 0, none⟩ = some (.int .i64 (n / 2000)) ∧ W1.cell? ⟨r, 1, none⟩ = some (.int .i64 (n / 2000 + 2)) ∧ Below w.heap.size w W1) (hb : Below W1.heap.size W1 W2) => HS.out W2 (B_trans h.2.2.2.2 hb))
  have hS1 := HS.out w.drew (Below.refl _ _).drew
  clear c d e0 e1
  go_enter Try.func20, Try.ntmps20
  go_wp2_with fail
  go_region_held3 (fun W1 => W1.cell? ⟨f, 4, none⟩ = some (.int .i64 (n / 2000 + 1)) ∧ W1.cell? ⟨g, 0, none⟩ = some (.int .i64 n) ∧ W1.cell? ⟨r, 0, none⟩ = some (.int .i64 (n / 2000)) ∧ W1.cell? ⟨r, 1, none⟩ = some (.int .i64 (n / 2000 + 2)) ∧ Below w.heap.size w W1)
    (first | assumption | exact hS1 | (refine HT.out _ _ ?_ hb'; assumption))
    (first
      | (go_at_call 9; refine (of_any n _ h0 h1).mono ?_; rintro e w' ⟨rfl, rfl⟩)
      | (go_at_call 21; refine (num_any (n / 2000) _ (by omega) (by omega)).mono ?_; rintro e w' ⟨rfl, rfl⟩)
      | (go_at_call 19; refine (unless_any true 13 _).mono ?_; rintro e w' ⟨rfl, rfl⟩)
      | (go_at_call 10; refine (knows_any (n / 2000) (n / 2000 + 2) (n / 2000) _ (by omega) (by omega)).mono ?_; rintro e w' ⟨rfl, hb'⟩))
  all_goals
    have hEnd := (by assumption : _ ∧ _ ∧ _ ∧ _ ∧ Below w.heap.size w _)
    have hb := hEnd.2.2.2.2
    clear hS1 hEnd
    go_wp2_with fail
    go_ret
    exact ⟨rfl, hb⟩

/-- Block b is a number. -/
def Nb (W : World) (b : Nat) (n : Int) : Prop := W.heap[b]? = some (.cells #[.int .i64 n] 3 (0, 0))
section
variable {W W' : World} {b : Nat} {n : Int}
theorem Nb.cell (h : Nb W b n) : W.cell? ⟨b, 0, none⟩ = some (.int .i64 n) := by unfold Nb at h; simp [World.cell?, h]
theorem Nb.lt (h : Nb W b n) : b < W.heap.size := (Array.getElem?_eq_some_iff.1 h).1
theorem Nb.below (h : Nb W b n) (hb : Below W.heap.size W W') : Nb W' b n := (hb.block b h.lt).trans h
end
theorem Nb.new (w : World) (n : Int) : Nb (w.alloc (.cells #[.int .i64 n] 3)) w.heap.size n := heap_alloc_new w _

/-- The three blocks that Open lays first. -/
theorem three (w : World) (x : Fr) (e f n : Int) : ∃ W, W = ((w.alloc (.cells #[.int .i64 x.K, .int .i64 x.F, .int .i64 x.T, .int .i64 x.A, .int .i64 x.Y, .slice none 0 0] 31)).alloc (.cells #[.int .i64 e, .int .i64 f] 36)).alloc (.cells #[.int .i64 n] 3) ∧
    Fb W w.heap.size x ∧ Rb W (w.heap.size + 1) e f ∧ Nb W (w.heap.size + 1 + 1) n ∧ Below w.heap.size w W := by
  have k0 := Fb.new w x
  have k1 := Rb.new (w.alloc (.cells #[.int .i64 x.K, .int .i64 x.F, .int .i64 x.T, .int .i64 x.A, .int .i64 x.Y, .slice none 0 0] 31)) e f
  have k2 := Nb.new ((w.alloc (.cells #[.int .i64 x.K, .int .i64 x.F, .int .i64 x.T, .int .i64 x.A, .int .i64 x.Y, .slice none 0 0] 31)).alloc (.cells #[.int .i64 e, .int .i64 f] 36)) n
  rw [World.size_alloc] at k1 k2
  rw [World.size_alloc] at k2
  refine ⟨_, rfl, ?_, k1.below (B_alloc (Below.refl _ _) _), k2, B_alloc (B_alloc (B_alloc (Below.refl w.heap.size w) _) _) _⟩
  exact (k0.below (B_alloc (Below.refl _ _) _)).below (B_alloc (Below.refl _ _) _)

theorem fx0 (f1 f2 f3 : Fn) (c1 c2 c3 : Array Value) (w : World) : (Instr.index 58 (.agg #[.func f1 #[] c1, .func f2 #[] c2, .func f3 #[] c3]) (.int .i64 0)).run Try.prog w = .ok (.func f1 #[] c1) w := by kernel_rfl
theorem fx1 (f1 f2 f3 : Fn) (c1 c2 c3 : Array Value) (w : World) : (Instr.index 58 (.agg #[.func f1 #[] c1, .func f2 #[] c2, .func f3 #[] c3]) (.int .i64 1)).run Try.prog w = .ok (.func f2 #[] c2) w := by kernel_rfl
theorem fx2 (f1 f2 f3 : Fn) (c1 c2 c3 : Array Value) (w : World) : (Instr.index 58 (.agg #[.func f1 #[] c1, .func f2 #[] c2, .func f3 #[] c3]) (.int .i64 2)).run Try.prog w = .ok (.func f3 #[] c3) w := by kernel_rfl

set_option maxHeartbeats 4000000 in
theorem open_old (x : Fr) (n : Int) (w : World) (h0 : 0 ≤ n) (h1 : n ≤ 1000000000) (hx : x.A ≠ n) :
    Calls Try.prog 12 #[x.v, .agg #[.int .i64 (n / 2000), .int .i64 (n / 2000 + 2)], .int .i64 n] w fun e w' => e = .returned (.int .i64 14) ∧ Below w.heap.size w w' := by
  have hmf : ∀ (fn : Fn) (first cap : Array Value) (w : World), (Instr.makeFunc fn first cap).run Try.prog w = .ok (.func fn first cap) w := fun _ _ _ _ => rfl
  obtain ⟨W, hW, k0, k1, k2, B⟩ := three w x (n / 2000) (n / 2000 + 2) n
  obtain ⟨K, F, T, A, Y⟩ := x
  simp only at hx hW
  unfold Fr.v
  simp only
  go_enter Try.func12, Try.ntmps12
  go_wp2_with fail
  rw [← hW]
  clear hW
  have hlt := k2.lt
  obtain ⟨-, -, -, c3, -, -⟩ := k0.cells
  have d0 := k2.cell
  have HC3 := Lib.hid (fun W' (hb : Below W.heap.size W W') => And.intro (cell_below hb c3) (cell_below hb d0))
  have HB := Lib.hid B
  have hne : (A == n) = false := by simpa using hx
  have HNE := Lib.hid hne
  clear k0 k1 k2 c3 d0 B hne hx
  have ix0 := fx0
  have ix1 := fx1
  refine wp_loop_rounds 3 ?_
  rw [rounds_succ]
  go_wp2_with (first | (go_at_call 17; refine (open1_any (w.heap.size + 1 + 1) n _ h0 h1 (HC3.out _ (by go_grown)).2).mono ?_; rintro e w' ⟨rfl, rfl⟩))
  rw [rounds_succ]
  go_wp2_with (first | (go_at_call 18; refine (open2_any w.heap.size (w.heap.size + 1 + 1) n A false _ (HC3.out _ (by go_grown)).1 (HC3.out _ (by go_grown)).2 HNE.out).mono ?_; rintro e w' ⟨rfl, rfl⟩))
  go_ret
  refine ⟨rfl, B_trans HB.out ?_⟩
  go_grown

set_option maxHeartbeats 4000000 in
theorem open_ok (x : Fr) (w : World) (h0 : 0 ≤ x.A) (h1 : x.A ≤ 1000000000) (hx : x.Y = x.A / 2000 + 1) :
    Calls Try.prog 12 #[x.v, .agg #[.int .i64 (x.A / 2000), .int .i64 (x.A / 2000 + 2)], .int .i64 x.A] w fun e w' => e = .returned (.int .i64 0) ∧ Below w.heap.size w w' := by
  have hmf : ∀ (fn : Fn) (first cap : Array Value) (w : World), (Instr.makeFunc fn first cap).run Try.prog w = .ok (.func fn first cap) w := fun _ _ _ _ => rfl
  obtain ⟨K, F, T, A, Y⟩ := x
  simp only at hx h0 h1
  subst hx
  obtain ⟨W, hW, k0, k1, k2, B⟩ := three w ⟨K, F, T, A, A / 2000 + 1⟩ (A / 2000) (A / 2000 + 2) A
  simp only at hW
  unfold Fr.v
  simp only
  go_enter Try.func12, Try.ntmps12
  go_wp2_with fail
  rw [← hW]
  clear hW
  have hlt := k2.lt
  obtain ⟨-, -, -, c3, c4, -⟩ := k0.cells
  have d0 := k2.cell
  obtain ⟨r0, r1⟩ := k1.cells
  have HC3 := Lib.hid (fun W' (hb : Below W.heap.size W W') => And.intro (cell_below hb c3) (And.intro (cell_below hb d0) (And.intro (cell_below hb c4) (And.intro (cell_below hb r0) (cell_below hb r1)))))
  have HB := Lib.hid B
  clear k0 k1 k2 c3 c4 r0 r1 d0 B
  have ix0 := fx0
  have ix1 := fx1
  have ix2 := fx2
  refine wp_loop_rounds 4 ?_
  rw [rounds_succ]
  go_wp2_with (first | (go_at_call 17; refine (open1_any (w.heap.size + 1 + 1) A _ h0 h1 (HC3.out _ (by go_grown)).2.1).mono ?_; rintro e w' ⟨rfl, rfl⟩))
  rw [rounds_succ]
  go_wp2_with (first | (go_at_call 18; refine (open2_any w.heap.size (w.heap.size + 1 + 1) A A true _ (HC3.out _ (by go_grown)).1 (HC3.out _ (by go_grown)).2.1 (by simp)).mono ?_; rintro e w' ⟨rfl, rfl⟩))
  rw [rounds_succ]
  go_wp2_with (first | (go_at_call 20; refine (open3_any w.heap.size (w.heap.size + 1 + 1) (w.heap.size + 1) A _ h0 h1 (HC3.out _ (by go_grown)).2.2.1 (HC3.out _ (by go_grown)).2.1 (HC3.out _ (by go_grown)).2.2.2.1 (HC3.out _ (by go_grown)).2.2.2.2).mono ?_; rintro e w' ⟨rfl, hb⟩))
  rw [rounds_succ]
  go_wp2_with fail
  go_ret
  refine ⟨rfl, B_trans HB.out (B_trans ?_ hb)⟩
  go_grown
end Go.Proofs.Ytffdcnjddoakbaa
