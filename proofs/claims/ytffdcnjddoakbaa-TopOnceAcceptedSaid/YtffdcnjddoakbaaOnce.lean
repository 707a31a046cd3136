/-
  The fixed example of TopOnceAccepted (w17Once) is true. Conditions: none.
-/
import Derived.Test.YtffdcnjddoakbaaAcc
namespace Go.Proofs.Ytffdcnjddoakbaa
open Go.RowKit

theorem root70 (w : World) : Calls Try.prog 6 #[.int .i64 70] w fun e w' => e = .returned (.agg #[.int .i64 0, .int .i64 2]) ∧ Below w.heap.size w w' := root_any 70 w (by omega) (by omega)
def f70 : Value := .agg #[.int .i64 2, .int .i64 1, .int .i64 0, .int .i64 70, .int .i64 1, .slice none 0 0]
theorem seal70 (w : World) : Calls Try.prog 5 #[.agg #[.int .i64 2, .int .i64 1, .int .i64 0, .int .i64 70, .int .i64 0, .slice none 0 0], .agg #[.int .i64 0, .int .i64 2]] w fun e w' => e = .returned (.tuple #[.agg #[.int .i64 2, .int .i64 1, .int .i64 0, .int .i64 70, .int .i64 1, .slice none 0 0], .int .i64 0]) ∧ Below w.heap.size w w' :=
  seal_any ⟨2, 1, 0, 70, 0⟩ w (by simp) (by simp)
theorem n71 : Pl.note 0 0 (70 + 1) = ⟨71, 1, 0⟩ := by kernel_rfl
theorem n72 : Pl.note 71 1 (70 + 1) = ⟨0, 0, 14⟩ := by kernel_rfl
theorem mk2 (W : World) : (Instr.makeSlice 25 (.int .i64 2) (.int .i64 2)).run Try.prog W = .ok (.slice (some ⟨W.heap.size, 0, none⟩) 2 2) (W.alloc (.cells #[.int .i64 0, .int .u64 0, .int .i64 0, .int .u64 0] 49)) := by kernel_rfl
theorem mk4 (W : World) : (Instr.makeSlice 25 (.int .i64 4) (.int .i64 4)).run Try.prog W = .ok (.slice (some ⟨W.heap.size, 0, none⟩) 4 4) (W.alloc (.cells #[.int .i64 0, .int .u64 0, .int .i64 0, .int .u64 0, .int .i64 0, .int .u64 0, .int .i64 0, .int .u64 0] 49)) := by kernel_rfl
theorem rw_new (W : World) (L : List Wn) : Rw (W.alloc (.cells (cw L).toArray 49)) W.heap.size L :=
  ⟨by simp, fun j u hu => cell_new W (cw L).toArray 49 j u (by simpa using hu)⟩
theorem acc1 (g cap : Nat) (w : World) (h : Rw w g [⟨0, 0⟩, ⟨0, 0⟩]) : Calls Try.prog 7 #[.slice (some ⟨g, 0, none⟩) 2 cap, .agg #[.int .i64 2, .int .i64 1, .int .i64 0, .int .i64 70, .int .i64 1, .slice none 0 0], .agg #[.int .i64 0, .int .i64 2], .int .i64 70] w fun e w' =>
    ∃ g' cap', e = .returned (.tuple #[.slice (some ⟨g', 0, none⟩) 2 cap', .bool true]) ∧ Rw w' g' [⟨0, 0⟩, ⟨71, 1⟩] ∧ Below w.heap.size w w' :=
  (acc_new g _ 1 2 cap 2 0 70 0 0 w h rfl (by omega) rfl (by decide) (by omega) (by omega) 71 1 n71 (by omega)).mono fun _ _ ⟨a, b, c, d, _, f⟩ => ⟨a, b, c, d, f⟩
theorem acc2 (g cap : Nat) (w : World) (h : Rw w g [⟨0, 0⟩, ⟨71, 1⟩]) : Calls Try.prog 7 #[.slice (some ⟨g, 0, none⟩) 2 cap, .agg #[.int .i64 2, .int .i64 1, .int .i64 0, .int .i64 70, .int .i64 1, .slice none 0 0], .agg #[.int .i64 0, .int .i64 2], .int .i64 70] w fun e w' =>
    e = .returned (.tuple #[.slice (some ⟨g, 0, none⟩) 2 cap, .bool false]) ∧ Below w.heap.size w w' :=
  acc_ref g _ 1 2 cap 2 0 70 71 1 w h rfl (by omega) rfl (by decide) (by omega) (by omega) 0 0 n72 (by omega)
theorem acc3 (v : Value) (w : World) : Calls Try.prog 7 #[v, .agg #[.int .i64 2, .int .i64 1, .int .i64 0, .int .i64 70, .int .i64 1, .slice none 0 0], .agg #[.int .i64 0, .int .i64 2], .int .i64 71] w fun e w' =>
    e = .returned (.tuple #[v, .bool false]) ∧ Below w.heap.size w w' :=
  acc_old v ⟨2, 1, 0, 70, 1⟩ 71 w (by omega) (by omega) (by simp)
/-- What the three regions read. -/
abbrev So (w1 : World) (b : Nat) (W : World) : Prop :=
  W.cell? ⟨b, 0, none⟩ = some (.int .i64 2) ∧ W.cell? ⟨b, 1, none⟩ = some (.int .i64 1) ∧ W.cell? ⟨b, 2, none⟩ = some (.int .i64 0) ∧ W.cell? ⟨b, 3, none⟩ = some (.int .i64 70) ∧ W.cell? ⟨b, 4, none⟩ = some (.int .i64 1) ∧ W.cell? ⟨b, 5, none⟩ = some (.slice none 0 0) ∧ Below w1.heap.size w1 W
theorem So.of {w1 W : World} {b : Nat} (h : Fb w1 b ⟨2, 1, 0, 70, 1⟩) (hb : Below w1.heap.size w1 W) : So w1 b W := by
  obtain ⟨c0, c1, c2, c3, c4, c5⟩ := h.cells
  exact ⟨cell_below hb c0, cell_below hb c1, cell_below hb c2, cell_below hb c3, cell_below hb c4, cell_below hb c5, hb⟩
theorem So.bel {w1 W : World} {b : Nat} (h : So w1 b W) : Below w1.heap.size w1 W := h.2.2.2.2.2.2
theorem So.call {w1 W W' : World} {b : Nat} (h0 : Fb w1 b ⟨2, 1, 0, 70, 1⟩) (h : So w1 b W) (hb : Below W.heap.size W W') : So w1 b W' := So.of h0 (B_trans h.bel hb)

set_option maxHeartbeats 8000000 in
theorem once_any (w : World) : Calls Try.prog 4 #[] w fun e w' => e = .returned (.bool true) ∧ Below w.heap.size w w' := by
  go_enter Try.func4, Try.ntmps4
  go_wp2_with fail
  refine (root70 _).mono ?_
  rintro e w1 ⟨rfl, B⟩
  go_wp2_with fail
  refine (seal70 _).mono ?_
  rintro e w2 ⟨rfl, hb⟩
  replace B := B_trans B hb
  clear hb
  have k0 := Fb.new w2 ⟨2, 1, 0, 70, 1⟩
  replace B := B_alloc B (.cells #[.int .i64 2, .int .i64 1, .int .i64 0, .int .i64 70, .int .i64 1, .slice none 0 0] 31)
  have k1 := rw_new (w2.alloc (.cells #[.int .i64 2, .int .i64 1, .int .i64 0, .int .i64 70, .int .i64 1, .slice none 0 0] 31)) [⟨0, 0⟩, ⟨0, 0⟩]
  replace k0 := k0.below (B_alloc (Below.refl _ _) (.cells #[.int .i64 0, .int .u64 0, .int .i64 0, .int .u64 0] 49))
  replace B := B_alloc B (.cells #[.int .i64 0, .int .u64 0, .int .i64 0, .int .u64 0] 49)
  have m2 := mk2
  go_wp2_with fail
  rw [World.size_alloc] at k1
  obtain ⟨W3, hW⟩ : ∃ W3, W3 = (w2.alloc (.cells #[.int .i64 2, .int .i64 1, .int .i64 0, .int .i64 70, .int .i64 1, .slice none 0 0] 31)).alloc (.cells #[.int .i64 0, .int .u64 0, .int .i64 0, .int .u64 0] 49) := ⟨_, rfl⟩
  replace k1 : Rw W3 (w2.heap.size + 1) [⟨0, 0⟩, ⟨0, 0⟩] := by rw [hW]; exact k1
  rw [← hW] at k0 B ⊢
  clear hW m2
  have HF := Lib.hid k0
  have HR := Lib.hid (fun W (h : Below W3.heap.size W3 W) => k1.below h)
  have HB := Lib.hid B
  have HRW := Lib.hid k1
  have hS0 := Lib.hid (So.of k0 (Below.refl _ _).drew)
  clear k0 k1 B
  go_region_held3 (fun W => W.cell? ⟨w2.heap.size, 0, none⟩ = some (.int .i64 2) ∧ W.cell? ⟨w2.heap.size, 1, none⟩ = some (.int .i64 1) ∧ W.cell? ⟨w2.heap.size, 2, none⟩ = some (.int .i64 0) ∧ W.cell? ⟨w2.heap.size, 3, none⟩ = some (.int .i64 70) ∧ W.cell? ⟨w2.heap.size, 4, none⟩ = some (.int .i64 1) ∧ W.cell? ⟨w2.heap.size, 5, none⟩ = some (.slice none 0 0) ∧ Below W3.heap.size W3 W)
    (first | (with_reducible assumption) | (with_reducible exact hS0.out) | ((with_reducible refine So.call HF.out ?_ hb'); assumption))
    (first
      | (go_at_call 6; refine (root70 _).mono ?_; rintro e w' ⟨rfl, hb'⟩)
      | (go_at_call 7; refine (acc1 _ _ _ (HR.out _ (So.bel (by assumption)))).mono ?_; rintro e w' ⟨g', cap', rfl, hR', hb'⟩))
  all_goals
    have hb3 := So.bel (by assumption : So W3 w2.heap.size w')
    have B4 := B_trans HB.out hb3
    have k4 := HF.out.below hb3
    obtain ⟨W4, hW4⟩ : ∃ W4, W4 = w' := ⟨_, rfl⟩
    rw [← hW4] at hR' B4 k4 ⊢
    clear hW4
    have HF4 := Lib.hid k4
    have HR4 := Lib.hid (fun W (h : Below W4.heap.size W4 W) => hR'.below h)
    have HB4 := Lib.hid B4
    have hS4 := Lib.hid (So.of k4 (Below.refl _ _).drew)
    clear k4 B4 hR' hb3 HF HR HB HRW hS0
    go_wp2_with fail
    go_region_held3 (fun W => W.cell? ⟨w2.heap.size, 0, none⟩ = some (.int .i64 2) ∧ W.cell? ⟨w2.heap.size, 1, none⟩ = some (.int .i64 1) ∧ W.cell? ⟨w2.heap.size, 2, none⟩ = some (.int .i64 0) ∧ W.cell? ⟨w2.heap.size, 3, none⟩ = some (.int .i64 70) ∧ W.cell? ⟨w2.heap.size, 4, none⟩ = some (.int .i64 1) ∧ W.cell? ⟨w2.heap.size, 5, none⟩ = some (.slice none 0 0) ∧ Below W4.heap.size W4 W)
      (first | (with_reducible assumption) | (with_reducible exact hS4.out) | ((with_reducible refine So.call HF4.out ?_ hb'); assumption))
      (first
        | (go_at_call 6; refine (root70 _).mono ?_; rintro e w' ⟨rfl, hb'⟩)
        | (go_at_call 7; refine (acc2 _ _ _ (HR4.out _ (So.bel (by assumption)))).mono ?_; rintro e w' ⟨rfl, hb'⟩))
  have hb5 := So.bel (by assumption : So W4 w2.heap.size w')
  have B5 := B_trans HB4.out hb5
  have k5 := HF4.out.below hb5
  obtain ⟨W5, hW5⟩ : ∃ W5, W5 = w' := ⟨_, rfl⟩
  rw [← hW5] at B5 k5 ⊢
  clear hW5
  have HF5 := Lib.hid k5
  have HB5 := Lib.hid B5
  have hS5 := Lib.hid (So.of k5 (Below.refl _ _).drew)
  clear k5 B5 hb5 HF4 HR4 HB4 hS4
  go_wp2_with fail
  go_region_held3 (fun W => W.cell? ⟨w2.heap.size, 0, none⟩ = some (.int .i64 2) ∧ W.cell? ⟨w2.heap.size, 1, none⟩ = some (.int .i64 1) ∧ W.cell? ⟨w2.heap.size, 2, none⟩ = some (.int .i64 0) ∧ W.cell? ⟨w2.heap.size, 3, none⟩ = some (.int .i64 70) ∧ W.cell? ⟨w2.heap.size, 4, none⟩ = some (.int .i64 1) ∧ W.cell? ⟨w2.heap.size, 5, none⟩ = some (.slice none 0 0) ∧ Below W5.heap.size W5 W)
    (first | (with_reducible assumption) | (with_reducible exact hS5.out) | ((with_reducible refine So.call HF5.out ?_ hb'); assumption))
    (first
      | (go_at_call 6; refine (root70 _).mono ?_; rintro e w' ⟨rfl, hb'⟩)
      | (go_at_call 7; refine (acc3 _ _).mono ?_; rintro e w' ⟨rfl, hb'⟩))
  have hb6 := So.bel (by assumption : So W5 w2.heap.size w')
  have B6 := B_trans HB5.out hb6
  clear hb6 HF5 HB5 hS5
  go_wp2_with fail
  go_ret
  exact ⟨ret_bool (by simp), B6⟩
end Go.Proofs.Ytffdcnjddoakbaa
