/-
  random.first returns the upper half of the next state, and random.Below and random.Mask reduce it. Condition: the table of steps reads as its initialiser lays it.
-/
import Derived.Test.YtomfbadniajnlaaDoorIter
import Derived.Deep.RegionHeld3

namespace Go.Proofs.YtomfbadniajnlaaDoor
open Go.RowKit Go.Shelf
attribute [local go_sem] Oper.semAt_some

theorem Rk.refl (n0 b : Nat) (W : World) : Rk n0 b W W := ⟨KeepsOthers.refl _, rfl, Below.refl _ _⟩
theorem Rk.cell {n0 b r : Nat} (W : World) (i : Nat) (v : Value) (hr : n0 ≤ r) (hb : b ≠ r) : Rk n0 b W (W.setCell ⟨r, i, none⟩ v) :=
  ⟨KeepsOthers.setCell _ _ _, Below.heap_setCell W ⟨r, i, none⟩ v b hb, (Below.refl _ _).setCell hr _⟩
theorem Rk.trans {n0 b : Nat} {A B C : World} (h : Rk n0 b A B) (k : Rk n0 b B C) : Rk n0 b A C :=
  ⟨h.others.trans k.others, k.seed.trans h.seed, h.below.trans k.below⟩

set_option maxHeartbeats 1000000 in
theorem first_any (s : Nat) (w : World) (hlt : s < 2 ^ 64) (hL : Laid w) :
    Calls Tryd.prog 31 #[.int .u64 s] w fun e w' => e = .returned (.int .i64 (Pl.half (Pl.next s) : Nat)) ∧ Below w.heap.size w w' := by
  refine (callsIn_wide (n := 10)).1 ?_
  refine callsIn_of_wp_marks Tryd.func31 rfl trivial ?_ rfl
  simp only [Tryd.ntmps31, List.size_toArray, List.length_cons, List.length_nil, Nat.reduceAdd, Nat.reduceSub, Array.replicate_succ, Array.replicate_zero, List.push_toArray, List.append_toArray, List.nil_append, List.cons_append]
  gi_wp2_with fail
  refine ⟨trivial, (callsIn_wide.2 (halves_any s _)).mono ?_⟩
  rintro e w1 ⟨rfl, rfl⟩
  gi_wp2_with fail
  obtain ⟨W0, hW0⟩ : ∃ W0 : World, (w.alloc (Obj.cells #[Value.int IntKind.i64 0] 3)).alloc (Obj.cells #[Value.int IntKind.u64 ↑s] 48) = W0 := ⟨_, rfl⟩
  have hb0 : Below w.heap.size w W0 := by rw [← hW0]; exact B_alloc (B_alloc (Below.refl _ _) _) _
  have hr0 : W0.heap[w.heap.size]? = some (.cells #[.int .i64 0] 3 (0, 0)) := by
    rw [← hW0]; exact (Below.heap_alloc _ _ _ (by simp)).trans (World.alloc_heap_new w _)
  have hs0 : Seed W0 (w.heap.size + 1) s := by
    rw [← hW0]; have := World.alloc_heap_new (w.alloc (Obj.cells #[Value.int IntKind.i64 0] 3)) (Obj.cells #[Value.int IntKind.u64 ↑s] 48); rwa [World.size_alloc] at this
  have hp := hL.pos
  rw [hW0]
  refine wp_halves 10 (w.heap.size + 1) w.heap.size s 1 rfl rfl hs0 hlt (by omega) (hL.below hb0) hp (by omega)
    (fun _ W => Below w.heap.size w W ∧ W.heap[w.heap.size]? = some (.cells #[.int .i64 0] 3 (0, 0)))
    (fun c W => c = .ret ∧ Below w.heap.size w W ∧ W.heap[w.heap.size]? = some (.cells #[.int .i64 (Pl.half (Pl.next s) : Nat)] 3 (0, 0)))
    (fun k A B h hk => ⟨h.1.trans hk.below, hk.same _ _ h.2 rfl (by omega)⟩)
    (fun c A B h hk => ⟨h.1, h.2.1.trans hk.below, hk.same _ _ h.2.2 rfl (by omega)⟩)
    ⟨hb0, hr0⟩
    (fun x => { tmps := #[.int .u64 s, undef, .pointer (some ⟨w.heap.size, 0, none⟩), .int .i64 x, .int .u64 s, .func (.func 35) #[] #[.pointer (some ⟨w.heap.size + 1, 0, none⟩)], .int .i64 x, undef], defers := [] }) ?assign ?body ?stop
  case assign =>
    intro l x W K hK
    gi_wp2_with fail
    exact hK
  case body =>
    rintro l k W ⟨hb, hr⟩ hsd hk hLW hsz
    obtain rfl : k = 0 := by omega
    have hx : Pl.st s (0 + 1) = Pl.next s := rfl
    rw [hx] at hsd ⊢
    have c0 : W.cell? ⟨w.heap.size, 0, none⟩ = some (.int .i64 0) := by simp [World.cell?, hr]
    have f0 : W.frozen? ⟨w.heap.size, 0, none⟩ = false := by simp [World.frozen?, hr]
    gi_wp2_with fail
    exact ⟨Rk.cell W 0 _ (Nat.le_refl _) (by omega), rfl, hb.setCell (Nat.le_refl _) _, Joins.block_setCell (w := W) (i := 0) hr _⟩
  case stop =>
    rintro D c W hD ⟨rfl, hb, hr⟩ hK
    gi_wp2_with fail
    refine ⟨by simp, .inl ⟨_, _, rfl, run_takeDeferred hK, ?_⟩⟩
    have kp := Kp.put (n0 := w.heap.size) (b := w.heap.size + 1) W (.deferred none) hD hK rfl
    have hr' := kp.same _ _ hr rfl (by omega)
    have c0 : (W.putObj D (.deferred none)).cell? ⟨w.heap.size, 0, none⟩ = some (.int .i64 (Pl.half (Pl.next s) : Nat)) := by simp [World.cell?, hr']
    exact ⟨_, by simp [results, go_sem, c0], rfl, hb.trans kp.below⟩

set_option maxHeartbeats 400000 in
theorem below_any (s : Nat) (n : Int) (w : World) (hlt : s < 2 ^ 64) (hL : Laid w) :
    Calls Tryd.prog 29 #[.int .u64 s, .int .i64 n] w fun e w' => e = .returned (.int .i64 (Pl.below s n)) ∧ Below w.heap.size w w' := by
  go_enter Tryd.func29, Tryd.ntmps29
  go_wp2_with (refine (first_any s _ hlt (by assumption)).mono ?_; rintro e w1 ⟨rfl, hb1⟩)
  · rename_i h1 h2
    go_ret
    exact ⟨ret_int (by rw [Pl.below, if_pos h2]), Below.refl _ _⟩
  · rename_i h1 h2
    go_ret
    exact ⟨ret_int (by rw [Pl.below, if_neg (by omega)]), hb1⟩
  · rename_i h1
    go_ret
    exact ⟨ret_int (by rw [Pl.below, if_pos (.inl h1)]), Below.refl _ _⟩

set_option maxHeartbeats 400000 in
theorem rbelow_any (s : Nat) (n : Int) (w : World) :
    Calls Tryd.prog 30 #[.int .u64 s, .int .i64 n] w fun e w' => e = .returned (.int .i64 (Pl.below s n)) ∧ w = w' := by
  have hl := Pl.next_lt s
  go_enter Tryd.func30, Tryd.ntmps30
  go_wp2_with (first | (go_at_call 33; refine (rnext_any s _).mono ?_; rintro e w1 ⟨rfl, rfl⟩) | (go_at_call 32; refine (half_any _ _ hl).mono ?_; rintro e w1 ⟨rfl, rfl⟩))
  · rename_i h1 h2
    go_ret
    exact ⟨ret_int (by rw [Pl.below, if_pos h2]), rfl⟩
  · rename_i h1 h2
    go_ret
    exact ⟨ret_int (by rw [Pl.below, if_neg (by omega)]), rfl⟩
  · rename_i h1
    go_ret
    exact ⟨ret_int (by rw [Pl.below, if_pos (.inl h1)]), rfl⟩

end Go.Proofs.YtomfbadniajnlaaDoor
