/-
  The walks of random.Next, of the reference's Next and Half, and of random.halves. Condition of the first: the table of steps reads as its initialiser lays it.
-/
import Derived.Test.YtomfbadniajnlaaDoorRows
import Derived.Test.YtomfbadniajnlaaDoorPlain
import Derived.WalkKit
import Derived.WalkSpells
import Derived.WalkLawsBesides
import Derived.BigQuiet
import Derived.Lib.Hide
import Derived.Lib.SmallJoins
namespace Go.Proofs.YtomfbadniajnlaaDoor
open Go.RowKit

theorem ret_bool {a b : Bool} (h : a = b) : Ending.returned (.bool a) = .returned (.bool b) := by rw [h]
theorem ret_int {k : IntKind} {a b : Int} (h : a = b) : Ending.returned (.int k a) = .returned (.int k b) := by rw [h]
theorem B_alloc {w w1 : World} (h : Below w.heap.size w w1) (o : Obj) : Below w.heap.size w (w1.alloc o) := h.alloc h.size o
theorem B_trans {w w1 w2 : World} (h : Below w.heap.size w w1) (k : Below w1.heap.size w1 w2) : Below w.heap.size w w2 := h.trans (k.mono h.size)
theorem B_drewN {w w1 : World} (h : Below w.heap.size w w1) (n : Nat) : Below w.heap.size w (w1.drewN n) := h.trans (Joins.below_draws _ _ _)
theorem cell_lt {w : World} {p : Addr} {v : Value} (hc : w.cell? p = some v) : p.block < w.heap.size := by
  unfold World.cell? at hc
  cases ho : w.heap[p.block]? with
  | none => simp [ho] at hc
  | some x => exact (Array.getElem?_eq_some_iff.1 ho).1

/-- The table of steps holds what its initialiser lays. -/
def Laid (w : World) : Prop :=
  w.cell? ⟨0, 0, none⟩ = some (.int .i64 30) ∧ w.cell? ⟨0, 1, none⟩ = some (.int .u64 13787848793156543929) ∧ w.cell? ⟨0, 2, none⟩ = some (.int .i64 27) ∧
  w.cell? ⟨0, 3, none⟩ = some (.int .u64 10723151780598845931) ∧ w.cell? ⟨0, 4, none⟩ = some (.int .i64 31) ∧ w.cell? ⟨0, 5, none⟩ = some (.int .u64 1)
theorem Laid.pos {w : World} (h : Laid w) : 0 < w.heap.size := cell_lt h.1
theorem Laid.upto {w w' : World} {B : Nat} (h : Laid w) (hb : Below B w w') (hB : 0 < B) : Laid w' :=
  ⟨(hb.cell (p := ⟨0, 0, none⟩) hB).trans h.1, (hb.cell (p := ⟨0, 1, none⟩) hB).trans h.2.1, (hb.cell (p := ⟨0, 2, none⟩) hB).trans h.2.2.1, (hb.cell (p := ⟨0, 3, none⟩) hB).trans h.2.2.2.1,
    (hb.cell (p := ⟨0, 4, none⟩) hB).trans h.2.2.2.2.1, (hb.cell (p := ⟨0, 5, none⟩) hB).trans h.2.2.2.2.2⟩
theorem Laid.below {w w' : World} (h : Laid w) (hb : Below w.heap.size w w') : Laid w' := h.upto hb h.pos

theorem ix0 (w : World) : (Instr.index 56 (.agg #[.int .i64 30, .int .u64 13787848793156543929, .int .i64 27, .int .u64 10723151780598845931, .int .i64 31, .int .u64 1]) (.int .i64 0)).run Tryd.prog w = .ok (.agg #[.int .i64 30, .int .u64 13787848793156543929]) w := by kernel_rfl
theorem ix1 (w : World) : (Instr.index 56 (.agg #[.int .i64 30, .int .u64 13787848793156543929, .int .i64 27, .int .u64 10723151780598845931, .int .i64 31, .int .u64 1]) (.int .i64 1)).run Tryd.prog w = .ok (.agg #[.int .i64 27, .int .u64 10723151780598845931]) w := by kernel_rfl
theorem ix2 (w : World) : (Instr.index 56 (.agg #[.int .i64 30, .int .u64 13787848793156543929, .int .i64 27, .int .u64 10723151780598845931, .int .i64 31, .int .u64 1]) (.int .i64 2)).run Tryd.prog w = .ok (.agg #[.int .i64 31, .int .u64 1]) w := by kernel_rfl

set_option maxHeartbeats 400000 in
theorem next_any (s : Nat) (w : World) (hL : Laid w) :
    Calls Tryd.prog 36 #[.int .u64 s] w fun e w' => e = .returned (.int .u64 (Pl.next s : Nat)) ∧ Below w.heap.size w w' := by
  obtain ⟨c0, c1, c2, c3, c4, c5⟩ := hL
  have i0 := ix0
  have i1 := ix1
  have i2 := ix2
  go_enter Tryd.func36, Tryd.ntmps36
  go_wp2_with fail
  refine wp_loop_rounds 4 ?_
  rw [rounds_succ]
  go_wp2_with fail
  go_quiet (fail)
  go_wp2_with fail
  rw [rounds_succ]
  go_wp2_with fail
  go_quiet (fail)
  go_wp2_with fail
  rw [rounds_succ]
  go_wp2_with fail
  go_quiet (fail)
  go_wp2_with fail
  rw [rounds_succ]
  go_wp2_with fail
  go_ret
  refine ⟨ret_int ?_, ?_⟩
  · rw [← Pl.next_spell]; rfl
  · repeat first | exact Below.refl _ _ | refine B_drewN ?_ _ | refine B_alloc ?_ _

set_option maxHeartbeats 400000 in
theorem rnext_any (s : Nat) (w : World) :
    Calls Tryd.prog 33 #[.int .u64 s] w fun e w' => e = .returned (.int .u64 (Pl.next s : Nat)) ∧ w = w' := by
  go_enter Tryd.func33, Tryd.ntmps33
  go_wp2_with fail
  go_ret
  refine ⟨ret_int ?_, rfl⟩
  rw [← Pl.ref_spell]; rfl

set_option maxHeartbeats 400000 in
theorem half_any (s : Nat) (w : World) (hs : s < 2 ^ 64) :
    Calls Tryd.prog 32 #[.int .u64 s] w fun e w' => e = .returned (.int .i64 (Pl.half s : Nat)) ∧ w = w' := by
  have hlt := Pl.half_lt hs
  go_enter Tryd.func32, Tryd.ntmps32
  go_wp2_with fail
  go_ret
  exact ⟨ret_int (by simp [Pl.half]), rfl⟩

set_option maxHeartbeats 400000 in
theorem halves_any (s : Nat) (w : World) :
    Calls Tryd.prog 34 #[.int .u64 s] w fun e w' => e = .returned (.func (.func 35) #[] #[.pointer (some ⟨w.heap.size, 0, none⟩)]) ∧ w' = w.alloc (.cells #[.int .u64 s] 48) := by
  have hmf : ∀ (fn : Fn) (first cap : Array Value) (w : World), (Instr.makeFunc fn first cap).run Tryd.prog w = .ok (.func fn first cap) w := fun _ _ _ _ => rfl
  go_enter Tryd.func34, Tryd.ntmps34
  go_wp2_with fail
  go_ret
  exact ⟨rfl, rfl⟩
end Go.Proofs.YtomfbadniajnlaaDoor
