/-
  What the rows of this seat share: the listed table read out of memory, and the start that fits.
-/
import Derived.Test.YtomfbadniajnlaaDoorRows
import Derived.Test.YtomfbadniajnlaaDoorNext
import Derived.ProofKit
import Derived.LaidMore
import Derived.OpenShut
import Derived.Stop.Joined
namespace Go.Proofs.YtomfbadniajnlaaDoor
open Go.ChangeShapes Go.WideShapes Go.ChangeAt Go.WideMaps Go.WideElems Go.RowKit

theorem own : ownKnob Tryd.prog.godebug = none := by kernel_rfl
theorem laidOut : laidOutB Tryd.prog = true := by kernel_rfl
theorem gSteps : Tryd.prog.globalNamed "slotmesh/random.steps" = some 0 := by kernel_rfl
theorem tSteps : (Tryd.prog.globals[0]?).map (·.type) = some 56 := by kernel_rfl
noncomputable abbrev laidL : List (String × DataW Unit) := [("slotmesh/random.steps", Rows.laid_slotmesh_random_steps)]

theorem door_met (os : Os) (args : Array Value) : laidMetH Tryd.prog laidL ((World.doorLaid Tryd.prog 17 os).forCall (fun _ _ => 0) ⟨#[], args, []⟩).memory :=
  laidMetH_of_parts3 (fuel := 8) (laidMet_of_run' 8 (by kernel_rfl) (by kernel_rfl)) (by kernel_rfl) (by kernel_rfl)

theorem of_laid {W : World} (h : laidMetH Tryd.prog laidL W) : Laid W := by
  rw [MakeChecks.laidMetH_plain _ _ _ (by kernel_rfl)] at h
  obtain ⟨ps, ⟨g0, t0, cs0, f0, p0, q0, hg0, ht0, hv0, hd0, _⟩, _, _⟩ := h
  obtain rfl := Option.some.inj (gSteps.symm.trans hg0)
  obtain rfl := Option.some.inj (tSteps.symm.trans ht0)
  obtain ⟨xs, m1, rfl, hx1, hlen, hn3, hel⟩ := DataW.trod_array Tryd.underlying56 hd0
  have c34 : Tryd.prog.cellsOf 56 = 6 := by kernel_rfl
  have c33 : Tryd.prog.cellsOf 55 = 2 := by kernel_rfl
  have c3 : Tryd.prog.cellsOf 3 = 1 := by kernel_rfl
  have c22 : Tryd.prog.cellsOf 48 = 1 := by kernel_rfl
  rw [c34] at hlen
  rw [c33] at hel
  have e0 := hel 0 (by decide)
  have e1 := hel 1 (by decide)
  have e2 := hel 2 (by decide)
  obtain ⟨l0⟩ := cs0
  simp only [Prod.mk.injEq, Rows.laid_slotmesh_random_steps, DataW.agg.injEq] at hx1
  have cell : ∀ i : Nat, W.cell? ⟨0, i, none⟩ = l0[i]? := fun i => by
    have := World.var?_cell hg0 hv0 i
    simpa using this
  match l0, hlen, xs, hn3, hx1 with
  | [z0, z1, z2, z3, z4, z5], _, [x0, x1, x2], _, hx1 =>
    simp only [List.map_cons, List.map_nil, List.cons.injEq, and_true] at hx1
    obtain ⟨⟨hx0, hx1, hx2⟩, _⟩ := hx1
    have go : ∀ (a b : Value) (u v : Int) (x : DataW Unit × List MemPlace), DataW.trod (fun _ => ()) Tryd.prog W 0 (fun _ => true) false m1 55 [a, b] = some x → DataW.agg [.lit (.int .i64 u), .lit (.int .u64 v)] = x.1 → a = .int .i64 u ∧ b = .int .u64 v := by
      intro a b u v x hx he
      obtain ⟨y0, y1, n, rfl, _, hy0, hy1⟩ := trod_struct2 Tryd.underlying55 hx
      simp only [c3, c22] at hy0 hy1
      obtain ⟨k0, q1, q2, _⟩ := DataW.trod_int Tryd.underlying3 hy0
      obtain ⟨k1, q3, q4, _⟩ := DataW.trod_int Tryd.underlying48 hy1
      simp only [DataW.agg.injEq, List.cons.injEq, and_true] at he
      rw [q2, q4] at he
      simp at he q1 q3
      obtain ⟨rfl, rfl⟩ := he
      exact ⟨q1, q3⟩
    obtain ⟨rfl, rfl⟩ := go _ _ _ _ _ e0 hx0
    obtain ⟨rfl, rfl⟩ := go _ _ _ _ _ e1 hx1
    obtain ⟨rfl, rfl⟩ := go _ _ _ _ _ e2 hx2
    exact ⟨cell 0, cell 1, cell 2, cell 3, cell 4, cell 5⟩
end Go.Proofs.YtomfbadniajnlaaDoor
