/-
  A region that draws its order of evaluation, in a round of a loop over an iterator: by the plain laws that take an operation first where its value is the same in every world that meets a condition.
-/
import Derived.Test.YtodmklkjdogafaaDoorFirst
import Derived.Deep.RegionHeld
import Derived.RegionIn
namespace Go.Proofs.YtodmklkjdogafaaDoor
open Go.RowKit

theorem wpInRound {l n : Nat} {P : Program} {o : Oper} {a : Act} {w : World} {K : Act → World → Prop} {Q : Exit → Act → World → Prop} (hnd : ∀ c, o.op ≠ .defer c)
    (h : o.wp P a w K Q) : o.wpIn (Fence.wide.inRound l) n P a w K Q := by
  unfold Oper.wpIn
  refine ⟨fun _ _ => trivial, ?_⟩
  rw [Oper.semAt_eq _ _ _ hnd]
  unfold Oper.wp at h
  generalize (execOp a.eval o).run P w = r at *
  cases r with
  | ok x w' =>
    cases x <;> simp only [Oper.upon, Oper.uponIn] at h ⊢ <;> first
      | exact h
      | exact ⟨fun h => (by cases h), CallsIn.inRound l (callsIn_wide.2 h)⟩
      | exact ⟨fun h => (by cases h), fun c cs _ => let ⟨v, w', r, s⟩ := h c cs; ⟨v, w', r, stepsIn_wide.2 s⟩⟩
  | halt x w' => cases x <;> simp only [Oper.upon, Oper.uponIn] at h ⊢ <;> exact h

theorem wpAnyInRound {l n : Nat} {P : Program} {md : Region.Mode} {ops : Array Oper} {Q : Exit → Act → World → Prop} (hnd : ∀ (i : Nat) o, ops[i]? = some o → ∀ c, o.op ≠ .defer c) (hout : ¬ LetsOut Q) :
    ∀ (fuel : Nat) (listed : Array Bool) (a : Act) (w : World), wpAny P md ops Q fuel listed a w → wpAnyIn (Fence.wide.inRound l) n P md ops Q fuel listed a w
  | 0, _, _, _, h => h
  | fuel + 1, listed, a, w, h => by
    refine ⟨h.1, fun i hi => ?_⟩
    have h2 := h.2 i hi
    unfold wpOp at h2
    unfold wpOpIn
    cases ho : ops[i]? with
    | none =>
      simp only [ho] at h2 ⊢
      exact wpAnyInRound hnd hout fuel _ a w h2
    | some o =>
      simp only [ho] at h2 ⊢
      split
      · rename_i hw
        simp only [hw, if_true] at h2
        rcases h2 with h2 | h2
        · exact Oper.wpIn_mono (fun a w h => wpAnyInRound hnd hout fuel _ a w h) (wpInRound (hnd i o ho) h2)
        · exact absurd h2.2 hout
      · rename_i hw
        simp only [hw] at h2
        exact ⟨fun _ _ => trivial, wpAnyInRound hnd hout fuel _ _ w h2⟩

theorem regionInRound {l n id : Nat} {P : Program} {ops : Array Oper} {Q : Exit → Act → World → Prop} {a : Act} {w : World} (S : World → Prop) (hm : P.follows .mixedOrders = true)
    (hnd : ∀ (i : Nat) o, ops[i]? = some o → ∀ c, o.op ≠ .defer c) (hout : ¬ LetsOut Q) (hS : S w.drew)
    (h : S w.drew → wpAnyH P .any ops Q S ops.size (Array.replicate ops.size false) a w.drew) : (Code.region id ops true).wpIn (Fence.wide.inRound l) n P Q a w :=
  wpIn_region_any hm (wpAnyInRound hnd hout _ _ _ _ (wpAny_of_held _ _ _ _ (h hS)))
end Go.Proofs.YtodmklkjdogafaaDoor
