/-
  The walks of four laws, at whatever whole numbers of the parameters' types.
-/
import Derived.Test.YtodmklkjdogafaaDoorLaws
namespace Go.Proofs.YtodmklkjdogafaaDoor
open Go.RowKit

theorem u64_nat {x : Int} (h : (Lit.int .u64 x).wf = true) : ∃ b : Nat, x = b ∧ b < 2 ^ 64 := by
  have := bounds_u64 h
  exact ⟨x.toNat, by omega, by omega⟩
theorem distinct_law (a b : Int) (w : World) (ha : (Lit.int .u64 a).wf = true) (hb : (Lit.int .u64 b).wf = true) (hL : Laid w) :
    Calls Tryd.prog 4 #[.int .u64 a, .int .u64 b] w fun e w' => e = .returned (.bool true) ∧ Below w.heap.size w w' := by
  obtain ⟨a, rfl, h⟩ := u64_nat ha
  obtain ⟨b, rfl, k⟩ := u64_nat hb
  exact distinct_any a b w h k hL
theorem match_law (a n : Int) (w : World) (ha : (Lit.int .u64 a).wf = true) (_ : (Lit.int .i64 n).wf = true) (hL : Laid w) :
    Calls Tryd.prog 3 #[.int .u64 a, .int .i64 n] w fun e w' => e = .returned (.bool true) ∧ Below w.heap.size w w' := by
  obtain ⟨a, rfl, h⟩ := u64_nat ha
  by_cases hn : n < 1 ∨ 1000 < n
  · exact match_none a n w h hn hL
  · obtain ⟨N, rfl⟩ : ∃ N : Nat, n = N := ⟨n.toNat, by omega⟩
    exact match_some a N w h (by omega) (by omega) hL
theorem range_law (a n t : Int) (w : World) (ha : (Lit.int .u64 a).wf = true) (_ : (Lit.int .i64 n).wf = true) (ht : (Lit.int .u8 t).wf = true) (hL : Laid w) :
    Calls Tryd.prog 5 #[.int .u64 a, .int .i64 n, .int .u8 t] w fun e w' => e = .returned (.bool true) ∧ Below w.heap.size w w' := by
  obtain ⟨a, rfl, h⟩ := u64_nat ha
  have := bounds_u8 ht
  by_cases hn : n < 1 ∨ 1000000000 < n
  · exact range_none a n t w h hn hL
  · exact range_some a n t w h (by omega) (by omega) (by omega) (by omega) hL
theorem mask_law (a n : Int) (w : World) (ha : (Lit.int .u64 a).wf = true) (_ : (Lit.int .i64 n).wf = true) (hL : Laid w) :
    Calls Tryd.prog 8 #[.int .u64 a, .int .i64 n] w fun e w' => e = .returned (.bool true) ∧ Below w.heap.size w w' := by
  obtain ⟨a, rfl, h⟩ := u64_nat ha
  by_cases hn : n < 1 ∨ 16 < n
  · exact masklaw_none a n w h hn hL
  · exact masklaw_some a n w h (by omega) (by omega) hL
end Go.Proofs.YtodmklkjdogafaaDoor
