/-
  The law TopOnceAccepted of the air that came in: it returns true. Conditions: none.
-/
import Derived.Test.YtffdcnjddoakbaaTop
import Derived.Test.YtffdcnjddoakbaaArg
namespace Go.Proofs.Ytffdcnjddoakbaa
open Go.RowKit

theorem top_law (fst : Int) (a : Option Addr) (Z : List Aw) (n cap : Nat) (w : World) (hwf : (Lit.int .u32 fst).wf = true) (hR : Ra w a Z) (hn : Z.length = n) (hlen : n ≤ 28147497670246) (_hcap : n ≤ cap) :
    Calls Try.prog 3 #[.int .u32 fst, .slice a n cap] w fun e w' => e = .returned (.bool true) ∧ Below w.heap.size w w' := by
  have h1 : 0 ≤ fst ∧ fst < 4294967296 := by
    simp only [Lit.wf, IntKind.min, IntKind.max, IntKind.signed, IntKind.bits, Bool.and_eq_true] at hwf
    simp at hwf; omega
  by_cases hb : n ≤ 100
  · exact top_few a Z n cap fst w hR hn hb h1.1 h1.2
  · exact top_many a n cap fst w (by omega) (by omega)
end Go.Proofs.Ytffdcnjddoakbaa
