/-
  What the laws' rows share: a struct of five fields by value, a slice of small numbers that came in; each law over all inputs. Condition: the table of steps reads as its initialiser lays it.
-/
import Derived.Test.YtomfbadniajnlaaDoorLawsC
import Derived.Test.YtomfbadniajnlaaDoorFrame
import Derived.ChangeSlices
import Derived.SizedLaws
import Derived.Lib.SmallJoins
namespace Go.Proofs.YtomfbadniajnlaaDoor
open Go.RowKit Go.Joins Go.ChangeShapes Go.WideShapes Go.Deep

section
variable {H : Type} {enc : TypeId × Value → H} {P : Program} {w : World} {base : Nat} {spare : Nat → Bool} {held : Bool}
theorem open_agg5 {r : Reach} {b0 : Nat} {t : TypeId} {f0 f1 f2 f3 f4 : Field} {v : Value} {d : DataW H} {p : List MemPlace} (hs : P.underlying t = some (.struct #[f0, f1, f2, f3, f4])) (hone : oneCellFields P #[f0, f1, f2, f3, f4] = true) (hC : P.cellsOf t = 5)
    (hv : Value.okWide P w r b0 t v) (h : DataW.Trod enc P w base spare held t v d p) :
    ∃ (v0 v1 v2 v3 v4 : Value) (y0 y1 y2 y3 y4 : DataW H × List MemPlace) (n : Nat), v = .agg #[v0, v1, v2, v3, v4] ∧ d = .agg [y0.1, y1.1, y2.1, y3.1, y4.1] ∧ p = y0.2 ++ (y1.2 ++ (y2.2 ++ (y3.2 ++ y4.2))) ∧
      DataW.trod enc P w base spare held n f0.type [v0] = some y0 ∧ DataW.trod enc P w base spare held n f1.type [v1] = some y1 ∧ DataW.trod enc P w base spare held n f2.type [v2] = some y2 ∧ DataW.trod enc P w base spare held n f3.type [v3] = some y3 ∧ DataW.trod enc P w base spare held n f4.type [v4] = some y4 := by
  obtain ⟨cs, rfl, hsz⟩ := okWide_struct hs hv
  obtain ⟨l⟩ := cs
  match l, hsz.trans hC with
  | [c0, c1, c2, c3, c4], _ =>
    obtain ⟨fuel, hf⟩ := h
    obtain ⟨xs, n, _, hx, _, hlen, hg⟩ := DataW.trod_struct hs hf
    obtain ⟨o0, k0⟩ := hone_of hone 0 f0 rfl
    obtain ⟨o1, k1⟩ := hone_of hone 1 f1 rfl
    obtain ⟨o2, k2⟩ := hone_of hone 2 f2 rfl
    obtain ⟨o3, k3⟩ := hone_of hone 3 f3 rfl
    obtain ⟨o4, k4⟩ := hone_of hone 4 f4 rfl
    match xs, hlen with
    | [y0, y1, y2, y3, y4], _ =>
      simp only [Prod.mk.injEq] at hx
      exact ⟨c0, c1, c2, c3, c4, y0, y1, y2, y3, y4, n, rfl, by simpa using hx.1, by simpa using hx.2, by simpa [Value.cells, o0, k0] using hg 0 f0 rfl, by simpa [Value.cells, o1, k1] using hg 1 f1 rfl, by simpa [Value.cells, o2, k2] using hg 2 f2 rfl, by simpa [Value.cells, o3, k3] using hg 3 f3 rfl, by simpa [Value.cells, o4, k4] using hg 4 f4 rfl⟩
end
/-- A slice of whole numbers that came in, nil or not, with all its cells up to the capacity. -/
def IsRow (k : IntKind) (w : World) (a : Option Addr) (len cap : Nat) (zs : List Int) : Prop :=
  (a = none ∧ len = 0 ∧ cap = 0 ∧ zs = []) ∨
  ∃ x, a = some x ∧ len ≤ cap ∧ cap ≤ maxLen ∧ zs.length = cap ∧ (∀ i, i < zs.length → w.cell? (x.add i) = some (.int k (zs.getD i 0))) ∧ ∀ n ∈ zs, (Lit.int k n).wf = true
/-- How long it is at most: the row's own reach. -/
theorem reach {H : Type} {enc : TypeId × Value → H} {P : Program} {W : World} {t e : TypeId} {k : IntKind} {a : Option Addr} {len cap B j : Nat} {d : DataW H} {ps : List MemPlace} {ts : List TypeId} {ds : List (DataW H)}
    (hsz : (DataW.weightsEach P ts ds).all (· ≤ reachBytes) = true) (ht : ts[j]? = some t) (hd : ds[j]? = some d) (hu : P.underlying t = some (.slice e)) (he : P.underlying e = some (.int k)) (hc : P.cellsOf e = 1) (hB : P.bytesOf e = B)
    (h : DataW.Trod enc P W 0 (fun _ => true) true t (.slice a len cap) d ps) : len * B ≤ 140737488351232 := by
  obtain ⟨fuel, hf⟩ := h
  rcases open_ints hu he hc hf with ⟨hcs, _⟩ | ⟨x, l, c, zs, hcs, _, hl, _, hz, hx, _, _⟩
  · simp [Value.cells] at hcs
    simp [hcs.2.1]
  · simp [Value.cells] at hcs
    obtain ⟨-, rfl, rfl⟩ := hcs
    obtain ⟨rfl, -⟩ := Prod.mk.inj hx
    have hw := sized_slice hsz ht hd hu
    rw [hB] at hw
    refine Nat.le_trans (Nat.mul_le_mul_right _ ?_) hw
    simp [lits]
    simp at hz
    omega
theorem range_u8 {zs : List Int} (h : ∀ n ∈ zs, (Lit.int .u8 n).wf = true) : ∀ j : Nat, 0 ≤ zs[j]?.getD 0 ∧ zs[j]?.getD 0 ≤ 255 := by
  intro j
  cases hj : zs[j]? with
  | none => simp
  | some x =>
    have hx := h x (List.mem_of_getElem? hj)
    simp only [Lit.wf, IntKind.min, IntKind.max, IntKind.signed, IntKind.bits, Bool.and_eq_true] at hx
    simp only [Option.getD_some]
    simp at hx
    omega
theorem hd_of {w : World} {a : Option Addr} {len cap : Nat} {zs : List Int} (h : IsRow .u8 w a len cap zs) (hl : len * 1 ≤ 140737488351232) : HdOk w a len zs := by
  rcases h with ⟨rfl, rfl, rfl, rfl⟩ | ⟨x, rfl, h1, h2, h3, hc, hwf⟩
  · exact hd_nil w [] rfl
  · refine ⟨by omega, range_u8 hwf, fun h0 => ?_⟩
    obtain ⟨b, off, rfl, hcc⟩ := ints_at hc (by omega)
    refine ⟨b, off, rfl, cell_lt (hcc 0 (by omega)), fun j hj => ?_⟩
    have := hcc j (by omega)
    rwa [List.getD_eq_getElem?_getD] at this

section
variable (t : Pl.T) (f S : Int) (a : Option Addr) (len cap : Nat) (zs : List Int) (w : World)
theorem valid_law (hL : Laid w) : Calls Tryd.prog 8 #[.agg #[.int .i64 t.I, .int .i64 t.B, .int .i64 t.F, .int .i64 t.C, .int .i64 t.S], .int .i64 f] w fun e w' => e = .returned (.bool true) ∧ Below w.heap.size w w' := by
  by_cases h : t.Ok
  · exact valid_law_yes t f w hL h
  · exact valid_law_no t f w hL h
theorem supp_law (hL : Laid w) : Calls Tryd.prog 5 #[.agg #[.int .i64 t.I, .int .i64 t.B, .int .i64 t.F, .int .i64 t.C, .int .i64 t.S], .int .i64 f] w fun e w' => e = .returned (.bool true) ∧ Below w.heap.size w w' := by
  by_cases h : t.Ok
  · by_cases h1 : f < t.B + t.I
    · exact supp_law_early t f w hL h h1
    · by_cases h2 : 0 ≤ f ∧ f ≤ 999999984
      · exact supp_law_late t f w hL h h1 h2
      · exact supp_law_bad t f w hL h h1 (by omega)
  · exact supp_law_no t f w hL h
theorem again_law (hL : Laid w) : Calls Tryd.prog 4 #[.agg #[.int .i64 t.I, .int .i64 t.B, .int .i64 t.F, .int .i64 t.C, .int .i64 t.S]] w fun e w' => e = .returned (.bool true) ∧ Below w.heap.size w w' := by
  by_cases h : TUs t t.B
  · by_cases h1 : t.C ≤ 1
    · exact again_law_yes t w hL h h1
    · exact again_law_many t w hL h (by omega)
  · exact again_law_no t w hL h
theorem reset_law (hL : Laid w) : Calls Tryd.prog 9 #[.agg #[.int .i64 t.I, .int .i64 t.B, .int .i64 t.F, .int .i64 t.C, .int .i64 t.S], .int .i64 f] w fun e w' => e = .returned (.bool true) ∧ Below w.heap.size w w' := by
  by_cases h : TUs t f
  · exact reset_law_yes t f w hL h
  · exact reset_law_no t f w hL h
theorem seldom_law (hr : IsRow .u8 w a len cap zs) (hy : len * 1 ≤ 140737488351232) (hL : Laid w) : Calls Tryd.prog 3 #[.agg #[.int .i64 t.I, .int .i64 t.B, .int .i64 t.F, .int .i64 t.C, .int .i64 t.S], .int .i64 f, .slice a len cap] w fun e w' => e = .returned (.bool true) ∧ Below w.heap.size w w' := by
  by_cases h : TUs t f
  · by_cases h8 : t.I = 8
    · exact seldom_law_yes t f a len cap zs w hL h h8 (hd_of hr hy)
    · exact seldom_law_other t f a len cap w hL h h8
  · exact seldom_law_no t f a len cap w hL h
end
end Go.Proofs.YtomfbadniajnlaaDoor
