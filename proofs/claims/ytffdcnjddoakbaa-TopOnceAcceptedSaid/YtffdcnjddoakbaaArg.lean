/-
  The air that came in: its cells, and how long it is at most. Conditions: none.
-/
import Derived.Test.YtffdcnjddoakbaaTopWords
import Derived.Deep.Slices
import Derived.Deep.Fields
import Derived.ChangeSame
import Derived.OpenShut
import Derived.SizedLaws
namespace Go.Proofs.Ytffdcnjddoakbaa
open Go.RowKit Go.ChangeShapes Go.WideShapes Go.Deep

section
variable {H : Type} {enc : TypeId × Value → H} {P : Program} {w : World} {base : Nat} {spare : Nat → Bool} {held : Bool}
theorem open_slice_fields {t e : TypeId} {fs : Array Field} {fuel : Nat} {cs : List Value} {x : DataW H × List MemPlace} (ht : P.underlying t = some (.slice e)) (he : P.underlying e = some (.struct fs))
    (hone : oneCellFields P fs = true) (hC : P.cellsOf e = fs.size) (h : DataW.trod enc P w base spare held fuel t cs = some x) :
    (cs = [.slice none 0 0] ∧ x = (.nil, [])) ∨
    ∃ (a : Addr) (len cap m : Nat) (D : Nat → DataW H) (Pl : Nat → List MemPlace), cs = [.slice (some a) len cap] ∧ base ≤ a.block ∧ len ≤ cap ∧ cap ≤ maxLen ∧ m = (if spare a.block then cap else len) ∧
      x = (.slice ((List.range len).map D) ((List.range (m - len)).map fun j => D (len + j)), MemPlace.row a (m * fs.size) ++ (List.range m).flatMap Pl) ∧
      ∀ i, i < m → ∃ (ys : List (DataW H × List MemPlace)) (n : Nat), D i = .agg (ys.map (·.1)) ∧ Pl i = ys.flatMap (·.2) ∧ ys.length = fs.size ∧
        ∀ (j : Nat) (f : Field), fs[j]? = some f → ∃ (v : Value) (y : DataW H × List MemPlace), w.cell? (a.add (i * fs.size + j)) = some v ∧ ys[j]? = some y ∧ DataW.trod enc P w base spare held n f.type [v] = some y := by
  rcases open_slice ht h with h0 | ⟨a, len, cap, m, n, D, Pl, hcs, hb, hl, hm, hmm, hx, hi⟩
  · exact .inl h0
  · refine .inr ⟨a, len, cap, m, D, Pl, hcs, hb, hl, hm, hmm, by rw [hC] at hx; exact hx, fun i him => ?_⟩
    obtain ⟨cs', hc, ht'⟩ := hi i him
    rw [hC] at hc
    obtain ⟨ys, n', hn', hy, hlen, hyl, hf⟩ := DataW.trod_struct he ht'
    obtain ⟨_, hcl, hat⟩ := World.cells?_some hc
    simp only [Prod.mk.injEq] at hy
    refine ⟨ys, n', hy.1, hy.2, hyl, fun j f hj => ?_⟩
    obtain ⟨ho, hk⟩ := hone_of hone j f hj
    have hjl : j < fs.size := (Array.getElem?_eq_some_iff.1 hj).1
    have hcell := hat j hjl
    have hv : cs'[j]? = some (cs'[j]'(by omega)) := List.getElem?_eq_getElem (by omega)
    have h1 := hf j f hj
    rw [ho, hk] at h1
    have hone' : (cs'.drop j).take 1 = [cs'[j]'(by omega)] := by
      rw [List.drop_eq_getElem_cons (by omega)]
      rfl
    rw [hone'] at h1
    have hys : ys[j]? = some (ys[j]'(by omega)) := List.getElem?_eq_getElem (by omega)
    refine ⟨_, _, ?_, hys, h1.trans hys⟩
    rw [← Go.Deep.add_add, hcell, hv]
end

theorem byte_wf {n : Int} (h : (Lit.int .u8 n).wf = true) : 0 ≤ n ∧ n ≤ 255 := by
  simp only [Lit.wf, IntKind.min, IntKind.max, IntKind.signed, IntKind.bits, Bool.and_eq_true] at h
  simp at h; omega
theorem arg_rd {H : Type} {enc : TypeId × Value → H} {W : World} {a : Option Addr} {len cap : Nat} {d : DataW H} {ps : List MemPlace}
    (h : DataW.Trod enc Try.prog W 0 (fun _ => true) true 23 (.slice a len cap) d ps) : ∃ L : List Aw, L.length = len ∧ len ≤ cap ∧ Ra W a L := by
  obtain ⟨fuel, hf⟩ := h
  rcases open_slice_fields Try.underlying23 Try.underlying28 (by kernel_rfl) (by kernel_rfl) hf with ⟨hcs, _⟩ | ⟨x, l, c, m, D, Pl', hcs, _, hl, _, hm, _, hi⟩
  · simp [Value.cells] at hcs
    obtain ⟨rfl, rfl, rfl⟩ := hcs
    exact ⟨[], rfl, by omega, fun h0 => by simp at h0⟩
  · simp [Value.cells] at hcs
    obtain ⟨rfl, rfl, rfl⟩ := hcs
    simp only [if_true] at hm
    have hx : ∀ i, ∃ y : Aw, i < len → W.cell? (x.add (i * 5)) = some (.int .u8 y.W) ∧ W.cell? (x.add (i * 5 + 1)) = some (.int .u8 y.F) ∧ W.cell? (x.add (i * 5 + 2)) = some (.bool y.G) ∧ W.cell? (x.add (i * 5 + 3)) = some (.int .u8 y.H) ∧ W.cell? (x.add (i * 5 + 4)) = some (.int .u8 y.O) ∧ y.Ok := by
      intro i
      by_cases hlt : i < len
      · obtain ⟨ys, n, _, _, _, hfj⟩ := hi i (by omega)
        obtain ⟨v0, y0, c0, _, t0⟩ := hfj 0 _ rfl
        obtain ⟨v1, y1, c1, _, t1⟩ := hfj 1 _ rfl
        obtain ⟨v2, y2, c2, _, t2⟩ := hfj 2 _ rfl
        obtain ⟨v3, y3, c3, _, t3⟩ := hfj 3 _ rfl
        obtain ⟨v4, y4, c4, _, t4⟩ := hfj 4 _ rfl
        obtain ⟨b0, e0, _, w0⟩ := DataW.trod_int Try.underlying5 t0
        obtain ⟨b1, e1, _, w1⟩ := DataW.trod_int Try.underlying5 t1
        obtain ⟨b2, e2, _⟩ := DataW.trod_bool Try.underlying4 t2
        obtain ⟨b3, e3, _, w3⟩ := DataW.trod_int Try.underlying5 t3
        obtain ⟨b4, e4, _, w4⟩ := DataW.trod_int Try.underlying5 t4
        simp at e0 e1 e2 e3 e4
        subst e0 e1 e2 e3 e4
        exact ⟨⟨b0, b1, b2, b3, b4⟩, fun _ => ⟨c0, c1, c2, c3, c4, byte_wf w0, byte_wf w1, byte_wf w3, byte_wf w4⟩⟩
      · exact ⟨⟨0, 0, false, 0, 0⟩, fun hh => absurd hh hlt⟩
    obtain ⟨f, hf⟩ := Classical.axiomOfChoice hx
    refine ⟨(List.range len).map f, by simp, hl, fun h0 => ?_⟩
    simp only [List.length_map, List.length_range] at h0 ⊢
    have hg : ∀ i, i < len → ga ((List.range len).map f) i = f i := fun i hi => by
      unfold ga; rw [List.getD_eq_getElem?_getD]; simp [hi]
    obtain ⟨b, off, spot⟩ := x
    have hspot : spot = none := by simpa [Addr.add] using World.cell?_spot (hf 0 h0).1
    subst hspot
    refine ⟨b, off, rfl, ?_, fun i hi => ?_⟩
    · have := cell_lt (hf 0 h0).1; rwa [add3] at this
    · obtain ⟨c0, c1, c2, c3, c4, ok⟩ := hf i hi
      rw [hg i hi]
      rw [add3] at c0 c1 c2 c3 c4
      exact ⟨c0, by rw [Nat.add_assoc]; exact c1, by rw [Nat.add_assoc]; exact c2, by rw [Nat.add_assoc]; exact c3, by rw [Nat.add_assoc]; exact c4, ok⟩
theorem arg_reach {H : Type} {enc : TypeId × Value → H} {W : World} {a : Option Addr} {len cap j : Nat} {d : DataW H} {ps : List MemPlace} {ts : List TypeId} {ds : List (DataW H)}
    (hsz : (DataW.weightsEach Try.prog ts ds).all (· ≤ reachBytes) = true) (ht : ts[j]? = some 23) (hd : ds[j]? = some d)
    (h : DataW.Trod enc Try.prog W 0 (fun _ => true) true 23 (.slice a len cap) d ps) : len ≤ 28147497670246 := by
  obtain ⟨fuel, hf⟩ := h
  rcases open_slice_fields Try.underlying23 Try.underlying28 (by kernel_rfl) (by kernel_rfl) hf with ⟨hcs, _⟩ | ⟨x, l, c, m, D, Pl', hcs, _, hl, _, hm, hx, _⟩
  · simp [Value.cells] at hcs
    simp [hcs.2.1]
  · simp [Value.cells] at hcs
    obtain ⟨-, rfl, rfl⟩ := hcs
    obtain ⟨rfl, -⟩ := Prod.mk.inj hx
    have hw := sized_slice hsz ht hd Try.underlying23
    have hb : Try.prog.bytesOf 28 = 5 := by kernel_rfl
    rw [hb] at hw
    simp only [List.length_map, List.length_range] at hw
    have hr : reachBytes = 140737488351232 := by rfl
    omega
end Go.Proofs.Ytffdcnjddoakbaa
