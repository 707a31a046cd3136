/-
  The law TrickleGrowth: it returns true. Condition: the table of steps reads as its initialiser lays it.
-/
import Derived.Test.YtomfbadniajnlaaDoorAgg
import Derived.Deep.RegionHeld3
namespace Go.Proofs.YtomfbadniajnlaaDoor
open Go.RowKit

theorem hd_zero (w : World) (hd : Option Addr) : HdOk w hd 0 [] := ⟨by omega, fun j => by simp, fun h => by omega⟩

theorem size5 (W : World) : (sizeOf (Tryd.prog.elem 24)).run Tryd.prog W = .ok 1 W := by kernel_rfl
theorem slice_from (hd : Option Addr) (len cap m : Nat) (hm : m ≤ len) (W : World) :
    (Instr.slice 24 (.slice hd len cap) (some (.int .i64 (m : Nat))) none none).run Tryd.prog W = .ok (.slice (if cap = m then hd else hd.map (·.add m)) (len - m) (cap - m)) W := by
  rw [run_slice_l W 24 hd len cap Tryd.underlying24 .i64 m (by omega) (by omega), size5]
  simp [Result.andThen, sliced]
theorem cut_any (hd : Option Addr) (len cap k : Nat) (zs : List Int) (w : World) (hr : IsRow .u8 w hd len cap zs) (hy : len * 1 ≤ 140737488351232) :
    ∃ (m : Nat) (hd' : Option Addr) (len' cap' : Nat) (zs' : List Int), (if ((len : Nat) : Int) < (k : Int) then ((len : Nat) : Int) else (k : Int)) = (m : Int) ∧
      (∀ W, (Instr.slice 24 (.slice hd len cap) (some (.int .i64 (m : Nat))) none none).run Tryd.prog W = .ok (.slice hd' len' cap') W) ∧ HdOk w hd' len' zs' := by
  by_cases hk : k < len
  · refine ⟨k, _, _, _, zs.drop k, by rw [if_neg (by omega)], slice_from hd len cap k (by omega), ?_⟩
    rcases hr with ⟨rfl, rfl, rfl, rfl⟩ | ⟨x, rfl, h1, h2, h3, hc, hwf⟩
    · omega
    · obtain ⟨b, off, rfl, hcc⟩ := ints_at hc (by omega)
      rw [if_neg (by omega)]
      have hz := range_u8 hwf
      refine ⟨by omega, fun j => ?_, fun h0 => ⟨b, off + k, ?_, cell_lt (hcc 0 (by omega)), fun j hj => ?_⟩⟩
      · rw [List.getElem?_drop]; exact hz _
      · simp only [Option.map_some, Addr.add]; split <;> simp_all
      · have := hcc (k + j) (by omega)
        rw [List.getD_eq_getElem?_getD] at this
        rw [List.getElem?_drop, Nat.add_assoc]; exact this
  · exact ⟨len, _, _, _, [], by split <;> omega, slice_from hd len cap len (Nat.le_refl _), by rw [Nat.sub_self]; exact hd_zero _ _⟩

set_option maxHeartbeats 4000000 in
set_option maxRecDepth 100000 in
theorem growth_law_no (t : Pl.T) (f : Int) (hd : Option Addr) (len cap : Nat) (w : World) (hL : Laid w) (hv : ¬ TUs t f) :
    Calls Tryd.prog 6 #[.agg #[.int .i64 t.I, .int .i64 t.B, .int .i64 t.F, .int .i64 t.C, .int .i64 t.S], .int .i64 f, .slice hd len cap] w fun e w' => e = .returned (.bool true) ∧ Below w.heap.size w w' := by
  have k0 := Tm.new w 23 t.I t.B t.F t.C t.S
  have B := B_alloc (Below.refl w.heap.size w) (.cells #[.int .i64 t.I, .int .i64 t.B, .int .i64 t.F, .int .i64 t.C, .int .i64 t.S] 23)
  obtain ⟨k0a, k0b, k0c, k0d, k0e⟩ := Tm.cells k0
  go_enter Tryd.func6, Tryd.ntmps6
  go_wp2_with fail
  refine (head_any _ (hL.below B)).mono ?_
  rintro e w1 ⟨rfl, hb⟩
  clear k0a k0b k0c k0d k0e
  replace k0 := k0.below hb
  replace B := B_trans B hb
  obtain ⟨k0a, k0b, k0c, k0d, k0e⟩ := Tm.cells k0
  go_wp2_with fail
  refine (usable_F t f _ hv).mono ?_
  rintro e w2 ⟨rfl, hb⟩
  replace B := B_trans B hb
  go_wp2_with fail
  go_ret
  exact ⟨ret_bool (by simp), B⟩

/-- What the region's worlds keep: block w.heap.size is the timer x. -/
def Grown5 (w wr W : World) (x : Pl.T) : Prop := Below wr.heap.size wr W ∧ Below w.heap.size w W ∧ Laid W ∧ TmT W w.heap.size x
theorem keep5 {w wr W W' : World} {b : Nat} {x : Pl.T} (h : W.cell? ⟨b, 0, none⟩ = some (.int .i64 x.I) ∧ W.cell? ⟨b, 1, none⟩ = some (.int .i64 x.B) ∧ W.cell? ⟨b, 2, none⟩ = some (.int .i64 x.F) ∧ W.cell? ⟨b, 3, none⟩ = some (.int .i64 x.C) ∧ W.cell? ⟨b, 4, none⟩ = some (.int .i64 x.S) ∧ Grown5 w wr W x) (hb : Below W.heap.size W W') :
    W'.cell? ⟨b, 0, none⟩ = some (.int .i64 x.I) ∧ W'.cell? ⟨b, 1, none⟩ = some (.int .i64 x.B) ∧ W'.cell? ⟨b, 2, none⟩ = some (.int .i64 x.F) ∧ W'.cell? ⟨b, 3, none⟩ = some (.int .i64 x.C) ∧ W'.cell? ⟨b, 4, none⟩ = some (.int .i64 x.S) ∧ Grown5 w wr W' x := by
  have K : ∀ {g o : Nat} {v : Value}, W.cell? ⟨g, o, none⟩ = some v → W'.cell? ⟨g, o, none⟩ = some v := fun {g o v} hc => (hb.cell (p := ⟨g, o, none⟩) (cell_lt hc)).trans hc
  obtain ⟨c0, c1, c2, c3, c4, hg, hB, hL, hT⟩ := h
  exact ⟨K c0, K c1, K c2, K c3, K c4, B_trans hg hb, B_trans hB hb, hL.below hb, Tm.below hT hb⟩
theorem keep5a {w wr W : World} {b : Nat} {x : Pl.T} {o : Obj} (h : W.cell? ⟨b, 0, none⟩ = some (.int .i64 x.I) ∧ W.cell? ⟨b, 1, none⟩ = some (.int .i64 x.B) ∧ W.cell? ⟨b, 2, none⟩ = some (.int .i64 x.F) ∧ W.cell? ⟨b, 3, none⟩ = some (.int .i64 x.C) ∧ W.cell? ⟨b, 4, none⟩ = some (.int .i64 x.S) ∧ Grown5 w wr W x) :
    (W.alloc o).cell? ⟨b, 0, none⟩ = some (.int .i64 x.I) ∧ (W.alloc o).cell? ⟨b, 1, none⟩ = some (.int .i64 x.B) ∧ (W.alloc o).cell? ⟨b, 2, none⟩ = some (.int .i64 x.F) ∧ (W.alloc o).cell? ⟨b, 3, none⟩ = some (.int .i64 x.C) ∧ (W.alloc o).cell? ⟨b, 4, none⟩ = some (.int .i64 x.S) ∧ Grown5 w wr (W.alloc o) x :=
  keep5 h (B_alloc (Below.refl _ _) o)
theorem keep5s {w wr W : World} {x u : Pl.T} (h : W.cell? ⟨w.heap.size, 0, none⟩ = some (.int .i64 x.I) ∧ W.cell? ⟨w.heap.size, 1, none⟩ = some (.int .i64 x.B) ∧ W.cell? ⟨w.heap.size, 2, none⟩ = some (.int .i64 x.F) ∧ W.cell? ⟨w.heap.size, 3, none⟩ = some (.int .i64 x.C) ∧ W.cell? ⟨w.heap.size, 4, none⟩ = some (.int .i64 x.S) ∧ Grown5 w wr W x) (hlt : w.heap.size < wr.heap.size) :
    (((((W.setCell ⟨wr.heap.size, 0, none⟩ (.int .i64 u.I)).setCell ⟨wr.heap.size, 1, none⟩ (.int .i64 u.B)).setCell ⟨wr.heap.size, 2, none⟩ (.int .i64 u.F)).setCell ⟨wr.heap.size, 3, none⟩ (.int .i64 u.C)).setCell ⟨wr.heap.size, 4, none⟩ (.int .i64 u.S)).cell? ⟨w.heap.size, 0, none⟩ = some (.int .i64 x.I) ∧ (((((W.setCell ⟨wr.heap.size, 0, none⟩ (.int .i64 u.I)).setCell ⟨wr.heap.size, 1, none⟩ (.int .i64 u.B)).setCell ⟨wr.heap.size, 2, none⟩ (.int .i64 u.F)).setCell ⟨wr.heap.size, 3, none⟩ (.int .i64 u.C)).setCell ⟨wr.heap.size, 4, none⟩ (.int .i64 u.S)).cell? ⟨w.heap.size, 1, none⟩ = some (.int .i64 x.B) ∧ (((((W.setCell ⟨wr.heap.size, 0, none⟩ (.int .i64 u.I)).setCell ⟨wr.heap.size, 1, none⟩ (.int .i64 u.B)).setCell ⟨wr.heap.size, 2, none⟩ (.int .i64 u.F)).setCell ⟨wr.heap.size, 3, none⟩ (.int .i64 u.C)).setCell ⟨wr.heap.size, 4, none⟩ (.int .i64 u.S)).cell? ⟨w.heap.size, 2, none⟩ = some (.int .i64 x.F) ∧ (((((W.setCell ⟨wr.heap.size, 0, none⟩ (.int .i64 u.I)).setCell ⟨wr.heap.size, 1, none⟩ (.int .i64 u.B)).setCell ⟨wr.heap.size, 2, none⟩ (.int .i64 u.F)).setCell ⟨wr.heap.size, 3, none⟩ (.int .i64 u.C)).setCell ⟨wr.heap.size, 4, none⟩ (.int .i64 u.S)).cell? ⟨w.heap.size, 3, none⟩ = some (.int .i64 x.C) ∧ (((((W.setCell ⟨wr.heap.size, 0, none⟩ (.int .i64 u.I)).setCell ⟨wr.heap.size, 1, none⟩ (.int .i64 u.B)).setCell ⟨wr.heap.size, 2, none⟩ (.int .i64 u.F)).setCell ⟨wr.heap.size, 3, none⟩ (.int .i64 u.C)).setCell ⟨wr.heap.size, 4, none⟩ (.int .i64 u.S)).cell? ⟨w.heap.size, 4, none⟩ = some (.int .i64 x.S) ∧ Grown5 w wr (((((W.setCell ⟨wr.heap.size, 0, none⟩ (.int .i64 u.I)).setCell ⟨wr.heap.size, 1, none⟩ (.int .i64 u.B)).setCell ⟨wr.heap.size, 2, none⟩ (.int .i64 u.F)).setCell ⟨wr.heap.size, 3, none⟩ (.int .i64 u.C)).setCell ⟨wr.heap.size, 4, none⟩ (.int .i64 u.S)) x := by
  obtain ⟨_, _, _, _, _, hg, hB, hL, hT⟩ := h
  have hT2 : TmT (((((W.setCell ⟨wr.heap.size, 0, none⟩ (.int .i64 u.I)).setCell ⟨wr.heap.size, 1, none⟩ (.int .i64 u.B)).setCell ⟨wr.heap.size, 2, none⟩ (.int .i64 u.F)).setCell ⟨wr.heap.size, 3, none⟩ (.int .i64 u.C)).setCell ⟨wr.heap.size, 4, none⟩ (.int .i64 u.S)) w.heap.size x := TmT.far hT (b := wr.heap.size) (by omega) u
  obtain ⟨c0, c1, c2, c3, c4⟩ := Tm.cells hT2
  have hg2 : Below wr.heap.size wr (((((W.setCell ⟨wr.heap.size, 0, none⟩ (.int .i64 u.I)).setCell ⟨wr.heap.size, 1, none⟩ (.int .i64 u.B)).setCell ⟨wr.heap.size, 2, none⟩ (.int .i64 u.F)).setCell ⟨wr.heap.size, 3, none⟩ (.int .i64 u.C)).setCell ⟨wr.heap.size, 4, none⟩ (.int .i64 u.S)) := below_put hg (Nat.le_refl _) u
  have hB2 : Below w.heap.size w (((((W.setCell ⟨wr.heap.size, 0, none⟩ (.int .i64 u.I)).setCell ⟨wr.heap.size, 1, none⟩ (.int .i64 u.B)).setCell ⟨wr.heap.size, 2, none⟩ (.int .i64 u.F)).setCell ⟨wr.heap.size, 3, none⟩ (.int .i64 u.C)).setCell ⟨wr.heap.size, 4, none⟩ (.int .i64 u.S)) := below_put hB (Nat.le_of_lt hlt) u
  exact ⟨c0, c1, c2, c3, c4, hg2, hB2, hL.upto (below_put (Below.refl wr.heap.size W) (Nat.le_refl _) u) (by omega), hT2⟩
theorem below5 {w wr W : World} {b : Nat} {x : Pl.T} (h : W.cell? ⟨b, 0, none⟩ = some (.int .i64 x.I) ∧ W.cell? ⟨b, 1, none⟩ = some (.int .i64 x.B) ∧ W.cell? ⟨b, 2, none⟩ = some (.int .i64 x.F) ∧ W.cell? ⟨b, 3, none⟩ = some (.int .i64 x.C) ∧ W.cell? ⟨b, 4, none⟩ = some (.int .i64 x.S) ∧ Grown5 w wr W x) : Below w.heap.size w W := h.2.2.2.2.2.2.1
theorem end5 {w wr W : World} {b : Nat} {x : Pl.T} (h : W.cell? ⟨b, 0, none⟩ = some (.int .i64 x.I) ∧ W.cell? ⟨b, 1, none⟩ = some (.int .i64 x.B) ∧ W.cell? ⟨b, 2, none⟩ = some (.int .i64 x.F) ∧ W.cell? ⟨b, 3, none⟩ = some (.int .i64 x.C) ∧ W.cell? ⟨b, 4, none⟩ = some (.int .i64 x.S) ∧ Grown5 w wr W x) : Grown5 w wr W x := h.2.2.2.2.2
theorem laid5 {w wr W : World} {b : Nat} {x : Pl.T} (h : W.cell? ⟨b, 0, none⟩ = some (.int .i64 x.I) ∧ W.cell? ⟨b, 1, none⟩ = some (.int .i64 x.B) ∧ W.cell? ⟨b, 2, none⟩ = some (.int .i64 x.F) ∧ W.cell? ⟨b, 3, none⟩ = some (.int .i64 x.C) ∧ W.cell? ⟨b, 4, none⟩ = some (.int .i64 x.S) ∧ Grown5 w wr W x) : Laid W := h.2.2.2.2.2.2.2.1
def Spoke1 (w : World) (u : Pl.T) (e : Ending) (w' : World) : Prop := ∃ v, e = .returned (.tuple #[v, .agg #[.int .i64 u.I, .int .i64 u.B, .int .i64 u.F, .int .i64 u.C, .int .i64 u.S]]) ∧ Below w.heap.size w w'
theorem speak1 (t u : Pl.T) (f : Int) (hd : Option Addr) (len cap : Nat) (zs : List Int) (w : World) (hL : Laid w) (hf0 : 0 ≤ f) (hf1 : f ≤ 900000100) (hH : HdOk w hd len zs) (hu : Pl.tickT (Pl.hearN (Pl.hc zs len 0) t) f = u) :
    Calls Tryd.prog 12 #[.agg #[.int .i64 t.I, .int .i64 t.B, .int .i64 t.F, .int .i64 t.C, .int .i64 t.S], .int .i64 f, .int .i64 1, .slice hd len cap] w (Spoke1 w u) := by
  refine (speak_any t f 1 hd len cap zs w hL hf0 hf1 (by omega) hH).mono ?_
  rintro e w' ⟨v, u', h1, h2, _, hb⟩
  have e1 : u' = u := by
    rw [← h1, ← hu]
    show Pl.tickT (Pl.hearN (Pl.hc zs len 0) t) (f + ((0 : Nat) : Int)) = _
    rw [Int.natCast_zero, Int.add_zero]
  subst e1
  exact ⟨v, h2, hb⟩

set_option maxHeartbeats 8000000 in
set_option maxRecDepth 100000 in
theorem growth_law_yes (t : Pl.T) (f : Int) (hd : Option Addr) (len cap : Nat) (zs : List Int) (w : World) (hL : Laid w) (hv : TUs t f) (hr : IsRow .u8 w hd len cap zs) (hy : len * 1 ≤ 140737488351232) :
    Calls Tryd.prog 6 #[.agg #[.int .i64 t.I, .int .i64 t.B, .int .i64 t.F, .int .i64 t.C, .int .i64 t.S], .int .i64 f, .slice hd len cap] w fun e w' => e = .returned (.bool true) ∧ Below w.heap.size w w' := by
  obtain ⟨ho, hv1, hv2, hv3⟩ := hv.tick
  have f0 : 0 ≤ f := by have := ho; unfold Pl.T.Ok Pl.Ok at this; omega
  have k0 : TmT _ w.heap.size t := Tm.new w 23 t.I t.B t.F t.C t.S
  have B := B_alloc (Below.refl w.heap.size w) (.cells #[.int .i64 t.I, .int .i64 t.B, .int .i64 t.F, .int .i64 t.C, .int .i64 t.S] 23)
  obtain ⟨k0a, k0b, k0c, k0d, k0e⟩ := Tm.cells k0
  go_enter Tryd.func6, Tryd.ntmps6
  go_wp2_with fail
  refine (head_any _ (hL.below B)).mono ?_
  rintro e w1 ⟨rfl, hb⟩
  clear k0a k0b k0c k0d k0e
  replace k0 := Tm.below k0 hb
  replace B := B_trans B hb
  obtain ⟨k0a, k0b, k0c, k0d, k0e⟩ := Tm.cells k0
  go_wp2_with fail
  refine (usable_T t f _ hv).mono ?_
  rintro e w2 ⟨rfl, hb⟩
  clear k0a k0b k0c k0d k0e
  replace k0 := Tm.below k0 hb
  replace B := B_trans B hb
  go_wp2_with fail
  have hG := Pl.grow_start ho hv1 hv2
  go_loopw [7, 9] (fun up i wr => ∃ k : Nat, k ≤ 40 ∧ i = .int .i64 (k : Nat) ∧ up = .bool true ∧ (∃ x : Pl.T, TmT wr w.heap.size x ∧ Pl.Grow x f k) ∧ Below w.heap.size w wr)
    (fun _ i _ => 40 - (intOf i).toNat)
  case atStart => exact ⟨0, by omega, rfl, rfl, ⟨t, k0, hG⟩, B⟩
  case round =>
    clear k0 hG B
    obtain ⟨k, hk, rfl, rfl, ⟨x, k0, hG⟩, B⟩ := hrel
    obtain ⟨k0a, k0b, k0c, k0d, k0e⟩ := Tm.cells k0
    have hS0 : wr.drew.cell? ⟨w.heap.size, 0, none⟩ = some (.int .i64 x.I) ∧ wr.drew.cell? ⟨w.heap.size, 1, none⟩ = some (.int .i64 x.B) ∧ wr.drew.cell? ⟨w.heap.size, 2, none⟩ = some (.int .i64 x.F) ∧ wr.drew.cell? ⟨w.heap.size, 3, none⟩ = some (.int .i64 x.C) ∧ wr.drew.cell? ⟨w.heap.size, 4, none⟩ = some (.int .i64 x.S) ∧ Grown5 w wr wr.drew x :=
      ⟨k0a, k0b, k0c, k0d, k0e, (Below.refl _ _).drew, B.drew, hL.below B.drew, k0⟩
    by_cases hk2 : k < 40
    · have hkk : (k : Int) < 40 := by omega
      obtain ⟨m, hd', len', cap', zs', hmn, hsl, hH⟩ := cut_any hd len cap k zs w hr hy
      obtain ⟨n, hn⟩ : ∃ n, Pl.hc zs' len' 0 = n := ⟨_, rfl⟩
      obtain ⟨u, hu⟩ : ∃ u, Pl.tickT (Pl.hearN (Pl.hc zs' len' 0) x) (f + (k : Nat)) = u := ⟨_, rfl⟩
      have hgs := Pl.grow_step (Pl.hc zs' len' 0) hG hv3 (by omega)
      rw [hu] at hgs
      obtain ⟨hG2, hI, hBB, h78⟩ := hgs
      have hxo := hG.1
      have xI1 : 1 ≤ x.I := by unfold Pl.T.Ok Pl.Ok at hxo; omega
      have xI2 : x.I ≤ 8 := by unfold Pl.T.Ok Pl.Ok at hxo; omega
      have xB1 : 0 ≤ x.B := by unfold Pl.T.Ok Pl.Ok at hxo; omega
      have xB2 : x.B ≤ 999999984 := by unfold Pl.T.Ok Pl.Ok at hxo; omega
      have hBB' : ((u.B == x.B) = true ∧ 0 ≤ 0) ∨ ((u.B == x.B) = false ∧ (u.B == x.B + x.I) = true ∧ (u.B == f + (k : Int)) = true) := by
        rcases hBB with h | ⟨h1, h2⟩
        · exact .inl ⟨by simpa using h, by omega⟩
        · exact .inr ⟨by simp; omega, by simpa using h1, by simpa using h2⟩
      have h78' : (k : Int) < 7 ∨ (¬ (k : Int) < 7 ∧ (u.I == 8) = true) := by
        by_cases h : (k : Int) < 7
        · exact .inl h
        · exact .inr ⟨h, by simp; omega⟩
      clear hBB h78 hxo
      have hBB := hBB'
      have h78 := h78'
      clear hBB' h78'
      have HU := Lib.hid hu
      have HG2 := Lib.hid hG2
      clear hu hn n hG hG2
      have hlt := k0.lt
      have hS1 := Lib.hid (keep5 (W := wr) (w := w) (wr := wr) (b := w.heap.size) (x := x) ⟨k0a, k0b, k0c, k0d, k0e, Below.refl _ _, B, hL.below B, k0⟩ ((B_alloc (Below.refl wr.heap.size wr) (.cells #[.int .i64 0, .int .i64 0, .int .i64 0, .int .i64 0, .int .i64 0] 23)).drew))
      have hmn2 : (if len < k then ((len : Nat) : Int) else (k : Int)) = (m : Int) := by rw [← hmn]; simp only [Int.ofNat_lt]
      have hmn3 : ∀ (ts : Array TypeId) (ty : TypeId) (W : World), (Builtin.min_ ts ty #[.int .i64 (k : Int), .int .i64 (len : Int)]).run Tryd.prog W = .ok (.int .i64 (m : Int)) W := fun ts ty W => by rw [run_min_int2, hmn]
      have hsl2 : ∀ W : World, (Instr.sliceAt 24 (.slice hd len cap) (some (.int .i64 (m : Nat))) none none).run Tryd.prog W = .ok (.slice hd' len' cap') W := fun W => by rw [run_sliceAt_slice W _ _ _ _ _ Tryd.underlying24]; exact hsl W
      have hfk0 : 0 ≤ f + (k : Int) := by omega
      have hfk1 : f + (k : Int) ≤ 900000100 := by omega
      have wk : IntKind.i64.wrap (f + (k : Int)) = f + (k : Int) := by rw [IntKind.wrap_i64]; omega
      go_wp2_with fail
      go_region_held3 (fun W => W.cell? ⟨w.heap.size, 0, none⟩ = some (.int .i64 x.I) ∧ W.cell? ⟨w.heap.size, 1, none⟩ = some (.int .i64 x.B) ∧ W.cell? ⟨w.heap.size, 2, none⟩ = some (.int .i64 x.F) ∧ W.cell? ⟨w.heap.size, 3, none⟩ = some (.int .i64 x.C) ∧ W.cell? ⟨w.heap.size, 4, none⟩ = some (.int .i64 x.S) ∧ Grown5 w wr W x)
        (first | (with_reducible assumption) | (with_reducible exact hS0) | ((with_reducible refine keep5 ?_ hb'); with_reducible assumption) | ((with_reducible refine keep5a ?_); with_reducible assumption) | (with_reducible exact hS1.out) | (with_reducible exact keep5a hK.out) | (with_reducible exact keep5s hK.out hlt))
        (first
          | (go_at_call 12; refine (speak1 x u (f + (k : Nat)) _ _ _ _ _ (laid5 (by assumption)) hfk0 hfk1 (hH.below (below5 (by assumption))) HU.out).mono ?_; rintro e w' ⟨v, rfl, hb'⟩; have hbc := bcell hb'; have hK := Lib.hid (keep5 (by assumption) hb')))
      all_goals
        have hEnd : Grown5 w wr _ x := end5 (by assumption)
        obtain ⟨-, B2, -, kx⟩ := hEnd
        have klt := kx.lt
        obtain ⟨-, fz0, fz1, fz2, fz3, fz4⟩ := Tm.all kx
        rcases hBB with ⟨b1, b2⟩ | ⟨b1, b2, b3⟩ <;> rcases h78 with h7 | ⟨h7, h8⟩
      all_goals
        go_wp2_with fail
        go_roundw
        case rel => exact ⟨k + 1, by omega, by go_num, by simp, ⟨u, TmT.put kx u, HG2.out⟩, below_put B2 (Nat.le_refl _) u⟩
        all_goals first | (simp [intOf]; done) | (simp [intOf]; omega)
    · obtain rfl : k = 40 := by omega
      go_wp2_with fail
      go_ret
      exact ⟨ret_bool (by simp), B⟩
theorem growth_law (t : Pl.T) (f : Int) (a : Option Addr) (len cap : Nat) (zs : List Int) (w : World) (hr : IsRow .u8 w a len cap zs) (hy : len * 1 ≤ 140737488351232) (hL : Laid w) :
    Calls Tryd.prog 6 #[.agg #[.int .i64 t.I, .int .i64 t.B, .int .i64 t.F, .int .i64 t.C, .int .i64 t.S], .int .i64 f, .slice a len cap] w fun e w' => e = .returned (.bool true) ∧ Below w.heap.size w w' := by
  by_cases h : TUs t f
  · exact growth_law_yes t f a len cap zs w hL h hr hy
  · exact growth_law_no t f a len cap w hL h
end Go.Proofs.YtomfbadniajnlaaDoor
