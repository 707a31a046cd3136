/-
  slotmeshlaw37.speaking: in which frames a node speaks, and the timer afterwards. Condition: the table of steps reads as its initialiser lays it.
-/
import Derived.Test.YtomfbadniajnlaaDoorHead
import Derived.Maps.AppendAt
namespace Go.Proofs.YtomfbadniajnlaaDoor
open Go.RowKit

theorem Tm.set4 {W : World} {b : Nat} {t : TypeId} {I B F C S : Int} (h : Tm W b t I B F C S) (x : Int) : Tm (W.setCell ⟨b, 4, none⟩ (.int .i64 x)) b t I B F C x := by
  have := Joins.block_setCell (w := W) (i := 4) h (.int .i64 x); simpa [Tm] using this
/-- Block b is the timer t. -/
def TmT (W : World) (b : Nat) (t : Pl.T) : Prop := Tm W b 23 t.I t.B t.F t.C t.S
def put5 (W : World) (b : Nat) (t : Pl.T) : World := ((((W.setCell ⟨b, 0, none⟩ (.int .i64 t.I)).setCell ⟨b, 1, none⟩ (.int .i64 t.B)).setCell ⟨b, 2, none⟩ (.int .i64 t.F)).setCell ⟨b, 3, none⟩ (.int .i64 t.C)).setCell ⟨b, 4, none⟩ (.int .i64 t.S)
theorem TmT.put {W : World} {b : Nat} {t : Pl.T} (h : TmT W b t) (u : Pl.T) : TmT (put5 W b u) b u := ((((Tm.set0 h u.I).set1 u.B).set2 u.F).set3 u.C).set4 u.S
theorem TmT.far {W : World} {b g : Nat} {t : Pl.T} (h : TmT W g t) (hne : g ≠ b) (u : Pl.T) : TmT (put5 W b u) g t := by
  have e : (put5 W b u).heap[g]? = W.heap[g]? := by
    unfold put5
    rw [Below.heap_setCell _ _ _ _ hne, Below.heap_setCell _ _ _ _ hne, Below.heap_setCell _ _ _ _ hne, Below.heap_setCell _ _ _ _ hne, Below.heap_setCell _ _ _ _ hne]
  exact e.trans h
theorem below_put {W W' : World} {n b : Nat} (h : Below n W W') (hb : n ≤ b) (u : Pl.T) : Below n W (put5 W' b u) := ((((h.setCell hb _).setCell hb _).setCell hb _).setCell hb _).setCell hb _
theorem own_put {W : World} {base b : Nat} {e : TypeId} {size n : Nat} {v : Value} {xs : List Value} (h : W.ownsRow base e size v n xs) (hb : b < base) (u : Pl.T) : (put5 W b u).ownsRow base e size v n xs :=
  ownsRow_setCell_below (ownsRow_setCell_below (ownsRow_setCell_below (ownsRow_setCell_below (ownsRow_setCell_below h hb _) hb _) hb _) hb _) hb _
theorem own_below {W W' : World} {base : Nat} {e : TypeId} {size n : Nat} {v : Value} {xs : List Value} (h : W.ownsRow base e size v n xs) (hb : Below W.heap.size W W') : W'.ownsRow base e size v n xs :=
  h.kept (row := none) ⟨hb.os, hb.tape, hb.output, hb.size, fun i hi _ => hb.block i hi⟩ (by cases hv : v.ownBlock <;> simp)

theorem own_mono {w : World} {base base' : Nat} {e : TypeId} {size : Nat} {v : Value} {n : Nat} {xs : List Value} (h : w.ownsRow base e size v n xs) (hb : base' ≤ base) : w.ownsRow base' e size v n xs := by
  refine ⟨h.1, ?_⟩
  rcases h.2 with hn | ⟨g, cap, cur, h1, h2, rest⟩
  · exact .inl hn
  · exact .inr ⟨g, cap, cur, h1, by omega, rest⟩
theorem size_put (W : World) (b : Nat) (u : Pl.T) : (put5 W b u).heap.size = W.heap.size := by simp [put5, World.setCell]
theorem new_at (w1 : World) (b : Nat) (u : Pl.T) (C : Obj) (s : Bool) : ∀ j x, [Value.bool s][j]? = some x → (((put5 w1 b u).alloc C).alloc (.cells #[.bool s] 4)).cell? ((⟨w1.heap.size + 1, 0, none⟩ : Addr).add j) = some x := by
  have := cell_one_new ((put5 w1 b u).alloc C) (.bool s) 4
  rwa [World.size_alloc, size_put] at this

theorem hear_T (t u : Pl.T) (w : World) (h : Pl.hear t = u) :
    Calls Tryd.prog 15 #[.agg #[.int .i64 t.I, .int .i64 t.B, .int .i64 t.F, .int .i64 t.C, .int .i64 t.S]] w fun e w' => e = .returned (.agg #[.int .i64 u.I, .int .i64 u.B, .int .i64 u.F, .int .i64 u.C, .int .i64 u.S]) ∧ Below w.heap.size w w' := by
  subst h; exact hear_any t.I t.B t.F t.C t.S w
theorem tick_T (t u : Pl.T) (s : Bool) (f : Int) (w : World) (hL : Laid w) (h : Pl.tickT t f = u) (h2 : Pl.tickB t f = s) :
    Calls Tryd.prog 14 #[.agg #[.int .i64 t.I, .int .i64 t.B, .int .i64 t.F, .int .i64 t.C, .int .i64 t.S], .int .i64 f] w fun e w' => e = .returned (.tuple #[.agg #[.int .i64 u.I, .int .i64 u.B, .int .i64 u.F, .int .i64 u.C, .int .i64 u.S], .bool s]) ∧ Below w.heap.size w w' := by
  subst h h2; exact tick_any t f w hL

/-- The slice of numbers that others are heard by. -/
def HdOk (w : World) (hd : Option Addr) (len : Nat) (zs : List Int) : Prop :=
  len ≤ 140737488351232 ∧ (∀ j : Nat, 0 ≤ zs[j]?.getD 0 ∧ zs[j]?.getD 0 ≤ 255) ∧ (0 < len → ∃ b off, hd = some ⟨b, off, none⟩ ∧ b < w.heap.size ∧ ∀ j, j < len → w.cell? ⟨b, off + j, none⟩ = some (.int .u8 (zs[j]?.getD 0)))
def Pl.hc (zs : List Int) (len i : Nat) : Nat := if i < len then ((zs[i]?.getD 0) % 4).toNat else 0
def saidL (h : Nat → Nat) (t : Pl.T) (f : Int) (n : Nat) : List Value := (List.range n).map fun j => .bool (Pl.said h t f j)
theorem saidL_succ (h : Nat → Nat) (t : Pl.T) (f : Int) (n : Nat) : saidL h t f (n + 1) = saidL h t f n ++ [.bool (Pl.said h t f n)] := by simp [saidL, List.range_succ]
def Spoke (w : World) (h : Nat → Nat) (t : Pl.T) (f : Int) (n : Nat) (e : Ending) (w' : World) : Prop :=
  ∃ v u, Pl.run h t f n = u ∧ e = .returned (.tuple #[v, .agg #[.int .i64 u.I, .int .i64 u.B, .int .i64 u.F, .int .i64 u.C, .int .i64 u.S]]) ∧ w'.ownsRow w.heap.size 4 1 v n (saidL h t f n) ∧ Below w.heap.size w w'

theorem info4 : (Tryd.prog.info? 4).map (fun i => (i.zero, i.size, i.bytes)) = some (some (.bool false), 1, 1) := by kernel_rfl

set_option maxHeartbeats 8000000 in
set_option maxRecDepth 100000 in
theorem speak_any (t : Pl.T) (f : Int) (N : Nat) (hd : Option Addr) (len cap : Nat) (zs : List Int) (w : World) (hL : Laid w) (hf0 : 0 ≤ f) (hf1 : f ≤ 900000100) (hN : N ≤ 100) (hH : HdOk w hd len zs) :
    Calls Tryd.prog 12 #[.agg #[.int .i64 t.I, .int .i64 t.B, .int .i64 t.F, .int .i64 t.C, .int .i64 t.S], .int .i64 f, .int .i64 (N : Nat), .slice hd len cap] w (Spoke w (Pl.hc zs len) t f N) := by
  obtain ⟨hlen, hz, hcell⟩ := hH
  obtain ⟨i0, hi, hz0, hz1, hz2⟩ := info_parts info4
  have T0 : TmT ((w.alloc (.cells #[.int .i64 t.I, .int .i64 t.B, .int .i64 t.F, .int .i64 t.C, .int .i64 t.S] 23)).alloc (.cells #[.int .i64 0, .int .i64 0, .int .i64 0, .int .i64 0, .int .i64 0] 23)) w.heap.size t :=
    (Tm.new w 23 t.I t.B t.F t.C t.S).below (B_alloc (Below.refl _ _) _)
  have T1 : TmT ((w.alloc (.cells #[.int .i64 t.I, .int .i64 t.B, .int .i64 t.F, .int .i64 t.C, .int .i64 t.S] 23)).alloc (.cells #[.int .i64 0, .int .i64 0, .int .i64 0, .int .i64 0, .int .i64 0] 23)) (w.heap.size + 1) ⟨0, 0, 0, 0, 0⟩ := by
    have := Tm.new (w.alloc (.cells #[.int .i64 t.I, .int .i64 t.B, .int .i64 t.F, .int .i64 t.C, .int .i64 t.S] 23)) 23 0 0 0 0 0
    rwa [World.size_alloc] at this
  have B0 : Below w.heap.size w ((w.alloc (.cells #[.int .i64 t.I, .int .i64 t.B, .int .i64 t.F, .int .i64 t.C, .int .i64 t.S] 23)).alloc (.cells #[.int .i64 0, .int .i64 0, .int .i64 0, .int .i64 0, .int .i64 0] 23)) := B_alloc (B_alloc (Below.refl _ _) _) _
  go_enter Tryd.func12, Tryd.ntmps12
  go_wp2_with fail
  go_loopw [10, 11] (fun v i wr => ∃ k : Nat, k ≤ N ∧ i = .int .i64 (k : Nat) ∧ TmT wr w.heap.size (Pl.run (Pl.hc zs len) t f k) ∧ TmT wr (w.heap.size + 1) ⟨0, 0, 0, 0, 0⟩ ∧ wr.ownsRow (w.heap.size + 2) 4 1 v k (saidL (Pl.hc zs len) t f k) ∧ Below w.heap.size w wr)
    (fun _ i _ => N - (intOf i).toNat)
  case atStart => exact ⟨0, by omega, rfl, T0, T1, World.ownsRow_nil _ _ _ _, B0⟩
  case round =>
    clear T0 T1 B0
    obtain ⟨k, hk, rfl, T0, T1, hown, hB⟩ := hrel
    by_cases hkN : k < N
    · obtain ⟨x, hx⟩ : ∃ x, Pl.run (Pl.hc zs len) t f k = x := ⟨_, rfl⟩
      rw [hx] at T0
      have HX := Lib.hid hx
      clear hx
      have hk100 : decide ((k : Int) < 100) = true := by simp; omega
      by_cases hkl : k < len
      · obtain ⟨b, off, rfl, hb, hcl⟩ := hcell (by omega)
        have hck := hcl k hkl
        have hzk := hz k
        have hn : Pl.hc zs len k = ((zs[k]?.getD 0) % 4).toNat := if_pos hkl
        generalize zs[k]?.getD 0 = z at hck hzk hn
        obtain ⟨n, hn2⟩ : ∃ n : Nat, (z % 4).toNat = n := ⟨_, rfl⟩
        rw [hn2] at hn
        have hn3 : (z % 4) = (n : Int) := by omega
        have hn4 : n < 4 := by omega
        have hz8 : 0 ≤ z := hzk.1
        have hz9 : z ≤ 255 := hzk.2
        have H0 := Lib.hid hn
        have H3 := Lib.hid hn3
        clear hn hn2 hzk hn3 hz hcl hcell
        go_wp2_with fail
        obtain ⟨wo, rfl⟩ : ∃ wo : World, wo = wr := ⟨_, rfl⟩
        go_loopw [12] (fun kk wr => ∃ m : Nat, m ≤ n ∧ kk = .int .i64 (m : Nat) ∧ TmT wr w.heap.size (Pl.hearN m x) ∧ TmT wr (w.heap.size + 1) ⟨0, 0, 0, 0, 0⟩ ∧ wr.ownsRow (w.heap.size + 2) 4 1 u10 k (saidL (Pl.hc zs len) t f k) ∧ Below w.heap.size w wr)
          (fun i _ => n - (intOf i).toNat)
        case atStart => exact ⟨0, by omega, rfl, T0, T1, hown, hB⟩
        clear T0 T1 hown hB
        obtain ⟨m, hm, rfl, T0, T1, hown, hB⟩ := hrel
        have hcx := (hB.cell (p := ⟨b, off + k, none⟩) hb).trans hck
        clear hck
        by_cases hmn : m < n
        · have hlt : (m : Int) < z % 4 := by rw [H3.out]; omega
          obtain ⟨y, hy⟩ : ∃ y, Pl.hearN m x = y := ⟨_, rfl⟩
          rw [hy] at T0
          obtain ⟨u, hu⟩ : ∃ u, Pl.hear y = u := ⟨_, rfl⟩
          have HY := Lib.hid hy
          have HU := Lib.hid hu
          clear hu hy
          obtain ⟨⟨c0, c1, c2, c3, c4⟩, f0, f1, f2, f3, f4⟩ := Tm.all T0
          go_wp2_with fail
          refine (hear_T y u _ HU.out).mono ?_
          rintro e w1 ⟨rfl, hb1⟩
          clear c0 c1 c2 c3 c4 f0 f1 f2 f3 f4
          replace T0 := Tm.below T0 hb1
          replace T1 := Tm.below T1 hb1
          replace hown := own_below hown hb1
          replace hB := B_trans hB hb1
          obtain ⟨⟨c0, c1, c2, c3, c4⟩, f0, f1, f2, f3, f4⟩ := Tm.all T0
          go_wp2_with fail
          have T0P := TmT.put (u := u) T0
          have T1P := TmT.far (t := ⟨0, 0, 0, 0, 0⟩) T1 (b := w.heap.size) (by omega) u
          have hownP := own_put hown (b := w.heap.size) (by omega) u
          have BP := below_put hB (Nat.le_refl _) u
          have hrun : Pl.hearN (m + 1) x = u := by rw [Pl.hearN, HY.out, HU.out]
          have HR := Lib.hid hrun
          clear hrun
          go_roundw
          case rel => exact ⟨m + 1, by omega, by go_num, by rw [HR.out]; exact T0P, T1P, hownP, BP⟩
          all_goals first | (simp [intOf]; done) | (simp [intOf]; omega)
        obtain rfl : m = n := by omega
        have hge : ¬ (m : Int) < z % 4 := by rw [H3.out]; omega
        obtain ⟨y, hy⟩ : ∃ y, Pl.hearN m x = y := ⟨_, rfl⟩
        rw [hy] at T0
        obtain ⟨u, hu⟩ : ∃ u, Pl.tickT y (f + (k : Nat)) = u := ⟨_, rfl⟩
        obtain ⟨s, hs⟩ : ∃ s, Pl.tickB y (f + (k : Nat)) = s := ⟨_, rfl⟩
        have HY := Lib.hid hy
        have HU := Lib.hid hu
        have HS := Lib.hid hs
        clear hu hs hy
        obtain ⟨⟨c0, c1, c2, c3, c4⟩, f0, f1, f2, f3, f4⟩ := Tm.all T0
        go_wp2_with fail
        refine (tick_T y u s _ _ (hL.below hB) HU.out HS.out).mono ?_
        rintro e w1 ⟨rfl, hb1⟩
        clear c0 c1 c2 c3 c4 f0 f1 f2 f3 f4
        replace T0 := Tm.below T0 hb1
        replace T1 := Tm.below T1 hb1
        replace hown := own_below hown hb1
        replace hB := B_trans hB hb1
        have lt1 := T1.lt
        have lt0 := T0.lt
        obtain ⟨⟨c0, c1, c2, c3, c4⟩, f0, f1, f2, f3, f4⟩ := Tm.all T0
        have hownP : (((put5 w1 w.heap.size u).alloc (.cells #[.int .i64 u.I, .int .i64 u.B, .int .i64 u.F, .int .i64 u.C, .int .i64 u.S] 23)).alloc (.cells #[.bool s] 4)).ownsRow (w.heap.size + 2) 4 1 u10 k (saidL (Pl.hc zs len) t f k) :=
          ((own_put hown (by omega) u).alloc _).alloc _
        have hnew := new_at w1 w.heap.size u (.cells #[.int .i64 u.I, .int .i64 u.B, .int .i64 u.F, .int .i64 u.C, .int .i64 u.S] 23) s
        have T0P := ((TmT.put (u := u) T0).below (B_alloc (Below.refl _ _) (.cells #[.int .i64 u.I, .int .i64 u.B, .int .i64 u.F, .int .i64 u.C, .int .i64 u.S] 23))).below (B_alloc (Below.refl _ _) (.cells #[.bool s] 4))
        have T1P := ((TmT.far (t := ⟨0, 0, 0, 0, 0⟩) T1 (b := w.heap.size) (by omega) u).below (B_alloc (Below.refl _ _) (.cells #[.int .i64 u.I, .int .i64 u.B, .int .i64 u.F, .int .i64 u.C, .int .i64 u.S] 23))).below (B_alloc (Below.refl _ _) (.cells #[.bool s] 4))
        have BP := B_alloc (B_alloc (below_put hB (Nat.le_refl _) u) (.cells #[.int .i64 u.I, .int .i64 u.B, .int .i64 u.F, .int .i64 u.C, .int .i64 u.S] 23)) (.cells #[.bool s] 4)
        have hsz : w.heap.size + 2 ≤ (((put5 w1 w.heap.size u).alloc (.cells #[.int .i64 u.I, .int .i64 u.B, .int .i64 u.F, .int .i64 u.C, .int .i64 u.S] 23)).alloc (.cells #[.bool s] 4)).heap.size := by simp [size_put]; omega
        clear T0 T1 hown hB
        go_wp2_with (first
          | (at_builtin; refine wpList_append_own _ rfl _ _ 27 rfl (w.heap.size + 2) 4 i0 (.bool false) 1 1 Tryd.underlying27 hi hz0 hz1 hz2 rfl (by decide) _ _ _ rfl hownP ⟨w1.heap.size + 1, 0, none⟩ 1 1 [.bool s] rfl rfl hnew (by intro u hu; simp at hu; subst hu; rfl) (by unfold maxLen; omega) (by omega) hsz ?_))
        intro v' w2 hown1 hgrow _
        clear c0 c1 c2 c3 c4 f0 f1 f2 f3 f4
        have T0Q : TmT w2 w.heap.size u := (hgrow.block _ T0P.lt (by have := hownP.lt; intro e; have := (this _ e.symm).1; omega)).trans T0P
        have T1Q : TmT w2 (w.heap.size + 1) ⟨0, 0, 0, 0, 0⟩ := (hgrow.block _ T1P.lt (by have := hownP.lt; intro e; have := (this _ e.symm).1; omega)).trans T1P
        have BQ : Below w.heap.size w w2 := BP.grown hgrow BP.size (fun j hj => by have := (hownP.lt j hj).1; omega)
        have hrun : Pl.run (Pl.hc zs len) t f (k + 1) = u := by rw [Pl.run, HX.out, H0.out, HY.out, HU.out]
        have hsaid : saidL (Pl.hc zs len) t f (k + 1) = saidL (Pl.hc zs len) t f k ++ [.bool s] := by rw [saidL_succ, Pl.said, HX.out, H0.out, HY.out, HS.out]
        rw [← hsaid] at hown1
        have HR := Lib.hid hrun
        clear hownP hnew T0P T1P BP hsz hgrow hrun hsaid
        go_wp2_with fail
        go_roundw
        case rel => exact ⟨k + 1, by omega, by go_num, by rw [HR.out]; exact T0Q, T1Q, hown1, BQ⟩
        all_goals first | (simp [intOf]; done) | (simp [intOf]; omega)
      · have h0 : Pl.hc zs len k = 0 := if_neg hkl
        have H0 := Lib.hid h0
        clear h0
        go_wp2_with fail
        go_loopw [12] (fun kk wr => kk = .int .i64 0 ∧ TmT wr w.heap.size (Pl.hearN 0 x) ∧ TmT wr (w.heap.size + 1) ⟨0, 0, 0, 0, 0⟩ ∧ wr.ownsRow (w.heap.size + 2) 4 1 u10 k (saidL (Pl.hc zs len) t f k) ∧ Below w.heap.size w wr)
          (fun _ _ => 0)
        case atStart => exact ⟨rfl, T0, T1, hown, hB⟩
        clear T0 T1 hown hB
        obtain ⟨rfl, T0, T1, hown, hB⟩ := hrel
        obtain ⟨y, hy⟩ : ∃ y, Pl.hearN 0 x = y := ⟨_, rfl⟩
        rw [hy] at T0
        obtain ⟨u, hu⟩ : ∃ u, Pl.tickT y (f + (k : Nat)) = u := ⟨_, rfl⟩
        obtain ⟨s, hs⟩ : ∃ s, Pl.tickB y (f + (k : Nat)) = s := ⟨_, rfl⟩
        have HY := Lib.hid hy
        have HU := Lib.hid hu
        have HS := Lib.hid hs
        clear hu hs hy
        obtain ⟨⟨c0, c1, c2, c3, c4⟩, f0, f1, f2, f3, f4⟩ := Tm.all T0
        go_wp2_with fail
        refine (tick_T y u s _ _ (hL.below hB) HU.out HS.out).mono ?_
        rintro e w1 ⟨rfl, hb1⟩
        clear c0 c1 c2 c3 c4 f0 f1 f2 f3 f4
        replace T0 := Tm.below T0 hb1
        replace T1 := Tm.below T1 hb1
        replace hown := own_below hown hb1
        replace hB := B_trans hB hb1
        have lt1 := T1.lt
        have lt0 := T0.lt
        obtain ⟨⟨c0, c1, c2, c3, c4⟩, f0, f1, f2, f3, f4⟩ := Tm.all T0
        have hownP : (((put5 w1 w.heap.size u).alloc (.cells #[.int .i64 u.I, .int .i64 u.B, .int .i64 u.F, .int .i64 u.C, .int .i64 u.S] 23)).alloc (.cells #[.bool s] 4)).ownsRow (w.heap.size + 2) 4 1 u10 k (saidL (Pl.hc zs len) t f k) :=
          ((own_put hown (by omega) u).alloc _).alloc _
        have hnew := new_at w1 w.heap.size u (.cells #[.int .i64 u.I, .int .i64 u.B, .int .i64 u.F, .int .i64 u.C, .int .i64 u.S] 23) s
        have T0P := ((TmT.put (u := u) T0).below (B_alloc (Below.refl _ _) (.cells #[.int .i64 u.I, .int .i64 u.B, .int .i64 u.F, .int .i64 u.C, .int .i64 u.S] 23))).below (B_alloc (Below.refl _ _) (.cells #[.bool s] 4))
        have T1P := ((TmT.far (t := ⟨0, 0, 0, 0, 0⟩) T1 (b := w.heap.size) (by omega) u).below (B_alloc (Below.refl _ _) (.cells #[.int .i64 u.I, .int .i64 u.B, .int .i64 u.F, .int .i64 u.C, .int .i64 u.S] 23))).below (B_alloc (Below.refl _ _) (.cells #[.bool s] 4))
        have BP := B_alloc (B_alloc (below_put hB (Nat.le_refl _) u) (.cells #[.int .i64 u.I, .int .i64 u.B, .int .i64 u.F, .int .i64 u.C, .int .i64 u.S] 23)) (.cells #[.bool s] 4)
        have hsz : w.heap.size + 2 ≤ (((put5 w1 w.heap.size u).alloc (.cells #[.int .i64 u.I, .int .i64 u.B, .int .i64 u.F, .int .i64 u.C, .int .i64 u.S] 23)).alloc (.cells #[.bool s] 4)).heap.size := by simp [size_put]; omega
        clear T0 T1 hown hB
        go_wp2_with (first
          | (at_builtin; refine wpList_append_own _ rfl _ _ 27 rfl (w.heap.size + 2) 4 i0 (.bool false) 1 1 Tryd.underlying27 hi hz0 hz1 hz2 rfl (by decide) _ _ _ rfl hownP ⟨w1.heap.size + 1, 0, none⟩ 1 1 [.bool s] rfl rfl hnew (by intro u hu; simp at hu; subst hu; rfl) (by unfold maxLen; omega) (by omega) hsz ?_))
        intro v' w2 hown1 hgrow _
        clear c0 c1 c2 c3 c4 f0 f1 f2 f3 f4
        have T0Q : TmT w2 w.heap.size u := (hgrow.block _ T0P.lt (by have := hownP.lt; intro e; have := (this _ e.symm).1; omega)).trans T0P
        have T1Q : TmT w2 (w.heap.size + 1) ⟨0, 0, 0, 0, 0⟩ := (hgrow.block _ T1P.lt (by have := hownP.lt; intro e; have := (this _ e.symm).1; omega)).trans T1P
        have BQ : Below w.heap.size w w2 := BP.grown hgrow BP.size (fun j hj => by have := (hownP.lt j hj).1; omega)
        have hrun : Pl.run (Pl.hc zs len) t f (k + 1) = u := by rw [Pl.run, HX.out, H0.out, HY.out, HU.out]
        have hsaid : saidL (Pl.hc zs len) t f (k + 1) = saidL (Pl.hc zs len) t f k ++ [.bool s] := by rw [saidL_succ, Pl.said, HX.out, H0.out, HY.out, HS.out]
        rw [← hsaid] at hown1
        have HR := Lib.hid hrun
        clear hownP hnew T0P T1P BP hsz hgrow hrun hsaid
        go_wp2_with fail
        go_roundw
        case rel => exact ⟨k + 1, by omega, by go_num, by rw [HR.out]; exact T0Q, T1Q, hown1, BQ⟩
        all_goals first | (simp [intOf]; done) | (simp [intOf]; omega)
    · obtain rfl : N = k := by omega
      obtain ⟨x, hx⟩ : ∃ x, Pl.run (Pl.hc zs len) t f N = x := ⟨_, rfl⟩
      rw [hx] at T0
      have HX := Lib.hid hx
      clear hx
      obtain ⟨⟨c0, c1, c2, c3, c4⟩, f0, f1, f2, f3, f4⟩ := Tm.all T0
      obtain ⟨⟨z0, z1, z2, z3, z4⟩, g0, g1, g2, g3, g4⟩ := Tm.all T1
      simp only at z0 z1 z2 z3 z4
      go_wp2_with fail
      go_region
      go_wp2_with fail
      refine bodyPost_ret (v := .tuple #[u10, .agg #[.int .i64 x.I, .int .i64 x.B, .int .i64 x.F, .int .i64 x.C, .int .i64 x.S]]) (by simp [results, Tryd.results12, go_sem, z0, z1, z2, z3, z4]) rfl
        ⟨u10, x, HX.out, rfl, own_mono (own_put hown (b := w.heap.size + 1) (by omega) x) (by omega), (below_put hB (by omega) x).drew⟩
end Go.Proofs.YtomfbadniajnlaaDoor
