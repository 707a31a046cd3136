/-
  slotmeshtop.w17Accept: a frame of another slot is not accepted; one of this slot if its counter is new. Conditions: slots from 0 to 1000000000, the ring of the slot.
-/
import Derived.Test.YtffdcnjddoakbaaApp
namespace Go.Proofs.Ytffdcnjddoakbaa
open Go.RowKit

theorem Win.put {w : World} {g : Nat} {a b : Value} (h : Win w g a b) (x y : Value) : Win ((w.setCell ⟨g, 0, none⟩ x).setCell ⟨g, 1, none⟩ y) g x y := by
  have h1 := Joins.block_setCell (w := w) (i := 0) h x
  have h2 := Joins.block_setCell (w := w.setCell ⟨g, 0, none⟩ x) (i := 1) h1 y
  simpa [Win] using h2
theorem info49 : (Try.prog.info? 49).map (fun i => (i.zero, i.size, i.bytes)) = some (some (.agg #[.int .i64 0, .int .u64 0]), 2, 16) := by kernel_rfl
/-- append([]Window{}, l...), under names. -/
theorem wpList_copyW {ops : Array Oper} {rest : List Oper} {o : Oper} {a : Act} {W2 : World} {Q : Exit → Act → World → Prop} {i0 : TypeInfo} (hi : Try.prog.info? 49 = some i0) (hz0 : i0.zero = some (.agg #[.int .i64 0, .int .u64 0])) (hz1 : i0.size = 2) (hz2 : i0.bytes = 16)
    (hgd : o.guard = none) (s x : Operand) (ho : o.op = .call { callee := .builtin .append, args := #[s, x], argTypes := #[25, 25] })
    {L : List Wn} {n g cap : Nat} (hL : Rw W2 g L) (hn : L.length = n) (h0 : 0 < n) (h4 : n ≤ 4) (hs : a.eval s = .slice (some ⟨W2.heap.size, 0, none⟩) 0 0) (hx : a.eval x = .slice (some ⟨g, 0, none⟩) n cap)
    (h : ∀ g2 cap2 w5, w5.ownsRow W2.heap.size 49 2 (.slice (some ⟨g2, 0, none⟩) n cap2) n (cw L) → W2.heap.size ≤ g2 → n ≤ cap2 → Below W2.heap.size W2 w5 → wpList Try.prog ops Q rest (a.put o.dst (.slice (some ⟨g2, 0, none⟩) n cap2)) w5) :
    wpList Try.prog ops Q (o :: rest) a (W2.alloc (.cells #[] 49)) := by
  subst hn
  have hown : (W2.alloc (.cells #[] 49)).ownsRow W2.heap.size 49 2 (.slice (some ⟨W2.heap.size, 0, none⟩) 0 0) 0 [] :=
    ⟨rfl, .inr ⟨_, 0, #[], rfl, Nat.le_refl _, heap_alloc_new _ _, Nat.le_refl _, by unfold maxLen; omega, rfl, rfl⟩⟩
  refine wpList_append_any _ hgd s x 25 ho W2.heap.size 49 i0 _ 2 16 Try.underlying25 hi hz0 hz1 hz2 rfl (by decide) _ 0 [] hs hown _ (some ⟨g, 0, none⟩) L.length cap (cw L) hx (hL.below (B_alloc (Below.refl _ _) _)).reads (cw_one L) (by unfold maxLen; omega) (by omega) (by simp) ?_
  intro v' w5 hown hg _
  rw [Nat.zero_add, List.nil_append] at hown
  obtain ⟨g2, cap2, rfl, h1, h2, _⟩ := rw_own h0 hown
  exact h g2 cap2 w5 hown h2 h1 ((B_alloc (Below.refl _ _) _).grown hg (by simp) (fun j hj => by cases hj; exact Nat.le_refl _))
theorem own_at {w : World} {base g n cap i : Nat} {L : List Wn} (h : w.ownsRow base 49 2 (.slice (some ⟨g, 0, none⟩) n cap) n (cw L)) (hn : L.length = n) (hi : i < n) :
    w.cell? ⟨g, i * 2, none⟩ = some (.int .i64 (gw L i).t) ∧ w.cell? ⟨g, i * 2 + 1, none⟩ = some (.int .u64 ((gw L i).b : Nat)) ∧ w.frozen? ⟨g, i * 2, none⟩ = false ∧ w.frozen? ⟨g, i * 2 + 1, none⟩ = false :=
  ⟨(h.cellAt _ (by omega)).trans (cw_at L i (by omega)).1, (h.cellAt _ (by omega)).trans (cw_at L i (by omega)).2, h.frozenAt _, h.frozenAt _⟩
theorem own_put {w : World} {base g n cap i : Nat} {L : List Wn} (h : w.ownsRow base 49 2 (.slice (some ⟨g, 0, none⟩) n cap) n (cw L)) (h0 : 0 < n) (x : Wn) :
    Rw ((w.setCell ⟨g, i * 2, none⟩ (.int .i64 x.t)).setCell ⟨g, i * 2 + 1, none⟩ (.int .u64 (x.b : Nat))) g (L.set i x) := by
  have h1 := (h.stored (i * 2) (.int .i64 x.t)).1
  have h2 := (h1.stored (i * 2 + 1) (.int .u64 (x.b : Nat))).1
  rw [cw_set] at h2
  obtain ⟨g2, cap2, e, _, _, hr⟩ := rw_own h0 h2
  injection e with e _ _
  injection e with e
  injection e with e
  subst e
  exact hr
/-- The two blocks that Accept lays first. -/
theorem two (w : World) (x : Fr) (e f : Int) : ∃ W, W = (w.alloc (.cells #[.int .i64 x.K, .int .i64 x.F, .int .i64 x.T, .int .i64 x.A, .int .i64 x.Y, .slice none 0 0] 31)).alloc (.cells #[.int .i64 e, .int .i64 f] 36) ∧
    Fb W w.heap.size x ∧ Rb W (w.heap.size + 1) e f ∧ Below w.heap.size w W := by
  have k0 := Fb.new w x
  have k1 := Rb.new (w.alloc (.cells #[.int .i64 x.K, .int .i64 x.F, .int .i64 x.T, .int .i64 x.A, .int .i64 x.Y, .slice none 0 0] 31)) e f
  rw [World.size_alloc] at k1
  exact ⟨_, rfl, k0.below (B_alloc (Below.refl _ _) _), k1, B_alloc (B_alloc (Below.refl w.heap.size w) _) _⟩

theorem open_old' (K F T A Y n : Int) (w : World) (h0 : 0 ≤ n) (h1 : n ≤ 1000000000) (hx : A ≠ n) :
    Calls Try.prog 12 #[.agg #[.int .i64 K, .int .i64 F, .int .i64 T, .int .i64 A, .int .i64 Y, .slice none 0 0], .agg #[.int .i64 (n / 2000), .int .i64 (n / 2000 + 2)], .int .i64 n] w fun e w' => e = .returned (.int .i64 14) ∧ Below w.heap.size w w' :=
  open_old ⟨K, F, T, A, Y⟩ n w h0 h1 hx
theorem open_ok' (K F T A : Int) (w : World) (h0 : 0 ≤ A) (h1 : A ≤ 1000000000) :
    Calls Try.prog 12 #[.agg #[.int .i64 K, .int .i64 F, .int .i64 T, .int .i64 A, .int .i64 (A / 2000 + 1), .slice none 0 0], .agg #[.int .i64 (A / 2000), .int .i64 (A / 2000 + 2)], .int .i64 A] w fun e w' => e = .returned (.int .i64 0) ∧ Below w.heap.size w w' :=
  open_ok ⟨K, F, T, A, A / 2000 + 1⟩ w h0 h1 rfl

set_option maxHeartbeats 4000000 in
theorem acc_old (v : Value) (x : Fr) (n : Int) (w : World) (h0 : 0 ≤ n) (h1 : n ≤ 1000000000) (hx : x.A ≠ n) :
    Calls Try.prog 7 #[v, x.v, .agg #[.int .i64 (n / 2000), .int .i64 (n / 2000 + 2)], .int .i64 n] w fun e w' => e = .returned (.tuple #[v, .bool false]) ∧ Below w.heap.size w w' := by
  obtain ⟨W, hW, k0, k1, B⟩ := two w x (n / 2000) (n / 2000 + 2)
  obtain ⟨K, F, T, A, Y⟩ := x
  simp only at hx hW
  have HX := Lib.hid hx
  clear hx
  unfold Fr.v
  simp only
  obtain ⟨c0, c1, c2, c3, c4, c5⟩ := k0.cells
  obtain ⟨r0, r1⟩ := k1.cells
  rw [hW] at c0 c1 c2 c3 c4 c5 r0 r1 B
  clear hW k0 k1
  go_enter Try.func7, Try.ntmps7
  go_wp2_with fail
  refine (open_old' K F T A Y n _ h0 h1 HX.out).mono ?_
  rintro e w1 ⟨rfl, hb⟩
  have B2 := B_trans B hb
  clear c0 c1 c2 c3 c4 c5 r0 r1 B hb
  go_wp2_with fail
  go_ret2
  exact ⟨rfl, B2⟩

theorem note_to (t : Int) (b : Nat) (n T : Int) (B : Nat) (E : Int) (w : World) (hb : b < 2 ^ 64) (h : Pl.note t b n = ⟨T, B, E⟩) :
    Calls Try.prog 13 #[.agg #[.int .i64 t, .int .u64 b], .int .i64 n] w fun e w' => e = .returned (.tuple #[.agg #[.int .i64 T, .int .u64 B], .int .i64 E]) ∧ Below w.heap.size w w' := by
  have := note_any t b n w hb
  rw [h] at this
  exact this

/-- What the region of Accept's second statement reads. -/
abbrev Sr (w1 : World) (xb g : Nat) (i : Int) (A : Int) (o : Nat) (t : Int) (b : Nat) (W : World) : Prop :=
  W.cell? ⟨xb, 1, none⟩ = some (.int .i64 i) ∧ W.cell? ⟨xb, 3, none⟩ = some (.int .i64 A) ∧ W.cell? ⟨g, o, none⟩ = some (.int .i64 t) ∧ W.cell? ⟨g, o + 1, none⟩ = some (.int .u64 b) ∧ Below w1.heap.size w1 W
theorem Sr.below {w1 W W' : World} {xb g : Nat} {i A : Int} {o : Nat} {t : Int} {b : Nat} (h0 : Sr w1 xb g i A o t b w1) (h : Sr w1 xb g i A o t b W) (hb : Below w1.heap.size W W') : Sr w1 xb g i A o t b W' := by
  have B := h.2.2.2.2.trans hb
  exact ⟨cell_below B h0.1, cell_below B h0.2.1, cell_below B h0.2.2.1, cell_below B h0.2.2.2.1, B⟩
theorem Sr.call {w1 W W' : World} {xb g : Nat} {i A : Int} {o : Nat} {t : Int} {b : Nat} (h0 : Sr w1 xb g i A o t b w1) (h : Sr w1 xb g i A o t b W) (hb : Below W.heap.size W W') : Sr w1 xb g i A o t b W' := Sr.below h0 h (hb.mono h.2.2.2.2.size)
theorem Sr.alloc {w1 W : World} {xb g : Nat} {i A : Int} {o : Nat} {t : Int} {b : Nat} (h0 : Sr w1 xb g i A o t b w1) (h : Sr w1 xb g i A o t b W) (ob : Obj) : Sr w1 xb g i A o t b (W.alloc ob) := Sr.call h0 h (B_alloc (Below.refl _ _) ob)
theorem Sr.store {w1 W : World} {xb g : Nat} {i A : Int} {o : Nat} {t : Int} {b : Nat} (h0 : Sr w1 xb g i A o t b w1) (h : Sr w1 xb g i A o t b W) {p : Nat} (hp : w1.heap.size ≤ p) (x y : Value) : Sr w1 xb g i A o t b ((W.setCell ⟨p, 0, none⟩ x).setCell ⟨p, 1, none⟩ y) :=
  Sr.below h0 h (((Below.refl _ _).setCell hp _).setCell hp _)

set_option maxHeartbeats 4000000 in
theorem acc_ref (g : Nat) (L : List Wn) (i n cap : Nat) (K T A t : Int) (b : Nat) (w : World) (hL : Rw w g L) (hn : L.length = n) (hi : i < n) (hg : gw L i = ⟨t, b⟩) (hbt : b < 2 ^ 64) (h0 : 0 ≤ A) (h1 : A < 1000000000) (T' : Int) (B' : Nat) (he : Pl.note t b (A + 1) = ⟨T', B', 14⟩) (h4 : n ≤ 4) :
    Calls Try.prog 7 #[.slice (some ⟨g, 0, none⟩) n cap, (Fr.mk K i T A (A / 2000 + 1)).v, .agg #[.int .i64 (A / 2000), .int .i64 (A / 2000 + 2)], .int .i64 A] w fun e w' =>
      e = .returned (.tuple #[.slice (some ⟨g, 0, none⟩) n cap, .bool false]) ∧ Below w.heap.size w w' := by
  have HL := Lib.hid hL
  have HE := Lib.hid he
  clear he
  obtain ⟨W, hW, k0, k1, B⟩ := two w ⟨K, i, T, A, A / 2000 + 1⟩ (A / 2000) (A / 2000 + 2)
  simp only at hW
  unfold Fr.v
  simp only
  have HK := Lib.hid k0
  have HB := Lib.hid B
  have HN := Lib.hid hn
  have HG := Lib.hid hg
  obtain ⟨c0, c1, c2, c3, c4, c5⟩ := k0.cells
  obtain ⟨r0, r1⟩ := k1.cells
  rw [hW] at c0 c1 c2 c3 c4 c5 r0 r1
  clear k0 k1 hL B hn hg
  go_enter Try.func7, Try.ntmps7
  go_wp2_with fail
  rw [← hW] at c0 c1 c2 c3 c4 c5 r0 r1 ⊢
  clear hW
  refine (open_ok' K i T A _ h0 (by omega)).mono ?_
  rintro e w1 ⟨rfl, hb⟩
  have k2 := HK.out.below hb
  have B2 := B_trans HB.out hb
  have hl2 := HL.out.below B2
  clear c0 c1 c2 c3 c4 c5 r0 r1 hb
  obtain ⟨-, c1, -, c3, -, -⟩ := k2.cells
  obtain ⟨q0, q1⟩ := hl2.at_ (i := i) (by have := HN.out; omega)
  rw [HG.out] at q0 q1
  simp only at q0 q1
  have hii : (i : Int) < (n : Int) := by omega
  have hi0 : decide ((i : Int) < 0) = false := by simp
  have HB2 := Lib.hid B2
  clear k2 hl2 B2
  go_wp2_with fail
  have hx1 := cell_lt c1
  have hg1 := cell_lt q0
  have S0 : Sr w1 w.heap.size g i A (i * 2) t b w1 := ⟨c1, c3, q0, q1, Below.refl _ _⟩
  have HS := Lib.hid S0
  have hS1 : Sr w1 w.heap.size g i A (i * 2) t b w1.drew := Sr.below S0 S0 (Below.refl _ _).drew
  have hS2 := Lib.hid (Sr.below S0 S0 ((B_alloc (Below.refl _ _) (.cells #[.int .i64 0, .int .u64 0] 49)).drew))
  have wr1 : IntKind.i64.wrap (A + 1) = A + 1 := by rw [IntKind.wrap_i64]; omega

  clear S0
  go_region_held3 (fun W => W.cell? ⟨w.heap.size, 1, none⟩ = some (.int .i64 i) ∧ W.cell? ⟨w.heap.size, 3, none⟩ = some (.int .i64 A) ∧ W.cell? ⟨g, i * 2, none⟩ = some (.int .i64 t) ∧ W.cell? ⟨g, i * 2 + 1, none⟩ = some (.int .u64 b) ∧ Below w1.heap.size w1 W)
    (first | (with_reducible assumption) | (with_reducible exact hS1) | (with_reducible exact hS2.out) | ((with_reducible refine Sr.call HS.out ?_ hb'); assumption) | ((with_reducible refine Sr.alloc HS.out ?_ _); assumption) | (with_reducible exact Sr.alloc HS.out hK.out _) | (with_reducible exact Sr.store HS.out hK.out (Nat.le_refl _) _ _))
    (first
      | (go_at_call 13; refine (note_to t b (A + 1) T' B' 14 _ hbt HE.out).mono ?_; rintro e w' ⟨rfl, hb'⟩; have hbc := bcell hb'; have hK := Lib.hid (Sr.call HS.out (by assumption) hb')))
  all_goals
    have hEnd := (by assumption : _ ∧ _ ∧ _ ∧ _ ∧ Below w1.heap.size w1 _)
    have B := B_trans HB2.out hEnd.2.2.2.2
    clear hEnd hS1
    go_wp2_with fail
    go_ret2
    exact ⟨rfl, B⟩

set_option maxHeartbeats 4000000 in
theorem acc_new (g : Nat) (L : List Wn) (i n cap : Nat) (K T A t : Int) (b : Nat) (w : World) (hL : Rw w g L) (hn : L.length = n) (hi : i < n) (hg : gw L i = ⟨t, b⟩) (hbt : b < 2 ^ 64) (h0 : 0 ≤ A) (h1 : A < 1000000000) (T' : Int) (B' : Nat) (he : Pl.note t b (A + 1) = ⟨T', B', 0⟩) (h4 : n ≤ 4) :
    Calls Try.prog 7 #[.slice (some ⟨g, 0, none⟩) n cap, (Fr.mk K i T A (A / 2000 + 1)).v, .agg #[.int .i64 (A / 2000), .int .i64 (A / 2000 + 2)], .int .i64 A] w fun e w' =>
      ∃ g' cap', e = .returned (.tuple #[.slice (some ⟨g', 0, none⟩) n cap', .bool true]) ∧ Rw w' g' (L.set i ⟨T', B'⟩) ∧ w.heap.size ≤ g' ∧ Below w.heap.size w w' := by
  obtain ⟨i0, hi49, hz0, hz1, hz2⟩ := info_parts info49
  have HL := Lib.hid hL
  have HE := Lib.hid he
  clear he
  obtain ⟨W, hW, k0, k1, B⟩ := two w ⟨K, i, T, A, A / 2000 + 1⟩ (A / 2000) (A / 2000 + 2)
  simp only at hW
  unfold Fr.v
  simp only
  have HK := Lib.hid k0
  have HB := Lib.hid B
  have HN := Lib.hid hn
  have HG := Lib.hid hg
  obtain ⟨c0, c1, c2, c3, c4, c5⟩ := k0.cells
  obtain ⟨r0, r1⟩ := k1.cells
  rw [hW] at c0 c1 c2 c3 c4 c5 r0 r1
  clear k0 k1 hL B hn hg
  go_enter Try.func7, Try.ntmps7
  go_wp2_with fail
  rw [← hW] at c0 c1 c2 c3 c4 c5 r0 r1 ⊢
  clear hW
  refine (open_ok' K i T A _ h0 (by omega)).mono ?_
  rintro e w1 ⟨rfl, hb⟩
  have k2 := HK.out.below hb
  have B2 := B_trans HB.out hb
  have hl2 := HL.out.below B2
  clear c0 c1 c2 c3 c4 c5 r0 r1 hb
  obtain ⟨-, c1, -, c3, -, -⟩ := k2.cells
  obtain ⟨q0, q1⟩ := hl2.at_ (i := i) (by have := HN.out; omega)
  rw [HG.out] at q0 q1
  simp only at q0 q1
  have hii : (i : Int) < (n : Int) := by omega
  have hi0 : decide ((i : Int) < 0) = false := by simp
  have HB2 := Lib.hid B2
  clear k2 hl2 B2
  go_wp2_with fail
  have hx1 := cell_lt c1
  have hg1 := cell_lt q0
  have S0 : Sr w1 w.heap.size g i A (i * 2) t b w1 := ⟨c1, c3, q0, q1, Below.refl _ _⟩
  have HS := Lib.hid S0
  have hS1 : Sr w1 w.heap.size g i A (i * 2) t b w1.drew := Sr.below S0 S0 (Below.refl _ _).drew
  have hS2 := Lib.hid (Sr.below S0 S0 ((B_alloc (Below.refl _ _) (.cells #[.int .i64 0, .int .u64 0] 49)).drew))
  have wr1 : IntKind.i64.wrap (A + 1) = A + 1 := by rw [IntKind.wrap_i64]; omega

  clear S0
  go_region_held3 (fun W => W.cell? ⟨w.heap.size, 1, none⟩ = some (.int .i64 i) ∧ W.cell? ⟨w.heap.size, 3, none⟩ = some (.int .i64 A) ∧ W.cell? ⟨g, i * 2, none⟩ = some (.int .i64 t) ∧ W.cell? ⟨g, i * 2 + 1, none⟩ = some (.int .u64 b) ∧ Below w1.heap.size w1 W)
    (first | (with_reducible assumption) | (with_reducible exact hS1) | (with_reducible exact hS2.out) | ((with_reducible refine Sr.call HS.out ?_ hb'); assumption) | ((with_reducible refine Sr.alloc HS.out ?_ _); assumption) | (with_reducible exact Sr.alloc HS.out hK.out _) | (with_reducible exact Sr.store HS.out hK.out (Nat.le_refl _) _ _))
    (first
      | (go_at_call 13; refine (note_to t b (A + 1) T' B' 0 _ hbt HE.out).mono ?_; rintro e w' ⟨rfl, hb'⟩; have hbc := bcell hb'; have hK := Lib.hid (Sr.call HS.out (by assumption) hb')))
  · obtain ⟨-, -, -, -, hb2⟩ := (by assumption : _ ∧ _ ∧ _ ∧ _ ∧ Below w1.heap.size w1 _)
    have hkw := Win.new w' (.int .i64 T') (.int .u64 (B' : Nat))
    obtain ⟨W2, hW2⟩ : ∃ W2, W2 = w'.alloc (.cells #[.int .i64 T', .int .u64 (B' : Nat)] 49) := ⟨_, rfl⟩
    rw [← hW2] at hb2 hkw ⊢
    clear hW2
    obtain ⟨p, hp⟩ : ∃ p, p = w'.heap.size := ⟨_, rfl⟩
    rw [← hp] at hkw ⊢
    clear hp hbc hb' hK
    have hk1 := hkw.lt
    have HKW := Lib.hid hkw
    have B2 := B_trans HB2.out hb2
    have HB3 := Lib.hid B2
    have HL2 := Lib.hid (HL.out.below B2)
    have k3 := cell_below hb2 c1
    obtain ⟨d0, d1, -, -⟩ := hkw.all
    clear hkw B2 hb2 c1 c3 q0 q1 hS1
    have hn0 : 0 < n := by omega
    have K3 := Lib.hid k3
    have D0 := Lib.hid d0
    have D1 := Lib.hid d1
    clear k3 d0 d1
    go_wp2_with (first
      | (at_builtin; refine wpList_copyW (W2 := W2) (L := L) (n := n) (g := g) (cap := cap) hi49 hz0 hz1 hz2 rfl (.tmp 46) (.tmp 47) rfl HL2.out HN.out hn0 h4 rfl rfl ?_; intro g2 cap2 w5 hown hge hc2 hB5; have e1 := cell_below hB5 K3.out; have e2 := cell_below hB5 D0.out; have e3 := cell_below hB5 D1.out; obtain ⟨y0, y1, y2, y3⟩ := own_at hown HN.out hi; have HO := Lib.hid hown; have HB5 := Lib.hid hB5; clear hown hB5))
    go_ret2
    have hge' : w.heap.size ≤ g2 := Nat.le_trans HB3.out.size hge
    refine ⟨g2, cap2, rfl, own_put HO.out hn0 ⟨T', B'⟩, hge', ?_⟩
    exact ((B_trans HB3.out HB5.out).setCell hge' _).setCell hge' _
  · obtain ⟨-, -, -, -, hb2⟩ := (by assumption : _ ∧ _ ∧ _ ∧ _ ∧ Below w1.heap.size w1 _)
    have hkw := (Win.below (w := (w1.alloc (.cells #[.int .i64 0, .int .u64 0] 49)).drew) (Win.new w1 (.int .i64 0) (.int .u64 0)) hb').put (.int .i64 T') (.int .u64 (B' : Nat))
    obtain ⟨W2, hW2⟩ : ∃ W2, W2 = (w'.setCell ⟨w1.heap.size, 0, none⟩ (.int .i64 T')).setCell ⟨w1.heap.size, 1, none⟩ (.int .u64 (B' : Nat)) := ⟨_, rfl⟩
    rw [← hW2] at hb2 hkw ⊢
    clear hW2
    obtain ⟨p, hp⟩ : ∃ p, p = w1.heap.size := ⟨_, rfl⟩
    rw [← hp] at hkw ⊢
    clear hp hbc hb' hK
    have hk1 := hkw.lt
    have HKW := Lib.hid hkw
    have B2 := B_trans HB2.out hb2
    have HB3 := Lib.hid B2
    have HL2 := Lib.hid (HL.out.below B2)
    have k3 := cell_below hb2 c1
    obtain ⟨d0, d1, -, -⟩ := hkw.all
    clear hkw B2 hb2 c1 c3 q0 q1 hS1
    have hn0 : 0 < n := by omega
    have K3 := Lib.hid k3
    have D0 := Lib.hid d0
    have D1 := Lib.hid d1
    clear k3 d0 d1
    go_wp2_with (first
      | (at_builtin; refine wpList_copyW (W2 := W2) (L := L) (n := n) (g := g) (cap := cap) hi49 hz0 hz1 hz2 rfl (.tmp 46) (.tmp 47) rfl HL2.out HN.out hn0 h4 rfl rfl ?_; intro g2 cap2 w5 hown hge hc2 hB5; have e1 := cell_below hB5 K3.out; have e2 := cell_below hB5 D0.out; have e3 := cell_below hB5 D1.out; obtain ⟨y0, y1, y2, y3⟩ := own_at hown HN.out hi; have HO := Lib.hid hown; have HB5 := Lib.hid hB5; clear hown hB5))
    go_ret2
    have hge' : w.heap.size ≤ g2 := Nat.le_trans HB3.out.size hge
    refine ⟨g2, cap2, rfl, own_put HO.out hn0 ⟨T', B'⟩, hge', ?_⟩
    exact ((B_trans HB3.out HB5.out).setCell hge' _).setCell hge' _
end Go.Proofs.Ytffdcnjddoakbaa
