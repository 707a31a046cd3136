/-
  Words for the walk of TopOnceAccepted: frames in a row of the call's own, one entry of the air, what the regions read. Conditions: none.
-/
import Derived.Test.YtffdcnjddoakbaaTopPlain
namespace Go.Proofs.Ytffdcnjddoakbaa
open Go.RowKit

/-- The cells of a list of frames. -/
def cf (S : List Fr) : List Value := S.flatMap fun x => [.int .i64 x.K, .int .i64 x.F, .int .i64 x.T, .int .i64 x.A, .int .i64 x.Y, .slice none 0 0]
theorem cf_len (S : List Fr) : (cf S).length = S.length * 6 := by
  induction S with
  | nil => rfl
  | cons x l ih => rw [cf, List.flatMap_cons, List.length_append, ← cf, ih]; simp; omega
theorem cf_app (A B : List Fr) : cf (A ++ B) = cf A ++ cf B := List.flatMap_append
theorem cf_cons (x : Fr) (l : List Fr) : cf (x :: l) = [.int .i64 x.K, .int .i64 x.F, .int .i64 x.T, .int .i64 x.A, .int .i64 x.Y, .slice none 0 0] ++ cf l := rfl
def gf (S : List Fr) (i : Nat) : Fr := S.getD i ⟨0, 0, 0, 0, 0⟩
theorem cf_at (S : List Fr) (i : Nat) (hi : i < S.length) : (cf S)[i * 6]? = some (.int .i64 (gf S i).K) ∧ (cf S)[i * 6 + 1]? = some (.int .i64 (gf S i).F) ∧ (cf S)[i * 6 + 2]? = some (.int .i64 (gf S i).T) ∧ (cf S)[i * 6 + 3]? = some (.int .i64 (gf S i).A) ∧ (cf S)[i * 6 + 4]? = some (.int .i64 (gf S i).Y) ∧ (cf S)[i * 6 + 5]? = some (.slice none 0 0) := by
  induction S generalizing i with
  | nil => simp at hi
  | cons x l ih =>
    rw [cf_cons]
    cases i with
    | zero => exact ⟨rfl, rfl, rfl, rfl, rfl, rfl⟩
    | succ i =>
      have := ih i (by simpa using hi)
      have e : gf (x :: l) (i + 1) = gf l i := rfl
      rw [e, show (i + 1) * 6 = 6 + i * 6 by omega]
      simp only [Nat.add_assoc]
      rw [List.getElem?_append_right (by simp), List.getElem?_append_right (by simp), List.getElem?_append_right (by simp), List.getElem?_append_right (by simp), List.getElem?_append_right (by simp), List.getElem?_append_right (by simp)]
      simp only [List.length_cons, List.length_nil, Nat.zero_add, Nat.add_sub_cancel_left]
      exact this
theorem cf_one (S : List Fr) : ∀ u ∈ cf S, u.oneCell' = true := by
  intro u hu
  simp only [cf, List.mem_flatMap] at hu
  obtain ⟨x, _, hu⟩ := hu
  simp only [List.mem_cons, List.not_mem_nil, or_false] at hu
  rcases hu with rfl | rfl | rfl | rfl | rfl | rfl <;> rfl
theorem gf_mem {S : List Fr} {i : Nat} (h : i < S.length) : gf S i ∈ S := by
  unfold gf; rw [List.getD_eq_getElem?_getD, List.getElem?_eq_getElem h]; exact List.getElem_mem h
theorem info31 : (Try.prog.info? 31).map (fun i => (i.zero, i.size, i.bytes)) = some (some (.agg #[.int .i64 0, .int .i64 0, .int .i64 0, .int .i64 0, .int .i64 0, .slice none 0 0]), 6, 64) := by kernel_rfl
theorem own_shape {w : World} {base e size n : Nat} {v : Value} {xs : List Value} (h : w.ownsRow base e size v n xs) : ∃ hd cap, v = .slice hd n cap := by
  rcases h.2 with ⟨rfl, rfl⟩ | ⟨g, cap, cur, rfl, _⟩
  · exact ⟨none, 0, rfl⟩
  · exact ⟨_, cap, rfl⟩
/-- sent = append(sent, f), under names. -/
theorem wpList_appF {ops : Array Oper} {rest : List Oper} {o : Oper} {a : Act} {w : World} {Q : Exit → Act → World → Prop} {i0 : TypeInfo} (hi : Try.prog.info? 31 = some i0) (hz0 : i0.zero = some (.agg #[.int .i64 0, .int .i64 0, .int .i64 0, .int .i64 0, .int .i64 0, .slice none 0 0])) (hz1 : i0.size = 6) (hz2 : i0.bytes = 64)
    (hgd : o.guard = none) (s x : Operand) (ho : o.op = .call { callee := .builtin .append, args := #[s, x], argTypes := #[26, 26] })
    (base : Nat) (S : List Fr) (m : Nat) (hm : S.length = m) (v : Value) (hs : a.eval s = v) (hown : w.ownsRow base 31 6 v m (cf S))
    (g : Nat) (y : Fr) (hx : a.eval x = .slice (some ⟨g, 0, none⟩) 1 1) (hy : Fb w g y) (h60 : m ≤ 1000) (hbase : base ≤ w.heap.size)
    (h : ∀ hd cap w', w'.ownsRow base 31 6 (.slice hd (m + 1) cap) (m + 1) (cf (S ++ [y])) → w.grownBy w' v.ownBlock → ((Value.slice hd (m + 1) cap).ownBlock = v.ownBlock ∨ (Value.slice hd (m + 1) cap).ownBlock = some w.heap.size) → wpList Try.prog ops Q rest (a.put o.dst (.slice hd (m + 1) cap)) w') : wpList Try.prog ops Q (o :: rest) a w := by
  subst hm
  have hr : Reads w (g + 1) 6 (some ⟨g, 0, none⟩) 1 (cf [y]) := by
    obtain ⟨c0, c1, c2, c3, c4, c5⟩ := hy.cells
    refine ⟨by rw [cf_len]; rfl, fun _ => ⟨_, rfl, Nat.lt_succ_self g, fun j u hu => ?_⟩⟩
    rw [add3, Nat.zero_add]
    have hj : j < 6 := (List.getElem?_eq_some_iff.1 hu).1
    rcases (show j = 0 ∨ j = 1 ∨ j = 2 ∨ j = 3 ∨ j = 4 ∨ j = 5 by omega) with rfl | rfl | rfl | rfl | rfl | rfl
    · rw [c0]; exact hu
    · rw [c1]; exact hu
    · rw [c2]; exact hu
    · rw [c3]; exact hu
    · rw [c4]; exact hu
    · rw [c5]; exact hu
  refine wpList_append_any _ hgd s x 26 ho base 31 i0 _ 6 64 Try.underlying26 hi hz0 hz1 hz2 rfl (by decide) v S.length (cf S) hs hown (g + 1) (some ⟨g, 0, none⟩) 1 1 (cf [y]) hx hr (cf_one [y]) (by unfold maxLen; omega) (by omega) hbase ?_
  intro v' w' h1 h2 h3
  obtain ⟨hd, cap, rfl⟩ := own_shape h1
  rw [← cf_app] at h1
  exact h hd cap w' h1 h2 h3

/-- One entry of the air. -/
structure Aw where
  W : Int
  F : Int
  G : Bool
  H : Int
  O : Int
def ga (Z : List Aw) (i : Nat) : Aw := Z.getD i ⟨0, 0, false, 0, 0⟩
def Aw.Ok (x : Aw) : Prop := (0 ≤ x.W ∧ x.W ≤ 255) ∧ (0 ≤ x.F ∧ x.F ≤ 255) ∧ (0 ≤ x.H ∧ x.H ≤ 255) ∧ (0 ≤ x.O ∧ x.O ≤ 255)
/-- The air is read at hd. -/
def Ra (w : World) (hd : Option Addr) (Z : List Aw) : Prop := 0 < Z.length → ∃ b off, hd = some ⟨b, off, none⟩ ∧ b < w.heap.size ∧ ∀ i, i < Z.length →
  w.cell? ⟨b, off + i * 5, none⟩ = some (.int .u8 (ga Z i).W) ∧ w.cell? ⟨b, off + i * 5 + 1, none⟩ = some (.int .u8 (ga Z i).F) ∧ w.cell? ⟨b, off + i * 5 + 2, none⟩ = some (.bool (ga Z i).G) ∧ w.cell? ⟨b, off + i * 5 + 3, none⟩ = some (.int .u8 (ga Z i).H) ∧ w.cell? ⟨b, off + i * 5 + 4, none⟩ = some (.int .u8 (ga Z i).O) ∧ (ga Z i).Ok
theorem Ra.below {w w' : World} {hd : Option Addr} {Z : List Aw} (h : Ra w hd Z) (hb : Below w.heap.size w w') : Ra w' hd Z := fun h0 => by
  obtain ⟨b, off, e, hlt, hc⟩ := h h0
  refine ⟨b, off, e, Nat.lt_of_lt_of_le hlt hb.size, fun i hi => ?_⟩
  obtain ⟨c0, c1, c2, c3, c4, c5⟩ := hc i hi
  exact ⟨cell_up hb c0 hlt, cell_up hb c1 hlt, cell_up hb c2 hlt, cell_up hb c3 hlt, cell_up hb c4 hlt, c5⟩
/-- Block b is an entry of the air. -/
def Ab (W : World) (b : Nat) (x : Aw) : Prop := W.heap[b]? = some (.cells #[.int .u8 x.W, .int .u8 x.F, .bool x.G, .int .u8 x.H, .int .u8 x.O] 28 (0, 0))
section
variable {W W' : World} {b n : Nat} {x : Aw}
theorem Ab.cells (h : Ab W b x) : W.cell? ⟨b, 0, none⟩ = some (.int .u8 x.W) ∧ W.cell? ⟨b, 1, none⟩ = some (.int .u8 x.F) ∧ W.cell? ⟨b, 2, none⟩ = some (.bool x.G) ∧ W.cell? ⟨b, 3, none⟩ = some (.int .u8 x.H) ∧ W.cell? ⟨b, 4, none⟩ = some (.int .u8 x.O) := by
  unfold Ab at h; simp [World.cell?, h]
theorem Ab.lt (h : Ab W b x) : b < W.heap.size := (Array.getElem?_eq_some_iff.1 h).1
theorem Ab.below (h : Ab W b x) (hb : Below W.heap.size W W') : Ab W' b x := (hb.block b h.lt).trans h
end
theorem Ab.upto {W W' : World} {b n : Nat} {x : Aw} (h : Ab W b x) (hb : Below n W W') (hn : b < n) : Ab W' b x := (hb.block b hn).trans h
theorem Ab.new (w : World) (x : Aw) : Ab (w.alloc (.cells #[.int .u8 x.W, .int .u8 x.F, .bool x.G, .int .u8 x.H, .int .u8 x.O] 28)) w.heap.size x := heap_alloc_new w _

theorem root_to (n e : Int) (w : World) (h0 : 0 ≤ n) (h1 : n ≤ 1000000000) (he : n / 2000 = e) :
    Calls Try.prog 6 #[.int .i64 n] w fun e' w' => e' = .returned (.agg #[.int .i64 e, .int .i64 (e + 2)]) ∧ Below w.heap.size w w' := by subst he; exact root_any n w h0 h1
theorem seal_to (K F T A e : Int) (w : World) (h0 : 0 ≤ A) (h1 : A ≤ 1000000000) (he : A / 2000 = e) :
    Calls Try.prog 5 #[.agg #[.int .i64 K, .int .i64 F, .int .i64 T, .int .i64 A, .int .i64 0, .slice none 0 0], .agg #[.int .i64 e, .int .i64 (e + 2)]] w fun e' w' =>
      e' = .returned (.tuple #[.agg #[.int .i64 K, .int .i64 F, .int .i64 T, .int .i64 A, .int .i64 (e + 1), .slice none 0 0], .int .i64 0]) ∧ Below w.heap.size w w' := by
  subst he; exact seal_any ⟨K, F, T, A, 0⟩ w h0 h1
/-- What region 13 reads. -/
abbrev Sx (w1 : World) (b : Nat) (F : Int) (W : World) : Prop := W.cell? ⟨b, 1, none⟩ = some (.int .u8 F) ∧ Below w1.heap.size w1 W
theorem Sx.of {w1 W : World} {b : Nat} {F : Int} (h : w1.cell? ⟨b, 1, none⟩ = some (.int .u8 F)) (hb : Below w1.heap.size w1 W) : Sx w1 b F W := ⟨cell_below hb h, hb⟩
theorem Sx.call {w1 W W' : World} {b : Nat} {F : Int} (h0 : w1.cell? ⟨b, 1, none⟩ = some (.int .u8 F)) (h : Sx w1 b F W) (hb : Below W.heap.size W W') : Sx w1 b F W' := Sx.of h0 (B_trans h.2 hb)
theorem Sx.alloc {w1 W : World} {b : Nat} {F : Int} (h0 : w1.cell? ⟨b, 1, none⟩ = some (.int .u8 F)) (h : Sx w1 b F W) (o : Obj) : Sx w1 b F (W.alloc o) := Sx.call h0 h (B_alloc (Below.refl _ _) o)
/-- Stores of a frame, cell by cell. -/
abbrev putF (W : World) (p : Nat) (y : Fr) : World := (((((W.setCell ⟨p, 0, none⟩ (.int .i64 y.K)).setCell ⟨p, 1, none⟩ (.int .i64 y.F)).setCell ⟨p, 2, none⟩ (.int .i64 y.T)).setCell ⟨p, 3, none⟩ (.int .i64 y.A)).setCell ⟨p, 4, none⟩ (.int .i64 y.Y)).setCell ⟨p, 5, none⟩ (.slice none 0 0)
theorem below_putF {B : Nat} {W0 W : World} {p : Nat} (h : Below B W0 W) (hp : B ≤ p) (y : Fr) : Below B W0 (putF W p y) :=
  (((((h.setCell hp _).setCell hp _).setCell hp _).setCell hp _).setCell hp _).setCell hp _
theorem Fb.put {W : World} {p : Nat} {x : Fr} (h : Fb W p x) (y : Fr) : Fb (putF W p y) p y := by
  have h0 := Joins.block_setCell (w := W) (i := 0) h (.int .i64 y.K)
  have h1 := Joins.block_setCell (i := 1) h0 (.int .i64 y.F)
  have h2 := Joins.block_setCell (i := 2) h1 (.int .i64 y.T)
  have h3 := Joins.block_setCell (i := 3) h2 (.int .i64 y.A)
  have h4 := Joins.block_setCell (i := 4) h3 (.int .i64 y.Y)
  have h5 := Joins.block_setCell (i := 5) h4 (.slice none 0 0)
  simpa [Fb, putF] using h5
theorem Sx.put {w1 W : World} {b p : Nat} {F K' F' T' A' Y' : Int} (h0 : w1.cell? ⟨b, 1, none⟩ = some (.int .u8 F)) (h : Sx w1 b F W) (hp : w1.heap.size ≤ p) :
    Sx w1 b F ((((((W.setCell ⟨p, 0, none⟩ (.int .i64 K')).setCell ⟨p, 1, none⟩ (.int .i64 F')).setCell ⟨p, 2, none⟩ (.int .i64 T')).setCell ⟨p, 3, none⟩ (.int .i64 A')).setCell ⟨p, 4, none⟩ (.int .i64 Y')).setCell ⟨p, 5, none⟩ (.slice none 0 0)) :=
  Sx.of h0 (below_putF h.2 hp ⟨K', F', T', A', Y'⟩)
/-- What region 23 reads. -/
abbrev Sf (w1 : World) (b : Nat) (x : Fr) (W : World) : Prop :=
  W.cell? ⟨b, 0, none⟩ = some (.int .i64 x.K) ∧ W.cell? ⟨b, 1, none⟩ = some (.int .i64 x.F) ∧ W.cell? ⟨b, 2, none⟩ = some (.int .i64 x.T) ∧ W.cell? ⟨b, 3, none⟩ = some (.int .i64 x.A) ∧ W.cell? ⟨b, 4, none⟩ = some (.int .i64 x.Y) ∧ W.cell? ⟨b, 5, none⟩ = some (.slice none 0 0) ∧ Below w1.heap.size w1 W
theorem Sf.of {w1 W : World} {b : Nat} {x : Fr} (h : Fb w1 b x) (hb : Below w1.heap.size w1 W) : Sf w1 b x W := by
  obtain ⟨c0, c1, c2, c3, c4, c5⟩ := h.cells
  exact ⟨cell_below hb c0, cell_below hb c1, cell_below hb c2, cell_below hb c3, cell_below hb c4, cell_below hb c5, hb⟩
theorem Sf.bel {w1 W : World} {b : Nat} {x : Fr} (h : Sf w1 b x W) : Below w1.heap.size w1 W := h.2.2.2.2.2.2
theorem Sf.call {w1 W W' : World} {b : Nat} {x : Fr} (h0 : Fb w1 b x) (h : Sf w1 b x W) (hb : Below W.heap.size W W') : Sf w1 b x W' := Sf.of h0 (B_trans h.bel hb)

/-- The state between two slots: k slots passed, A the present one. -/
structure Stt (w wr : World) (k : Nat) (A : Int) (g : Nat) (hs : Option Addr) (m cs : Nat) (L : List Wn) (S : List Fr) : Prop where
  lo : 0 ≤ A
  hi : A ≤ 500000000 + 256 * k
  wins : Pl.Wall L (A + 1)
  rw_ : Rw wr g L
  len : S.length = m
  own : wr.ownsRow w.heap.size 31 6 (.slice hs m cs) m (cf S)
  old : ∀ x ∈ S, x.A ≤ A
  few : m ≤ k
  sep : ∀ j, (Value.slice hs m cs).ownBlock = some j → j ≠ g
  bel : Below w.heap.size w wr
theorem own_below {w w' : World} {base e size n : Nat} {v : Value} {xs : List Value} (h : w.ownsRow base e size v n xs) (hb : Below w.heap.size w w') : w'.ownsRow base e size v n xs :=
  World.ownsRow.kept h (row := none) ⟨hb.os, hb.tape, hb.output, hb.size, fun k hk _ => hb.block k hk⟩ (by cases hv : v.ownBlock <;> simp)
theorem Stt.old_step {w wr w' : World} {k : Nat} {A A1 : Int} {g : Nat} {hs : Option Addr} {m cs : Nat} {L : List Wn} {S : List Fr} {W : Int} (h : Stt w wr k A g hs m cs L S) (h0 : 0 ≤ W) (h1 : W ≤ 255) (hA : A1 = A + (1 + W)) (hb : Below wr.heap.size wr w') : Stt w w' (k + 1) A1 g hs m cs L S := by
  have := h.lo
  have := h.hi
  exact ⟨by omega, by push_cast; omega, Pl.wall_mono h.wins (by omega), h.rw_.below hb, h.len, own_below h.own hb, fun x hx => by have := h.old x hx; omega, by have := h.few; omega, h.sep, B_trans h.bel hb⟩
/-- What stands behind the append of the new frame. -/
structure Mid (w W3 : World) (p xb g : Nat) (y : Fr) (x : Aw) (hs : Option Addr) (m cs : Nat) (L : List Wn) (S : List Fr) : Prop where
  fb : Fb W3 p y
  ab : Ab W3 xb x
  rw_ : Rw W3 g L
  own : W3.ownsRow w.heap.size 31 6 (.slice hs m cs) m (cf S)
  sep : ∀ j, (Value.slice hs m cs).ownBlock = some j → j < W3.heap.size ∧ j ≠ g
  bel : Below w.heap.size w W3
theorem Fb.grown {w w' : World} {b : Nat} {x : Fr} {row : Option Nat} (h : Fb w b x) (hg : w.grownBy w' row) (hne : some b ≠ row) : Fb w' b x := (hg.block b h.lt hne).trans h
theorem Ab.grown {w w' : World} {b : Nat} {x : Aw} {row : Option Nat} (h : Ab w b x) (hg : w.grownBy w' row) (hne : some b ≠ row) : Ab w' b x := (hg.block b h.lt hne).trans h
theorem Rw.grown {w w' : World} {g : Nat} {L : List Wn} {row : Option Nat} (h : Rw w g L) (hg : w.grownBy w' row) (hne : some g ≠ row) : Rw w' g L :=
  ⟨Nat.lt_of_lt_of_le h.1 hg.size, fun j u hu => (World.cell?_of_block (hg.block g h.1 hne)).trans (h.2 j u hu)⟩
theorem Stt.mid {w wr W W3 : World} {k : Nat} {A : Int} {g : Nat} {hs hs' : Option Addr} {m cs cs' p xb : Nat} {L : List Wn} {S : List Fr} {y : Fr} {x : Aw} (h : Stt w wr k A g hs m cs L S) (hp : Fb W p y) (hx : Ab W xb x) (hpb : wr.heap.size ≤ p) (hxb : wr.heap.size ≤ xb) (hb : Below wr.heap.size wr W)
    (ho : W3.ownsRow w.heap.size 31 6 (.slice hs' (m + 1) cs') (m + 1) (cf (S ++ [y]))) (hg : W.grownBy W3 (Value.slice hs m cs).ownBlock)
    (hbl : (Value.slice hs' (m + 1) cs').ownBlock = (Value.slice hs m cs).ownBlock ∨ (Value.slice hs' (m + 1) cs').ownBlock = some W.heap.size) : Mid w W3 p xb g y x hs' (m + 1) cs' L (S ++ [y]) := by
  have hlt : ∀ j, (Value.slice hs m cs).ownBlock = some j → w.heap.size ≤ j ∧ j < wr.heap.size := fun j hj => h.own.lt j hj
  have hne : ∀ b, wr.heap.size ≤ b → some b ≠ (Value.slice hs m cs).ownBlock := fun b hb' e => by have := (hlt b e.symm).2; omega
  refine ⟨hp.grown hg (hne p hpb), hx.grown hg (hne xb hxb), (h.rw_.below hb).grown hg (fun e => h.sep g e.symm rfl), ho, fun j hj => ⟨(ho.lt j hj).2, ?_⟩, ?_⟩
  · rcases hbl with e | e
    · rw [e] at hj; exact h.sep j hj
    · rw [e] at hj
      have : W.heap.size = j := Option.some.inj hj
      have h1 := (h.rw_.below hb).1
      omega
  · exact (B_trans h.bel hb).grown hg (B_trans h.bel hb).size fun j hj => (hlt j hj).1
theorem Mid.new_step {w wr W3 w' : World} {k : Nat} {A A1 : Int} {g g' : Nat} {hs hs0 : Option Addr} {m cs cs0 p xb i : Nat} {L : List Wn} {S0 : List Fr} {y : Fr} {x : Aw} {W : Int} {B : Nat} (h : Stt w wr k A g hs0 m cs0 L S0) (h0 : 0 ≤ W) (h1 : W ≤ 255) (hA : A1 = A + (1 + W))
    (hM : Mid w W3 p xb g y x hs (m + 1) cs L (S0 ++ [y])) (hy : y.A = A1) (hw : Pl.Wok ⟨A1 + 1, B⟩ (A1 + 1)) (hr : Rw w' g' (L.set i ⟨A1 + 1, B⟩)) (hg : W3.heap.size ≤ g') (hb : Below W3.heap.size W3 w') : Stt w w' (k + 1) A1 g' hs (m + 1) cs (L.set i ⟨A1 + 1, B⟩) (S0 ++ [y]) := by
  have := h.lo
  have := h.hi
  refine ⟨by omega, by push_cast; omega, Pl.wall_set h.wins (by omega) i hw, hr, by rw [List.length_append, h.len]; rfl, own_below hM.own hb, fun z hz => ?_, by have := h.few; omega, fun j hj => by have := (hM.sep j hj).1; omega, B_trans hM.bel hb⟩
  rcases List.mem_append.1 hz with h2 | h2
  · have := h.old z h2; omega
  · rw [List.mem_singleton] at h2; subst h2; omega

theorem acc_old_to (v : Value) (K F T A Y n e : Int) (w : World) (h0 : 0 ≤ n) (h1 : n ≤ 1000000000) (hx : A ≠ n) (he : n / 2000 = e) :
    Calls Try.prog 7 #[v, .agg #[.int .i64 K, .int .i64 F, .int .i64 T, .int .i64 A, .int .i64 Y, .slice none 0 0], .agg #[.int .i64 e, .int .i64 (e + 2)], .int .i64 n] w fun e' w' => e' = .returned (.tuple #[v, .bool false]) ∧ Below w.heap.size w w' := by
  subst he; exact acc_old v ⟨K, F, T, A, Y⟩ n w h0 h1 hx
theorem acc_ref_to (g : Nat) (L : List Wn) (i cap : Nat) (K T A F t e : Int) (b : Nat) (w : World) (hL : Rw w g L) (hn : L.length = 4) (hi : i < 4) (hF : F = i) (hg : gw L i = ⟨t, b⟩) (hbt : b < 2 ^ 64) (h0 : 0 ≤ A) (h1 : A < 1000000000) (he : A / 2000 = e) (hne : Pl.note t b (A + 1) = ⟨0, 0, 14⟩) :
    Calls Try.prog 7 #[.slice (some ⟨g, 0, none⟩) 4 cap, .agg #[.int .i64 K, .int .i64 F, .int .i64 T, .int .i64 A, .int .i64 (e + 1), .slice none 0 0], .agg #[.int .i64 e, .int .i64 (e + 2)], .int .i64 A] w fun e' w' =>
      e' = .returned (.tuple #[.slice (some ⟨g, 0, none⟩) 4 cap, .bool false]) ∧ Below w.heap.size w w' := by
  subst he hF; exact acc_ref g L i 4 cap K T A t b w hL hn hi hg hbt h0 h1 0 0 hne (by omega)
theorem acc_new_to (g : Nat) (L : List Wn) (i cap : Nat) (K T A F t e : Int) (b B : Nat) (w : World) (hL : Rw w g L) (hn : L.length = 4) (hi : i < 4) (hF : F = i) (hg : gw L i = ⟨t, b⟩) (hbt : b < 2 ^ 64) (h0 : 0 ≤ A) (h1 : A < 1000000000) (he : A / 2000 = e) (hne : Pl.note t b (A + 1) = ⟨A + 1, B, 0⟩) :
    Calls Try.prog 7 #[.slice (some ⟨g, 0, none⟩) 4 cap, .agg #[.int .i64 K, .int .i64 F, .int .i64 T, .int .i64 A, .int .i64 (e + 1), .slice none 0 0], .agg #[.int .i64 e, .int .i64 (e + 2)], .int .i64 A] w fun e' w' =>
      ∃ g' cap', e' = .returned (.tuple #[.slice (some ⟨g', 0, none⟩) 4 cap', .bool true]) ∧ Rw w' g' (L.set i ⟨A + 1, B⟩) ∧ w.heap.size ≤ g' ∧ Below w.heap.size w w' := by
  subst he hF; exact acc_new g L i 4 cap K T A t b w hL hn hi hg hbt h0 h1 (A + 1) B hne (by omega)
end Go.Proofs.Ytffdcnjddoakbaa
