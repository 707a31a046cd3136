/-
  The iterator halves by its contract: it yields the upper halves of the next states until a round says that there is no more. Its state lies in a cell of its own, so the caller's invariant must abide writes to that cell.
-/
import Derived.Test.YtomfbadniajnlaaDoorNext
import Derived.RangeFuncNested
import Derived.RangeFuncBound
import Derived.RangeFuncCalls
import Derived.RangeFuncLeaves
import Derived.Shelf.Abstract
import Derived.Shelf.RegionOpen
import Derived.OwnWalkIn
import Derived.TacticsInMore
import Derived.LoopNIn
import Derived.LoopIn
import Derived.Sort.LoopGhostIn
namespace Go.Proofs.YtomfbadniajnlaaDoor
open Go.RowKit Go.Shelf

/-- B arises from A by new blocks, by writes to block b, and by turns of what holds no cells, from block n0 on. -/
structure Kp (n0 b : Nat) (A B : World) : Prop where
  below : Below n0 A B
  size : A.heap.size ≤ B.heap.size
  same : ∀ (k : Nat) (o : Obj), A.heap[k]? = some o → o.isCells = true → k ≠ b → B.heap[k]? = some o
theorem Kp.refl (n0 b : Nat) (A : World) : Kp n0 b A A := ⟨Below.refl _ _, Nat.le_refl _, fun _ _ h _ _ => h⟩
theorem Kp.trans {n0 b : Nat} {A B C : World} (h : Kp n0 b A B) (k : Kp n0 b B C) : Kp n0 b A C :=
  ⟨h.below.trans k.below, Nat.le_trans h.size k.size, fun i o hi ho hb => k.same i o (h.same i o hi ho hb) ho hb⟩
theorem Kp.of_below {n0 b : Nat} {A B : World} (hb : Below A.heap.size A B) (hn : n0 ≤ A.heap.size) : Kp n0 b A B :=
  ⟨hb.mono hn, hb.size, fun k _ hk _ _ => (hb.block k (Array.getElem?_eq_some_iff.1 hk).1).trans hk⟩
theorem Kp.put {n0 b : Nat} (A : World) {l : Nat} {o : Obj} (o' : Obj) (hl : n0 ≤ l) (h : A.heap[l]? = some o) (ho : o.isCells = false) : Kp n0 b A (A.putObj l o') :=
  ⟨⟨rfl, rfl, rfl, by simp, fun k hk => World.putObj_heap_other (by omega)⟩, by simp, fun k x hk hx _ => (World.putObj_heap_other (by rintro rfl; rw [h] at hk; cases hk; rw [ho] at hx; cases hx)).trans hk⟩
theorem Kp.cell {n0 b : Nat} (A : World) (i : Nat) (v : Value) (hb : n0 ≤ b) : Kp n0 b A (A.setCell ⟨b, i, none⟩ v) :=
  ⟨(Below.refl _ _).setCell hb _, by show _ ≤ (A.heap.modify _ _).size; rw [Array.size_modify]; exact Nat.le_refl _, fun k _ hk _ hne => (Below.heap_setCell A ⟨b, i, none⟩ v k hne).trans hk⟩

/-- B arises from A by new blocks and by writes to block b alone. -/
structure Kn (n0 b : Nat) (A B : World) : Prop where
  below : Below n0 A B
  size : A.heap.size ≤ B.heap.size
  same : ∀ k : Nat, k < A.heap.size → k ≠ b → B.heap[k]? = A.heap[k]?
theorem Kn.of_below {n0 b : Nat} {A B : World} (hb : Below A.heap.size A B) (hn : n0 ≤ A.heap.size) : Kn n0 b A B :=
  ⟨hb.mono hn, hb.size, fun k hk _ => hb.block k hk⟩
theorem Kn.cell {n0 b : Nat} (A : World) (i : Nat) (v : Value) (hb : n0 ≤ b) : Kn n0 b A (A.setCell ⟨b, i, none⟩ v) :=
  ⟨(Below.refl _ _).setCell hb _, by show _ ≤ (A.heap.modify _ _).size; rw [Array.size_modify]; exact Nat.le_refl _, fun k _ hne => Below.heap_setCell A ⟨b, i, none⟩ v k hne⟩
theorem Kn.kp {n0 b : Nat} {A B : World} (h : Kn n0 b A B) : Kp n0 b A B :=
  ⟨h.below, h.size, fun k _ hk _ hne => (h.same k (Array.getElem?_eq_some_iff.1 hk).1 hne).trans hk⟩

/-- The iterator's own cell. -/
def Seed (W : World) (b : Nat) (s : Nat) : Prop := W.heap[b]? = some (.cells #[.int .u64 s] 48 (0, 0))
theorem Seed.cell {W : World} {b s : Nat} (h : Seed W b s) : W.cell? ⟨b, 0, none⟩ = some (.int .u64 s) ∧ W.frozen? ⟨b, 0, none⟩ = false := by
  unfold Seed at h; exact ⟨by simp [World.cell?, h], by simp [World.frozen?, h]⟩
theorem Seed.set {W : World} {b s : Nat} (h : Seed W b s) (t : Nat) : Seed (W.setCell ⟨b, 0, none⟩ (.int .u64 t)) b t :=
  Joins.block_setCell (w := W) (i := 0) h (.int .u64 t)
theorem Seed.lt {W : World} {b s : Nat} (h : Seed W b s) : b < W.heap.size := (Array.getElem?_eq_some_iff.1 h).1
theorem Seed.below {W W' : World} {b s : Nat} (h : Seed W b s) (hb : Below W.heap.size W W') : Seed W' b s := (hb.block b h.lt).trans h

set_option maxHeartbeats 1000000 in
theorem halves_in (m l b n0 : Nat) (s : Nat) (J : Nat → World → Prop) (Jx : World → Prop) (N : Nat) (W : World) (hbn : n0 ≤ b)
    (hJ : ∀ k A B, J k A → Kn n0 b A B → J k B) (hJn : ∀ k A, J k A → n0 ≤ A.heap.size ∧ Laid A)
    (hY : ∀ k W1, J k W1 → Seed W1 b (Pl.st s (k + 1)) → k < N → YieldAt Fence.wide (m - 1) Tryd.prog l #[.int .i64 (Pl.half (Pl.st s (k + 1)) : Nat)] W1 fun e W' =>
      (e = .returned (.bool true) ∧ k + 1 < N ∧ J (k + 1) W' ∧ Seed W' b (Pl.st s (k + 1))) ∨ (e = .returned (.bool false) ∧ Jx W'))
    (h0 : J 0 W) (hs : Seed W b s) (hlt : s < 2 ^ 64) (hN : 0 < N) :
    CallsIn Fence.wide m Tryd.prog 35 #[.func (.yield l) #[] #[], .pointer (some ⟨b, 0, none⟩)] W fun e W' => (∃ v, e = .returned v) ∧ Jx W' := by
  have hro : Fence.wide.round = none := rfl
  refine callsIn_of_wp Tryd.func35 rfl trivial ?_ hro
  simp only [Tryd.ntmps35, List.size_toArray, List.length_cons, List.length_nil, Nat.reduceAdd, Nat.reduceSub, Array.replicate_succ, Array.replicate_zero, List.push_toArray, List.append_toArray, List.nil_append, List.cons_append]
  obtain ⟨c0, f0⟩ := hs.cell
  have HL := (hJn 0 W h0).2
  gi_wp2_with fail
  refine ⟨trivial, fun h => (by cases h), ?_⟩
  refine (callsIn_wide.2 (next_any s _ HL)).mono ?_
  rintro e w1 ⟨rfl, hb1⟩
  have hs1 := hs.below hb1
  have hK1 := Kn.of_below (n0 := n0) (b := b) hb1 (hJn 0 W h0).1
  obtain ⟨d0, g0⟩ := hs1.cell
  clear c0 f0
  gi_wp2_with fail
  gi_loopg [] N (fun g wr => ∃ k : Nat, k + g = N ∧ k < N ∧ J k wr ∧ Seed wr b (Pl.st s (k + 1)))
  case atStart => exact ⟨0, by omega, hN, hJ _ _ _ (hJ _ _ _ h0 hK1) (Kn.cell w1 0 _ hbn), hs1.set _⟩
  case round =>
    obtain ⟨k, hkg, hkN, hj, hsd⟩ := hrel
    obtain ⟨c0, f0⟩ := hsd.cell
    obtain ⟨fn, tmps, assign, body, hy, hR⟩ := hY k wr hj hsd hkN
    have hlt1 := Pl.st_lt hlt (k + 1)
    have e : ((Pl.half (Pl.st s (k + 1)) : Nat) : Int) = ((Pl.st s (k + 1) : Nat) : Int) / 4294967296 := by simp [Pl.half]
    rw [e] at hy
    clear e
    generalize hX : Pl.st s (k + 1) = X at *
    have HX := Lib.hid hX
    clear hX
    gi_wp2_with fail
    refine ⟨fun h => (by cases h), ?_⟩
    refine hR.mono ?_
    rintro e W1 (⟨rfl, hk1, hj1, hsd1⟩ | ⟨rfl, hx⟩)
    · clear c0 f0
      obtain ⟨c0, f0⟩ := hsd1.cell
      have HL1 := (hJn _ _ hj1).2
      gi_wp2_with fail
      refine ⟨trivial, fun h => (by cases h), ?_⟩
      refine (callsIn_wide.2 (next_any X _ HL1)).mono ?_
      rintro e w2 ⟨rfl, hb2⟩
      have hs2 := hsd1.below hb2
      have hK2 := Kn.of_below (n0 := n0) (b := b) hb2 (hJn _ _ hj1).1
      clear c0 f0
      obtain ⟨c0, f0⟩ := hs2.cell
      gi_wp2_with fail
      gi_roundg (gk - 1)
      case rel => exact ⟨k + 1, by omega, hk1, hJ _ _ _ (hJ _ _ _ hj1 hK2) (Kn.cell w2 0 _ hbn), by rw [show Pl.st s (k + 1 + 1) = Pl.next (Pl.st s (k + 1)) from rfl, HX.out]; exact hs2.set _⟩
      case measure => omega
    · gi_wp2_with fail
      go_end0
      exact ⟨⟨_, rfl⟩, hx⟩

/-- What a round of the caller's keeps for the iterator and for the loop's own record. -/
structure Rk (n0 b : Nat) (W W' : World) : Prop where
  others : KeepsOthers W W'
  seed : W'.heap[b]? = W.heap[b]?
  below : Below n0 W W'

/-- How a round of the caller's may be left. -/
def roundEnd (n0 b N : Nat) (I : Nat → World → Prop) (Ix : Code → World → Prop) (k : Nat) (W : World) : Exit → Act → World → Prop
  | .normal, _, W' => k + 1 < N ∧ Rk n0 b W W' ∧ I (k + 1) W'
  | .ret, _, W' => Rk n0 b W W' ∧ Ix .ret W'
  | .exit id, _, W' => Rk n0 b W W' ∧ Ix (.exit id) W'
  | .goto t, _, W' => Rk n0 b W W' ∧ Ix (.goto t) W'
  | .panic _, _, _ => False
  | .outgrown, _, _ => False

set_option maxHeartbeats 1000000 in
/-- A loop over halves(s), which a round must leave at last: what follows is walked from the jump by which a round has left. -/
theorem wp_halves {g : Operand} {ps : Array Tmp} {assign body : Code} {Q : Exit → Act → World → Prop} {a : Act} {w : World} (m b n0 s N : Nat)
    (hg : a.eval g = .func (.func 35) #[] #[.pointer (some ⟨b, 0, none⟩)]) (hps : ps.size = 1) (hsd : Seed w b s) (hlt : s < 2 ^ 64) (hbn : n0 ≤ b) (hL : Laid w) (hn0 : 0 < n0) (hN : 0 < N)
    (I : Nat → World → Prop) (Ix : Code → World → Prop) (hI : ∀ k A B, I k A → Kp n0 b A B → I k B) (hIx : ∀ c A B, Ix c A → Kp n0 b A B → Ix c B) (h0 : I 0 w) (a₁ : Int → Act)
    (hassign : ∀ (l : Nat) (x : Int) (W : World) (K : Act → World → Prop), K (a₁ x) W →
      assign.wpIn (Fence.wide.inRound l) (m - 1 - 1) Tryd.prog (Exit.then K (fun _ _ _ => False)) { tmps := (ps.zip #[.int .i64 x]).foldl (fun t (p, v) => t.setIfInBounds p v) a.tmps, defers := [] } W)
    (hbody : ∀ (l k : Nat) (W : World), I k W → Seed W b (Pl.st s (k + 1)) → k < N → Laid W → n0 ≤ W.heap.size →
      body.wpIn (Fence.wide.inRound l) (m - 1 - 1) Tryd.prog (roundEnd n0 b N I Ix k W) (a₁ (Pl.half (Pl.st s (k + 1)) : Nat)) W)
    (hstop : ∀ (D : Nat) (c : Code) (W : World), n0 ≤ D → Ix c W → W.heap[D]? = some (.deferred (some [])) → c.wpIn Fence.wide m Tryd.prog Q { a with defers := { target := .collected D, args := #[] } :: a.defers } W) :
    (Code.rangeFunc g ps assign body).wpIn Fence.wide m Tryd.prog Q a w := by
  refine wpIn_rangeFunc ?_
  intro fn hfn
  rw [show Fence.wide.round = none from rfl]
  have hbw := hsd.lt
  obtain ⟨rec, hrec⟩ : ∃ rec : LoopState → Option Code → Loop, rec = fun st pe => { state := st, pending := pe, fn, tmps := a.tmps, params := ps, assign, body, defers := w.heap.size } := ⟨_, rfl⟩
  obtain ⟨W1, hW1⟩ : ∃ W1, (w.alloc (.deferred (some []))).alloc (.loop (rec .ready none)) = W1 := ⟨_, rfl⟩
  have hBl : Below w.heap.size w W1 := by rw [← hW1]; exact B_alloc (B_alloc (Below.refl _ _) _) _
  have hL1 : W1.heap[w.heap.size + 1]? = some (.loop (rec .ready none)) := by
    rw [← hW1]; have := World.alloc_heap_new (w.alloc (.deferred (some []))) (.loop (rec .ready none)); rwa [World.size_alloc] at this
  have hK1 : W1.heap[w.heap.size]? = some (.deferred (some [])) := by
    rw [← hW1]; exact (Below.heap_alloc _ _ _ (by simp)).trans (World.alloc_heap_new w _)
  refine ⟨w.heap.size + 1, [{ target := .collected w.heap.size, args := #[] }], W1, { target := .fn (.func 35) #[.pointer (some ⟨b, 0, none⟩)], args := #[.func (.yield (w.heap.size + 1)) #[] #[]] }, W1, 35,
    #[.func (.yield (w.heap.size + 1)) #[] #[], .pointer (some ⟨b, 0, none⟩)], W1, ?_, ?_, ?_, ?_, fun h => (by cases h), ?_⟩
  · rw [← hW1, hrec]; exact run_enterLoop_outer _ _ _ _ _
  · simp only [resolve, hg]
    simp [go_sem]
  · intro f' _; trivial
  · have eg := enters_of (P := Tryd.prog) Tryd.func35 (by kernel_rfl) rfl
    simp [invoke, go_sem, eg]
  · have kn : ∀ {A B : World} {r : Nat} {o : Obj}, Kn n0 b A B → A.heap[r]? = some o → r ≠ b → B.heap[r]? = some o := fun h hr hne => (h.same _ (Array.getElem?_eq_some_iff.1 hr).1 hne).trans hr
    refine (halves_in (m - 1) (w.heap.size + 1) b n0 s
      (fun k W => I k W ∧ W.heap[w.heap.size + 1]? = some (.loop (rec .ready none)) ∧ W.heap[w.heap.size]? = some (.deferred (some [])) ∧ n0 ≤ W.heap.size ∧ Laid W)
      (fun W => ∃ c, Ix c W ∧ W.heap[w.heap.size + 1]? = some (.loop (rec .done (some c))) ∧ W.heap[w.heap.size]? = some (.deferred (some [])))
      N W1 hbn (fun k A B h hk => ⟨hI k A B h.1 hk.kp, kn hk h.2.1 (by omega), kn hk h.2.2.1 (by omega), Nat.le_trans h.2.2.2.1 hk.size, h.2.2.2.2.upto hk.below hn0⟩)
      (fun k A h => h.2.2.2) ?_ ⟨hI 0 _ _ h0 (Kp.of_below hBl (by omega)), hL1, hK1, by have := hBl.size; omega, hL.below hBl⟩ (hsd.below hBl) hlt hN).mono ?_
    · -- one round
      rintro k W ⟨hi, hl, hk, hsz, hLW⟩ hsW hkN
      have hltl : w.heap.size + 1 < W.heap.size := (Array.getElem?_eq_some_iff.1 hl).1
      have hy := run_yield (P := Tryd.prog) (args := #[.int .i64 (Pl.half (Pl.st s (k + 1)) : Nat)]) hl (by rw [hrec]; simp [hps])
      rw [hrec] at hy
      refine ⟨fn, _, assign, body, hy, roundIn_of_wpIn hfn (hassign _ _ W _ ⟨_, run_beginRound hl (by rw [hrec]), ?_⟩)⟩
      have hl2 : (W.putObj (w.heap.size + 1) (.loop { rec .ready none with state := .busy })).heap[w.heap.size + 1]? = some (.loop { rec .ready none with state := .busy }) := World.putObj_heap_same hltl
      have hk2 : (W.putObj (w.heap.size + 1) (.loop { rec .ready none with state := .busy })).heap[w.heap.size]? = some (.deferred (some [])) := (World.putObj_heap_other (by omega)).trans hk
      have hkp : Kp n0 b W (W.putObj (w.heap.size + 1) (.loop { rec .ready none with state := .busy })) := Kp.put W _ (by omega) hl rfl
      have hs2 : Seed (W.putObj (w.heap.size + 1) (.loop { rec .ready none with state := .busy })) b (Pl.st s (k + 1)) := (World.putObj_heap_other (by omega)).trans hsW
      refine wpIn_mono (hbody _ k _ (hI _ _ _ hi hkp) hs2 hkN (hLW.upto hkp.below hn0) (by simpa using hsz)) ?_
      have fin : ∀ (jump : Option Code) (W3 : World), Rk n0 b (W.putObj (w.heap.size + 1) (.loop { rec .ready none with state := .busy })) W3 →
          (Instr.endRound (w.heap.size + 1) jump).run Tryd.prog W3 = .ok (.bool jump.isNone) (W3.putObj (w.heap.size + 1) (.loop (rec (if jump.isNone then .ready else .done) jump))) ∧
          (W3.putObj (w.heap.size + 1) (.loop (rec (if jump.isNone then .ready else .done) jump))).heap[w.heap.size + 1]? = some (.loop (rec (if jump.isNone then .ready else .done) jump)) ∧
          (W3.putObj (w.heap.size + 1) (.loop (rec (if jump.isNone then .ready else .done) jump))).heap[w.heap.size]? = some (.deferred (some [])) ∧
          Kp n0 b W3 (W3.putObj (w.heap.size + 1) (.loop (rec (if jump.isNone then .ready else .done) jump))) ∧
          Seed (W3.putObj (w.heap.size + 1) (.loop (rec (if jump.isNone then .ready else .done) jump))) b (Pl.st s (k + 1)) ∧
          n0 ≤ (W3.putObj (w.heap.size + 1) (.loop (rec (if jump.isNone then .ready else .done) jump))).heap.size ∧
          Laid (W3.putObj (w.heap.size + 1) (.loop (rec (if jump.isNone then .ready else .done) jump))) := fun jump W3 hk3 => by
        have hl3 := hk3.others.same _ _ hl2 rfl
        have hend := run_endRound (P := Tryd.prog) jump hl3
        have hkp3 : Kp n0 b W3 (W3.putObj (w.heap.size + 1) (.loop (rec (if jump.isNone then .ready else .done) jump))) := Kp.put W3 _ (by omega) hl3 rfl
        have hz3 := hk3.others.size
        rw [World.putObj_size] at hz3
        refine ⟨by rw [hrec] at hend ⊢; exact hend, World.putObj_heap_same (Array.getElem?_eq_some_iff.1 hl3).1, (World.putObj_heap_other (by omega)).trans (hk3.others.same _ _ hk2 rfl), hkp3,
          (World.putObj_heap_other (by omega)).trans (hk3.seed.trans hs2), by rw [World.putObj_size]; omega, ((hLW.upto hkp.below hn0).upto hk3.below hn0).upto hkp3.below hn0⟩
      rintro e a3 W3 hp
      cases e with
      | normal =>
        obtain ⟨hkn, hk3, hi3⟩ := hp
        obtain ⟨hr, hl4, hk4, hkp4, hs4, hz4, hL4⟩ := fin none W3 hk3
        exact ⟨_, _, hr, .inl ⟨rfl, hkn, ⟨hI _ _ _ hi3 hkp4, hl4, hk4, hz4, hL4⟩, hs4⟩⟩
      | ret =>
        obtain ⟨hk3, hi3⟩ := hp
        obtain ⟨hr, hl4, hk4, hkp4, _⟩ := fin (some .ret) W3 hk3
        exact ⟨_, _, hr, .inr ⟨rfl, .ret, hIx _ _ _ hi3 hkp4, hl4, hk4⟩⟩
      | exit id =>
        obtain ⟨hk3, hi3⟩ := hp
        obtain ⟨hr, hl4, hk4, hkp4, _⟩ := fin (some (.exit id)) W3 hk3
        exact ⟨_, _, hr, .inr ⟨rfl, .exit id, hIx _ _ _ hi3 hkp4, hl4, hk4⟩⟩
      | goto t =>
        obtain ⟨hk3, hi3⟩ := hp
        obtain ⟨hr, hl4, hk4, hkp4, _⟩ := fin (some (.goto t)) W3 hk3
        exact ⟨_, _, hr, .inr ⟨rfl, .goto t, hIx _ _ _ hi3 hkp4, hl4, hk4⟩⟩
      | panic ch => exact hp.elim
      | outgrown => exact hp.elim
    · -- behind the iterator
      rintro e W2 ⟨⟨v, rfl⟩, c, hi, hl, hk⟩
      exact ⟨some c, _, by have := run_endLoop (P := Tryd.prog) hl (by rw [hrec]; simp); rw [hrec] at this; exact this,
        hstop _ c _ (by omega) (hIx c _ _ hi (Kp.put W2 _ (by omega) hl rfl)) ((World.putObj_heap_other (by omega)).trans hk)⟩
end Go.Proofs.YtomfbadniajnlaaDoor
