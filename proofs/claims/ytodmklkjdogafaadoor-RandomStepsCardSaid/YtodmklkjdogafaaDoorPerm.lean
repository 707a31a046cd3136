/-
  random.Perm returns the permutation of the plain law. Condition: the table of steps reads as its initialiser lays it.
-/
import Derived.Test.YtodmklkjdogafaaDoorRound
import Derived.Test.YtodmklkjdogafaaDoorPermPlain
import Derived.Deep.OwnRows
import Derived.BigRegion
namespace Go.Proofs.YtodmklkjdogafaaDoor
open Go.RowKit Go.Shelf
attribute [local go_sem] Oper.semAt_some

/-- Block b holds these numbers. -/
def Lst (W : World) (b : Nat) (l : List Int) : Prop := W.heap[b]? = some (.cells (l.map fun x => Value.int .i64 x).toArray 3 (0, 0))
theorem Lst.cell {W : World} {b : Nat} {l : List Int} (h : Lst W b l) {i : Nat} (hi : i < l.length) : W.cell? ⟨b, i, none⟩ = some (.int .i64 (l.getD i 0)) := by
  unfold Lst at h; rw [Pl.gd hi]; simp [World.cell?, h, hi]
theorem Lst.frozen {W : World} {b : Nat} {l : List Int} (h : Lst W b l) (i : Nat) : W.frozen? ⟨b, i, none⟩ = false := by
  unfold Lst at h; simp [World.frozen?, h]
theorem Lst.set {W : World} {b : Nat} {l : List Int} (h : Lst W b l) (i : Nat) (x : Int) : Lst (W.setCell ⟨b, i, none⟩ (.int .i64 x)) b (l.set i x) := by
  have := Joins.block_setCell (w := W) (i := i) h (.int .i64 x)
  unfold Lst
  rw [this]
  simp [List.map_set]
theorem Lst.far {W : World} {b c : Nat} {l : List Int} (h : Lst W b l) (i : Nat) (v : Value) (hne : b ≠ c) : Lst (W.setCell ⟨c, i, none⟩ v) b l :=
  (Below.heap_setCell W ⟨c, i, none⟩ v b hne).trans h
theorem Lst.lt {W : World} {b : Nat} {l : List Int} (h : Lst W b l) : b < W.heap.size := (Array.getElem?_eq_some_iff.1 h).1
theorem Lst.below {W W' : World} {b : Nat} {l : List Int} (h : Lst W b l) (hb : Below W.heap.size W W') : Lst W' b l := (hb.block b h.lt).trans h
theorem Lst.made (W : World) (N : Nat) : Lst (W.alloc (.cells (madeCells #[.int .i64 0] N) 3)) W.heap.size (Pl.fill N 0) := by
  unfold Lst
  rw [World.alloc_heap_new W _, Pl.fill_zero]
  have e : madeCells #[Value.int .i64 0] N = Array.replicate N (Value.int .i64 0) := by
    refine Array.ext (by simp [madeCells]) fun i h1 h2 => ?_
    simp [madeCells, Nat.mod_one]
  rw [e]
  simp

/-- Block b is one cell that holds v. -/
def Box (W : World) (b : Nat) (v : Value) (t : TypeId) : Prop := W.heap[b]? = some (.cells #[v] t (0, 0))
theorem Box.cell {W : World} {b : Nat} {v : Value} {t : TypeId} (h : Box W b v t) : W.cell? ⟨b, 0, none⟩ = some v := by unfold Box at h; simp [World.cell?, h]
theorem Box.frozen {W : World} {b : Nat} {v : Value} {t : TypeId} (h : Box W b v t) : W.frozen? ⟨b, 0, none⟩ = false := by unfold Box at h; simp [World.frozen?, h]
theorem Box.set {W : World} {b : Nat} {v : Value} {t : TypeId} (h : Box W b v t) (u : Value) : Box (W.setCell ⟨b, 0, none⟩ u) b u t := Joins.block_setCell (w := W) (i := 0) h u
theorem Box.far {W : World} {b c : Nat} {v : Value} {t : TypeId} (h : Box W b v t) (i : Nat) (u : Value) (hne : b ≠ c) : Box (W.setCell ⟨c, i, none⟩ u) b v t :=
  (Below.heap_setCell W ⟨c, i, none⟩ u b hne).trans h
theorem Box.new (W : World) (v : Value) (t : TypeId) : Box (W.alloc (.cells #[v] t)) W.heap.size v t := World.alloc_heap_new W _
theorem Box.lt {W : World} {b : Nat} {v : Value} {t : TypeId} (h : Box W b v t) : b < W.heap.size := (Array.getElem?_eq_some_iff.1 h).1
theorem Box.below {W W' : World} {b : Nat} {v : Value} {t : TypeId} (h : Box W b v t) (hb : Below W.heap.size W W') : Box W' b v t := (hb.block b h.lt).trans h
theorem size_setCell (W : World) (p : Addr) (v : Value) : (W.setCell p v).heap.size = W.heap.size := by
  show (W.heap.modify _ _).size = _; rw [Array.size_modify]

def noDefer (ops : Array Oper) : Bool := ops.all fun o => match o.op with | .defer _ => false | _ => true
theorem noDefer_spec {ops : Array Oper} (h : noDefer ops = true) (i : Nat) (o : Oper) (ho : ops[i]? = some o) : ∀ c, o.op ≠ .defer c := by
  intro c e
  have := Array.all_eq_true.1 h i (Array.getElem?_eq_some_iff.1 ho).1
  rw [(Array.getElem?_eq_some_iff.1 ho).2, e] at this
  simp at this

theorem info3 : (Tryd.prog.info? 3).map (fun i => (i.zero, i.size, i.bytes)) = some (some (.int .i64 0), 1, 8) := by kernel_rfl

set_option maxHeartbeats 400000 in
theorem perm_none (s : Nat) (n : Int) (w : World) (hn : n < 1 ∨ 1000 < n) :
    Calls Tryd.prog 15 #[.int .u64 s, .int .i64 n] w fun e w' => e = .returned (.slice none 0 0) ∧ Below w.heap.size w w' := by
  go_enter Tryd.func15, Tryd.ntmps15
  go_wp2_with fail
  all_goals
    go_ret
    exact ⟨rfl, Below.refl _ _⟩

set_option maxHeartbeats 4000000 in
theorem perm_any (s N : Nat) (w : World) (hlt : s < 2 ^ 64) (hL : Laid w) (hN1 : 1 ≤ N) (hN2 : N ≤ 1000) :
    Calls Tryd.prog 15 #[.int .u64 s, .int .i64 (N : Nat)] w fun e w' => e = .returned (.slice (some ⟨w.heap.size, 0, none⟩) N N) ∧ Lst w' w.heap.size (Pl.perm s N) ∧ Below w.heap.size w w' := by
  have hmk : ∀ W : World, (Instr.makeSlice 27 (.int .i64 ((N : Nat) : Int)) (.int .i64 ((N : Nat) : Int))).run Tryd.prog W = .ok (.slice (some ⟨W.heap.size, 0, none⟩) N N) (W.alloc (.cells (madeCells #[.int .i64 0] N) 3)) :=
    fun W => run_make_row' 27 3 (.int .i64 0) 8 Tryd.underlying27 info3 rfl .i64 .i64 N (by omega) (by omega) W
  have n1 : ¬ ((N : Int) < 1) := by omega
  have n2 : ¬ ((1000 : Int) < N) := by omega
  refine (callsIn_wide (n := 10)).1 ?_
  refine callsIn_of_wp_marks Tryd.func15 rfl trivial ?_ rfl
  simp only [Tryd.ntmps15, List.size_toArray, List.length_cons, List.length_nil, Nat.reduceAdd, Nat.reduceSub, Array.replicate_succ, Array.replicate_zero, List.push_toArray, List.append_toArray, List.nil_append, List.cons_append]
  gi_wp2_with fail
  have hc0 := Lst.made w N
  gi_loopg [19] N (fun g i wr => ∃ k : Nat, i = .int .i64 (k : Nat) ∧ k + g = N ∧ Lst wr w.heap.size (Pl.fill N k) ∧ Box wr (w.heap.size + 1) (.slice (some ⟨w.heap.size, 0, none⟩) N N) 27 ∧ Below w.heap.size w wr ∧ wr.heap.size = w.heap.size + 2)
  case atStart =>
    have hbx := Box.new (w.alloc (.cells (madeCells #[.int .i64 0] N) 3)) (.slice (some ⟨w.heap.size, 0, none⟩) N N) 27
    rw [World.size_alloc] at hbx
    exact ⟨0, rfl, by omega, hc0.below (B_alloc (Below.refl _ _) _), hbx, B_alloc (B_alloc (Below.refl _ _) _) _, by simp⟩
  case round =>
    obtain ⟨k, rfl, hk, hl, hbx, hB, hz⟩ := hrel
    have c0 := hbx.cell
    have f0 := hbx.frozen
    by_cases hkN : k < N
    · have wk : IntKind.i64.wrap ((k : Int) + 1) = ((k + 1 : Nat) : Int) := by rw [IntKind.wrap_i64]; omega
      have hkI : (k : Int) < N := by omega
      have c1 := hl.cell (i := k) (by rw [Pl.fill_len]; exact hkN)
      have f1 := hl.frozen k
      gi_wp2_with fail
      gi_roundg (gk - 1)
      case rel =>
        refine ⟨k + 1, by simp, by omega, ?_, hbx.far _ _ (by omega), hB.setCell (Nat.le_refl _) _, by rw [size_setCell]; exact hz⟩
        rw [← Pl.fill_set]
        exact hl.set k (k : Int)
      case measure => omega
    · obtain rfl : N = k := by omega
      gi_wp2_with fail
      refine ⟨trivial, (callsIn_wide.2 (halves_any s _)).mono ?_⟩
      rintro e w1 ⟨rfl, rfl⟩
      gi_wp2_with fail
      obtain ⟨W0, hW0⟩ : ∃ W0 : World, (wr.alloc (Obj.cells #[Value.int IntKind.i64 (↑N - 1)] 3)).alloc (Obj.cells #[Value.int IntKind.u64 ↑s] 22) = W0 := ⟨_, rfl⟩
      have hA : Below wr.heap.size wr W0 := by rw [← hW0]; exact B_alloc (B_alloc (Below.refl _ _) _) _
      have hb0 : Below w.heap.size w W0 := hB.trans (hA.mono (by omega))
      have hs0 : Seed W0 (w.heap.size + 3) s := by
        rw [← hW0]; have := World.alloc_heap_new (wr.alloc (Obj.cells #[Value.int IntKind.i64 (↑N - 1)] 3)) (Obj.cells #[Value.int IntKind.u64 ↑s] 22); rwa [World.size_alloc, hz] at this
      have hi0 : Box W0 (w.heap.size + 2) (.int .i64 ((N - 1 : Nat) : Int)) 3 := by
        have := Box.new wr (.int .i64 (↑N - 1)) 3
        rw [hz] at this
        rw [← hW0, show ((N - 1 : Nat) : Int) = (N : Int) - 1 from by omega]
        exact this.below (B_alloc (Below.refl _ _) _)
      have hl0 := hl.below hA
      have hx0 := hbx.below hA
      rw [Pl.fill_full] at hl0
      clear hl hbx c0 f0
      have hp := hL.pos
      rw [hW0]
      refine wp_halves 10 (w.heap.size + 3) w.heap.size s N rfl rfl hs0 hlt (by omega) (hL.below hb0) hp (by omega)
        (fun k W => ∃ (L : List Int) (i : Nat), i + 1 + k = N ∧ L.length = N ∧ Pl.pm (Pl.st s k) L i = Pl.perm s N ∧ Lst W w.heap.size L ∧ Box W (w.heap.size + 1) (.slice (some ⟨w.heap.size, 0, none⟩) N N) 27 ∧ Box W (w.heap.size + 2) (.int .i64 (i : Nat)) 3 ∧ Below w.heap.size w W)
        (fun c W => c = .exit 2 ∧ Lst W w.heap.size (Pl.perm s N) ∧ Box W (w.heap.size + 1) (.slice (some ⟨w.heap.size, 0, none⟩) N N) 27 ∧ Below w.heap.size w W)
        (fun k A B ⟨L, i, h1, h2, h3, h4, h5, h6, h7⟩ hk => ⟨L, i, h1, h2, h3, hk.same _ _ h4 rfl (by omega), hk.same _ _ h5 rfl (by omega), hk.same _ _ h6 rfl (by omega), h7.trans hk.below⟩)
        (fun c A B ⟨h1, h4, h5, h7⟩ hk => ⟨h1, hk.same _ _ h4 rfl (by omega), hk.same _ _ h5 rfl (by omega), h7.trans hk.below⟩)
        ⟨_, N - 1, by omega, Pl.nums_len N, rfl, hl0, hx0, hi0, hb0⟩
        (fun x => { tmps := #[.int .u64 s, .int .i64 N, undef, undef, .slice none 0 0, .pointer (some ⟨w.heap.size + 1, 0, none⟩), u6, .pointer (some ⟨w.heap.size + 2, 0, none⟩), .int .i64 x, undef, .int .i64 N,
          .bool false, .bool false, .int .i64 N, .bool false, .bool false, .int .i64 N, .slice (some ⟨w.heap.size, 0, none⟩) N N, .int .i64 N, .int .i64 N, .bool false, u21, u22, u23, u24, u25, u26, .int .i64 N,
          .int .i64 (N - 1), .int .u64 s, .func (.func 22) #[] #[.pointer (some ⟨w.heap.size + 2 + 1, 0, none⟩)], .int .i64 x, undef, undef, undef, undef, undef, undef, undef, undef, undef, undef, undef, undef, undef, undef, undef, undef, undef, undef, undef, undef, undef, undef, undef], defers := [] }) ?assign ?body ?stop
      case assign =>
        intro l x W K hK
        gi_wp2_with fail
        exact hK
      case body =>
        rintro l k W ⟨L, i, hik, hlen, hpm, hl, hbs, hbi, hb⟩ hsd hkN hLW hsz
        have ci := hbi.cell
        have fi := hbi.frozen
        have cs := hbs.cell
        by_cases hi0 : i = 0
        · subst hi0
          rw [Pl.pm_zero] at hpm
          gi_wp2_with fail
          exact ⟨Rk.refl _ _ _, rfl, by rw [← hpm]; exact hl, hbs, hb⟩
        · obtain ⟨j, rfl⟩ : ∃ j, i = j + 1 := ⟨i - 1, by omega⟩
          have hX := Pl.half_lt (Pl.st_lt hlt (k + 1))
          rw [Pl.pm_succ, show Pl.next (Pl.st s k) = Pl.st s (k + 1) from rfl] at hpm
          clear hsd
          generalize Pl.half (Pl.st s (k + 1)) = X at hX hpm ⊢
          obtain ⟨K, hK⟩ : ∃ K, K = X % (j + 2) := ⟨_, rfl⟩
          have hKl : K < j + 2 := by rw [hK]; exact Nat.mod_lt _ (by omega)
          obtain ⟨i, hi⟩ : ∃ i : Nat, i = j + 1 := ⟨_, rfl⟩
          rw [← hi] at hik hpm ci hbi
          rw [show j + 2 = i + 1 from by omega] at hK hpm
          rw [← hK] at hpm
          have i1 : ¬ ((i : Int) ≤ 0) := by omega
          have i2 : IntKind.i64.wrap ((i : Int) + 1) = (i : Int) + 1 := by rw [IntKind.wrap_i64]; omega
          have i3 : IntKind.i64.wrap ((i : Int) - 1) = (i : Int) - 1 := by rw [IntKind.wrap_i64]; omega
          have i4 : ¬ ((i : Int) + 1 = 0) := by omega
          have hKI : (X : Int) % ((i : Int) + 1) = (K : Int) := by rw [hK]; simp
          have hiN : (i : Int) < N := by omega
          have hKN : (K : Int) < N := by omega
          have c1 := hl.cell (i := i) (by omega)
          have f1 := hl.frozen i
          have c2 := hl.cell (i := K) (by omega)
          have f2 := hl.frozen K
          have HK := Lib.hid hK
          have Hi := Lib.hid hi
          clear hK hi
          have hmx : Tryd.prog.follows .mixedOrders = true := by kernel_rfl
          have hfin : ∀ W' : World, W' = ((W.drew.setCell ⟨w.heap.size, i, none⟩ (.int .i64 (L.getD K 0))).setCell ⟨w.heap.size, K, none⟩ (.int .i64 (L.getD i 0))).setCell ⟨w.heap.size + 2, 0, none⟩ (.int .i64 ((i : Int) - 1)) →
              k + 1 < N ∧ Rk w.heap.size (w.heap.size + 3) W W' ∧ ∃ (L : List Int) (i : Nat), i + 1 + (k + 1) = N ∧ L.length = N ∧ Pl.pm (Pl.st s (k + 1)) L i = Pl.perm s N ∧ Lst W' w.heap.size L ∧ Box W' (w.heap.size + 1) (.slice (some ⟨w.heap.size, 0, none⟩) N N) 27 ∧ Box W' (w.heap.size + 2) (.int .i64 (i : Nat)) 3 ∧ Below w.heap.size w W' := by
            rintro W' rfl
            have hd : Lst W.drew w.heap.size L := hl
            have hbsd : Box W.drew (w.heap.size + 1) (.slice (some ⟨w.heap.size, 0, none⟩) N N) 27 := hbs
            have hbid : Box W.drew (w.heap.size + 2) (.int .i64 i) 3 := hbi
            have rk : Rk w.heap.size (w.heap.size + 3) W W.drew := ⟨KeepsOthers.drew _, rfl, (Below.refl _ _).drew⟩
            refine ⟨by have := Hi.out; omega, ((rk.trans (Rk.cell _ i _ (by omega) (by omega))).trans (Rk.cell _ K _ (by omega) (by omega))).trans (Rk.cell _ 0 _ (by omega) (by omega)), Pl.sw L i K, j, by have := Hi.out; omega, by rw [Pl.sw_len]; exact hlen, hpm, ?_, ?_, ?_, ?_⟩
            · exact (((hd.set i _).set K _).far _ _ (by omega))
            · exact (((hbsd.far _ _ (by omega)).far _ _ (by omega)).far _ _ (by omega))
            · have e : (i : Int) - 1 = (j : Nat) := by have := Hi.out; omega
              rw [e]
              exact (((hbid.far _ _ (by omega)).far _ _ (by omega)).set _)
            · exact (((hb.drew).setCell (Nat.le_refl _) _).setCell (Nat.le_refl _) _).setCell (by simp) _
          by_cases hiK : i = K
          · subst hiK
            clear c2 f2
            gi_wp2_with fail
            refine regionInRound (fun W => W.cell? ⟨w.heap.size + 1, 0, none⟩ = some (.slice (some ⟨w.heap.size, 0, none⟩) N N) ∧ W.cell? ⟨w.heap.size + 2, 0, none⟩ = some (.int .i64 i)) hmx (noDefer_spec (by kernel_rfl)) (by rintro ⟨_, _, h⟩; exact h) ⟨cs, ci⟩ (fun hHeld => ?_)
            try simp only [List.size_toArray, List.length_cons, List.length_nil, Nat.reduceAdd]
            refine wpAnyH_take (i := 0) (v := (.slice (some ⟨w.heap.size, 0, none⟩) N N)) rfl (by kernel_rfl) (by kernel_rfl) (by kernel_rfl) (fun _ _ _ h => h) (Or.inl ⟨by rfl, by rintro w ⟨s0, s1⟩; go_simp⟩) (by assumption) ?_
            simp only [Act.put, List.setIfInBounds_toArray, List.set_cons_zero, List.set_cons_succ]
            refine wpAnyH_take (i := 1) (v := (.int .i64 i)) rfl (by kernel_rfl) (by kernel_rfl) (by kernel_rfl) (fun _ _ _ h => h) (Or.inl ⟨by rfl, by rintro w ⟨s0, s1⟩; go_simp⟩) (by assumption) ?_
            simp only [Act.put, List.setIfInBounds_toArray, List.set_cons_zero, List.set_cons_succ]
            refine wpAnyH_take (i := 2) (v := (.slice (some ⟨w.heap.size, 0, none⟩) N N)) rfl (by kernel_rfl) (by kernel_rfl) (by kernel_rfl) (fun _ _ _ h => h) (Or.inl ⟨by rfl, by rintro w ⟨s0, s1⟩; go_simp⟩) (by assumption) ?_
            simp only [Act.put, List.setIfInBounds_toArray, List.set_cons_zero, List.set_cons_succ]
            refine wpAnyH_take (i := 3) (v := (.int .i64 i)) rfl (by kernel_rfl) (by kernel_rfl) (by kernel_rfl) (fun _ _ _ h => h) (Or.inl ⟨by rfl, by rintro w ⟨s0, s1⟩; go_simp⟩) (by assumption) ?_
            simp only [Act.put, List.setIfInBounds_toArray, List.set_cons_zero, List.set_cons_succ]
            refine wpAnyH_take (i := 4) (v := (.slice (some ⟨w.heap.size, 0, none⟩) N N)) rfl (by kernel_rfl) (by kernel_rfl) (by kernel_rfl) (fun _ _ _ h => h) (Or.inl ⟨by rfl, by rintro w ⟨s0, s1⟩; go_simp⟩) (by assumption) ?_
            simp only [Act.put, List.setIfInBounds_toArray, List.set_cons_zero, List.set_cons_succ]
            refine wpAnyH_take (i := 5) (v := (.int .i64 i)) rfl (by kernel_rfl) (by kernel_rfl) (by kernel_rfl) (fun _ _ _ h => h) (Or.inl ⟨by rfl, by rintro w ⟨s0, s1⟩; go_simp⟩) (by assumption) ?_
            simp only [Act.put, List.setIfInBounds_toArray, List.set_cons_zero, List.set_cons_succ]
            refine wpAnyH_take (i := 6) (v := (.pointer (some ⟨w.heap.size, i, none⟩))) rfl (by kernel_rfl) (by kernel_rfl) (by kernel_rfl) (fun _ _ _ h => h) (Or.inl ⟨by rfl, by rintro w ⟨s0, s1⟩; go_simp⟩) (by assumption) ?_
            simp only [Act.put, List.setIfInBounds_toArray, List.set_cons_zero, List.set_cons_succ]
            refine wpAnyH_take (i := 8) (v := (.slice (some ⟨w.heap.size, 0, none⟩) N N)) rfl (by kernel_rfl) (by kernel_rfl) (by kernel_rfl) (fun _ _ _ h => h) (Or.inl ⟨by rfl, by rintro w ⟨s0, s1⟩; go_simp⟩) (by assumption) ?_
            simp only [Act.put, List.setIfInBounds_toArray, List.set_cons_zero, List.set_cons_succ]
            refine wpAnyH_take (i := 9) (v := (.int .i64 i)) rfl (by kernel_rfl) (by kernel_rfl) (by kernel_rfl) (fun _ _ _ h => h) (Or.inl ⟨by rfl, by rintro w ⟨s0, s1⟩; go_simp⟩) (by assumption) ?_
            simp only [Act.put, List.setIfInBounds_toArray, List.set_cons_zero, List.set_cons_succ]
            refine wpAnyH_take (i := 10) (v := (.pointer (some ⟨w.heap.size, i, none⟩))) rfl (by kernel_rfl) (by kernel_rfl) (by kernel_rfl) (fun _ _ _ h => h) (Or.inl ⟨by rfl, by rintro w ⟨s0, s1⟩; go_simp⟩) (by assumption) ?_
            simp only [Act.put, List.setIfInBounds_toArray, List.set_cons_zero, List.set_cons_succ]
            refine wpAnyH_ready (rs := [7, 11]) (by kernel_rfl) (by simp) ?_
            refine AllReadyH.cons rfl (fun K' hK' => ?_) (AllReadyH.cons rfl (fun K' hK' => ?_) AllReadyH.nil)
            · go_simp
              refine hK'.out _ _ hHeld (fun hHeld => ?_)
              clear hK' K'
              refine wpAnyH_ready (rs := [11]) (by kernel_rfl) (by simp) ?_
              refine AllReadyH.cons rfl (fun K' hK' => ?_) AllReadyH.nil
              go_simp
              refine hK'.out _ _ hHeld (fun hHeld => ?_)
              clear hK' K'
              refine wpAnyH_take (i := 12) (v := (.pointer (some ⟨w.heap.size, i, none⟩))) rfl (by kernel_rfl) (by kernel_rfl) (by kernel_rfl) (fun _ _ _ h => h) (Or.inl ⟨by rfl, by rintro w ⟨s0, s1⟩; go_simp⟩) (by assumption) ?_
              simp only [Act.put, List.setIfInBounds_toArray, List.set_cons_zero, List.set_cons_succ]
              refine wpAnyH_ready (rs := [13]) (by kernel_rfl) (by simp) ?_
              refine AllReadyH.cons rfl (fun K' hK' => ?_) AllReadyH.nil
              go_simp
              refine hK'.out _ _ ⟨(World.cell?_setCell_far _ _ _ _ (by simp)).trans hHeld.1, (World.cell?_setCell_far _ _ _ _ (by simp)).trans hHeld.2⟩ (fun hHeld => ?_)
              clear hK' K'
              refine wpAnyH_take (i := 14) (v := (.pointer (some ⟨w.heap.size, i, none⟩))) rfl (by kernel_rfl) (by kernel_rfl) (by kernel_rfl) (fun _ _ _ h => h) (Or.inl ⟨by rfl, by rintro w ⟨s0, s1⟩; go_simp⟩) (by assumption) ?_
              simp only [Act.put, List.setIfInBounds_toArray, List.set_cons_zero, List.set_cons_succ]
              refine wpAnyH_ready (rs := [15]) (by kernel_rfl) (by simp) ?_
              refine AllReadyH.cons rfl (fun K' hK' => ?_) AllReadyH.nil
              go_simp
              refine hK'.out _ _ ⟨(World.cell?_setCell_far _ _ _ _ (by simp)).trans hHeld.1, (World.cell?_setCell_far _ _ _ _ (by simp)).trans hHeld.2⟩ (fun hHeld => ?_)
              clear hK' K'
              refine wpAnyH_done (by kernel_rfl) ?_ _
              gi_wp2_with fail
              exact hfin _ rfl
            · go_simp
              refine hK'.out _ _ hHeld (fun hHeld => ?_)
              clear hK' K'
              refine wpAnyH_ready (rs := [7]) (by kernel_rfl) (by simp) ?_
              refine AllReadyH.cons rfl (fun K' hK' => ?_) AllReadyH.nil
              go_simp
              refine hK'.out _ _ hHeld (fun hHeld => ?_)
              clear hK' K'
              refine wpAnyH_take (i := 12) (v := (.pointer (some ⟨w.heap.size, i, none⟩))) rfl (by kernel_rfl) (by kernel_rfl) (by kernel_rfl) (fun _ _ _ h => h) (Or.inl ⟨by rfl, by rintro w ⟨s0, s1⟩; go_simp⟩) (by assumption) ?_
              simp only [Act.put, List.setIfInBounds_toArray, List.set_cons_zero, List.set_cons_succ]
              refine wpAnyH_ready (rs := [13]) (by kernel_rfl) (by simp) ?_
              refine AllReadyH.cons rfl (fun K' hK' => ?_) AllReadyH.nil
              go_simp
              refine hK'.out _ _ ⟨(World.cell?_setCell_far _ _ _ _ (by simp)).trans hHeld.1, (World.cell?_setCell_far _ _ _ _ (by simp)).trans hHeld.2⟩ (fun hHeld => ?_)
              clear hK' K'
              refine wpAnyH_take (i := 14) (v := (.pointer (some ⟨w.heap.size, i, none⟩))) rfl (by kernel_rfl) (by kernel_rfl) (by kernel_rfl) (fun _ _ _ h => h) (Or.inl ⟨by rfl, by rintro w ⟨s0, s1⟩; go_simp⟩) (by assumption) ?_
              simp only [Act.put, List.setIfInBounds_toArray, List.set_cons_zero, List.set_cons_succ]
              refine wpAnyH_ready (rs := [15]) (by kernel_rfl) (by simp) ?_
              refine AllReadyH.cons rfl (fun K' hK' => ?_) AllReadyH.nil
              go_simp
              refine hK'.out _ _ ⟨(World.cell?_setCell_far _ _ _ _ (by simp)).trans hHeld.1, (World.cell?_setCell_far _ _ _ _ (by simp)).trans hHeld.2⟩ (fun hHeld => ?_)
              clear hK' K'
              refine wpAnyH_done (by kernel_rfl) ?_ _
              gi_wp2_with fail
              exact hfin _ rfl
          · have hKi : ¬ K = i := fun h => hiK h.symm
            gi_wp2_with fail
            refine regionInRound (fun W => W.cell? ⟨w.heap.size + 1, 0, none⟩ = some (.slice (some ⟨w.heap.size, 0, none⟩) N N) ∧ W.cell? ⟨w.heap.size + 2, 0, none⟩ = some (.int .i64 i)) hmx (noDefer_spec (by kernel_rfl)) (by rintro ⟨_, _, h⟩; exact h) ⟨cs, ci⟩ (fun hHeld => ?_)
            try simp only [List.size_toArray, List.length_cons, List.length_nil, Nat.reduceAdd]
            refine wpAnyH_take (i := 0) (v := (.slice (some ⟨w.heap.size, 0, none⟩) N N)) rfl (by kernel_rfl) (by kernel_rfl) (by kernel_rfl) (fun _ _ _ h => h) (Or.inl ⟨by rfl, by rintro w ⟨s0, s1⟩; go_simp⟩) (by assumption) ?_
            simp only [Act.put, List.setIfInBounds_toArray, List.set_cons_zero, List.set_cons_succ]
            refine wpAnyH_take (i := 1) (v := (.int .i64 i)) rfl (by kernel_rfl) (by kernel_rfl) (by kernel_rfl) (fun _ _ _ h => h) (Or.inl ⟨by rfl, by rintro w ⟨s0, s1⟩; go_simp⟩) (by assumption) ?_
            simp only [Act.put, List.setIfInBounds_toArray, List.set_cons_zero, List.set_cons_succ]
            refine wpAnyH_take (i := 2) (v := (.slice (some ⟨w.heap.size, 0, none⟩) N N)) rfl (by kernel_rfl) (by kernel_rfl) (by kernel_rfl) (fun _ _ _ h => h) (Or.inl ⟨by rfl, by rintro w ⟨s0, s1⟩; go_simp⟩) (by assumption) ?_
            simp only [Act.put, List.setIfInBounds_toArray, List.set_cons_zero, List.set_cons_succ]
            refine wpAnyH_take (i := 3) (v := (.int .i64 K)) rfl (by kernel_rfl) (by kernel_rfl) (by kernel_rfl) (fun _ _ _ h => h) (Or.inl ⟨by rfl, by rintro w ⟨s0, s1⟩; go_simp⟩) (by assumption) ?_
            simp only [Act.put, List.setIfInBounds_toArray, List.set_cons_zero, List.set_cons_succ]
            refine wpAnyH_take (i := 4) (v := (.slice (some ⟨w.heap.size, 0, none⟩) N N)) rfl (by kernel_rfl) (by kernel_rfl) (by kernel_rfl) (fun _ _ _ h => h) (Or.inl ⟨by rfl, by rintro w ⟨s0, s1⟩; go_simp⟩) (by assumption) ?_
            simp only [Act.put, List.setIfInBounds_toArray, List.set_cons_zero, List.set_cons_succ]
            refine wpAnyH_take (i := 5) (v := (.int .i64 K)) rfl (by kernel_rfl) (by kernel_rfl) (by kernel_rfl) (fun _ _ _ h => h) (Or.inl ⟨by rfl, by rintro w ⟨s0, s1⟩; go_simp⟩) (by assumption) ?_
            simp only [Act.put, List.setIfInBounds_toArray, List.set_cons_zero, List.set_cons_succ]
            refine wpAnyH_take (i := 6) (v := (.pointer (some ⟨w.heap.size, K, none⟩))) rfl (by kernel_rfl) (by kernel_rfl) (by kernel_rfl) (fun _ _ _ h => h) (Or.inl ⟨by rfl, by rintro w ⟨s0, s1⟩; go_simp⟩) (by assumption) ?_
            simp only [Act.put, List.setIfInBounds_toArray, List.set_cons_zero, List.set_cons_succ]
            refine wpAnyH_take (i := 8) (v := (.slice (some ⟨w.heap.size, 0, none⟩) N N)) rfl (by kernel_rfl) (by kernel_rfl) (by kernel_rfl) (fun _ _ _ h => h) (Or.inl ⟨by rfl, by rintro w ⟨s0, s1⟩; go_simp⟩) (by assumption) ?_
            simp only [Act.put, List.setIfInBounds_toArray, List.set_cons_zero, List.set_cons_succ]
            refine wpAnyH_take (i := 9) (v := (.int .i64 i)) rfl (by kernel_rfl) (by kernel_rfl) (by kernel_rfl) (fun _ _ _ h => h) (Or.inl ⟨by rfl, by rintro w ⟨s0, s1⟩; go_simp⟩) (by assumption) ?_
            simp only [Act.put, List.setIfInBounds_toArray, List.set_cons_zero, List.set_cons_succ]
            refine wpAnyH_take (i := 10) (v := (.pointer (some ⟨w.heap.size, i, none⟩))) rfl (by kernel_rfl) (by kernel_rfl) (by kernel_rfl) (fun _ _ _ h => h) (Or.inl ⟨by rfl, by rintro w ⟨s0, s1⟩; go_simp⟩) (by assumption) ?_
            simp only [Act.put, List.setIfInBounds_toArray, List.set_cons_zero, List.set_cons_succ]
            refine wpAnyH_ready (rs := [7, 11]) (by kernel_rfl) (by simp) ?_
            refine AllReadyH.cons rfl (fun K' hK' => ?_) (AllReadyH.cons rfl (fun K' hK' => ?_) AllReadyH.nil)
            · go_simp
              refine hK'.out _ _ hHeld (fun hHeld => ?_)
              clear hK' K'
              refine wpAnyH_ready (rs := [11]) (by kernel_rfl) (by simp) ?_
              refine AllReadyH.cons rfl (fun K' hK' => ?_) AllReadyH.nil
              go_simp
              refine hK'.out _ _ hHeld (fun hHeld => ?_)
              clear hK' K'
              refine wpAnyH_take (i := 12) (v := (.pointer (some ⟨w.heap.size, i, none⟩))) rfl (by kernel_rfl) (by kernel_rfl) (by kernel_rfl) (fun _ _ _ h => h) (Or.inl ⟨by rfl, by rintro w ⟨s0, s1⟩; go_simp⟩) (by assumption) ?_
              simp only [Act.put, List.setIfInBounds_toArray, List.set_cons_zero, List.set_cons_succ]
              refine wpAnyH_ready (rs := [13]) (by kernel_rfl) (by simp) ?_
              refine AllReadyH.cons rfl (fun K' hK' => ?_) AllReadyH.nil
              go_simp
              refine hK'.out _ _ ⟨(World.cell?_setCell_far _ _ _ _ (by simp)).trans hHeld.1, (World.cell?_setCell_far _ _ _ _ (by simp)).trans hHeld.2⟩ (fun hHeld => ?_)
              clear hK' K'
              refine wpAnyH_take (i := 14) (v := (.pointer (some ⟨w.heap.size, K, none⟩))) rfl (by kernel_rfl) (by kernel_rfl) (by kernel_rfl) (fun _ _ _ h => h) (Or.inl ⟨by rfl, by rintro w ⟨s0, s1⟩; go_simp⟩) (by assumption) ?_
              simp only [Act.put, List.setIfInBounds_toArray, List.set_cons_zero, List.set_cons_succ]
              refine wpAnyH_ready (rs := [15]) (by kernel_rfl) (by simp) ?_
              refine AllReadyH.cons rfl (fun K' hK' => ?_) AllReadyH.nil
              go_simp
              refine hK'.out _ _ ⟨(World.cell?_setCell_far _ _ _ _ (by simp)).trans hHeld.1, (World.cell?_setCell_far _ _ _ _ (by simp)).trans hHeld.2⟩ (fun hHeld => ?_)
              clear hK' K'
              refine wpAnyH_done (by kernel_rfl) ?_ _
              gi_wp2_with fail
              exact hfin _ rfl
            · go_simp
              refine hK'.out _ _ hHeld (fun hHeld => ?_)
              clear hK' K'
              refine wpAnyH_ready (rs := [7]) (by kernel_rfl) (by simp) ?_
              refine AllReadyH.cons rfl (fun K' hK' => ?_) AllReadyH.nil
              go_simp
              refine hK'.out _ _ hHeld (fun hHeld => ?_)
              clear hK' K'
              refine wpAnyH_take (i := 12) (v := (.pointer (some ⟨w.heap.size, i, none⟩))) rfl (by kernel_rfl) (by kernel_rfl) (by kernel_rfl) (fun _ _ _ h => h) (Or.inl ⟨by rfl, by rintro w ⟨s0, s1⟩; go_simp⟩) (by assumption) ?_
              simp only [Act.put, List.setIfInBounds_toArray, List.set_cons_zero, List.set_cons_succ]
              refine wpAnyH_ready (rs := [13]) (by kernel_rfl) (by simp) ?_
              refine AllReadyH.cons rfl (fun K' hK' => ?_) AllReadyH.nil
              go_simp
              refine hK'.out _ _ ⟨(World.cell?_setCell_far _ _ _ _ (by simp)).trans hHeld.1, (World.cell?_setCell_far _ _ _ _ (by simp)).trans hHeld.2⟩ (fun hHeld => ?_)
              clear hK' K'
              refine wpAnyH_take (i := 14) (v := (.pointer (some ⟨w.heap.size, K, none⟩))) rfl (by kernel_rfl) (by kernel_rfl) (by kernel_rfl) (fun _ _ _ h => h) (Or.inl ⟨by rfl, by rintro w ⟨s0, s1⟩; go_simp⟩) (by assumption) ?_
              simp only [Act.put, List.setIfInBounds_toArray, List.set_cons_zero, List.set_cons_succ]
              refine wpAnyH_ready (rs := [15]) (by kernel_rfl) (by simp) ?_
              refine AllReadyH.cons rfl (fun K' hK' => ?_) AllReadyH.nil
              go_simp
              refine hK'.out _ _ ⟨(World.cell?_setCell_far _ _ _ _ (by simp)).trans hHeld.1, (World.cell?_setCell_far _ _ _ _ (by simp)).trans hHeld.2⟩ (fun hHeld => ?_)
              clear hK' K'
              refine wpAnyH_done (by kernel_rfl) ?_ _
              gi_wp2_with fail
              exact hfin _ rfl
      case stop =>
        rintro D c W hD ⟨rfl, hl, hbs, hb⟩ hK
        have cs := hbs.cell
        gi_wp2_with fail
        refine ⟨by simp, .inl ⟨_, _, rfl, run_takeDeferred hK, ?_⟩⟩
        have kp := Kp.put (n0 := w.heap.size) (b := w.heap.size + 3) W (.deferred none) hD hK rfl
        exact ⟨_, results_tmp rfl _ _ _, rfl, kp.same _ _ hl rfl (by omega), hb.trans kp.below⟩
end Go.Proofs.YtodmklkjdogafaaDoor
