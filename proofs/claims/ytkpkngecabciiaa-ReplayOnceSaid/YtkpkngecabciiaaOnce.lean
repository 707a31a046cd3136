/-
  Each counter is noted once: the walk of ReplayOnce. Condition: the steps' cells are known.
-/
import Derived.Test.YtkpkngecabciiaaOld
import Derived.Test.YtkpkngecabciiaaOncePlain
import Derived.Maps.Own
import Derived.Maps.Views
namespace Go.Proofs.Ytkpkngecabciiaa
open Go.RowKit Go.Maps

theorem law3 : Keyed Try.prog 3 := int_keyed Try.underlying3
theorem zeroBool (w : World) : (zeroValue 4).run Try.prog w = .ok (.bool false) w := by kernel_rfl

/-- Block b is a map from ints to bools of the call's own that answers as S. -/
def IsSet (w : World) (b : Nat) (S : Int → Bool) (k : Nat) : Prop :=
  ∃ D : DataW Unit, w.ownsMap Try.prog 3 (plainElem Try.prog 4) b k D ∧ IsMap D ∧ ∀ n : Int, D.atKey (.int .i64 n) (.lit (.bool false)) = .lit (.bool (S n))
theorem IsSet.new (w : World) : IsSet (w.alloc (.map #[] 0)) w.heap.size (fun _ => false) 0 :=
  ⟨.map [], World.ownsMap_made _ _ _ _, isMap_empty, fun _ => rfl⟩
theorem IsSet.kept {w w' : World} {b k : Nat} {S : Int → Bool} {row : Option Nat} (h : IsSet w b S k) (hg : w.grownBy w' row) (hne : some b ≠ row) : IsSet w' b S k := by
  obtain ⟨D, h1, h2, h3⟩ := h; exact ⟨D, h1.kept hg hne, h2, h3⟩
theorem IsSet.below {w w' : World} {b k : Nat} {S : Int → Bool} (h : IsSet w b S k) (hb : Below w.heap.size w w') : IsSet w' b S k :=
  h.kept (row := none) ⟨hb.os, hb.tape, hb.output, hb.size, fun k hk _ => hb.block k hk⟩ (by simp)
theorem IsSet.alloc {w : World} {b k : Nat} {S : Int → Bool} (h : IsSet w b S k) (o : Obj) : IsSet (w.alloc o) b S k := h.kept (World.grownBy_alloc w o none) (by simp)
theorem IsSet.lt {w : World} {b k : Nat} {S : Int → Bool} (h : IsSet w b S k) : b < w.heap.size := by obtain ⟨D, h1, _⟩ := h; exact h1.lt
theorem IsSet.look {w : World} {b k : Nat} {S : Int → Bool} (h : IsSet w b S k) {n : Int} (hn : (Lit.int .i64 n).wf = true) : (Instr.lookup 32 (.map (some b)) (.int .i64 n) false).run Try.prog w = .ok (.bool (S n)) w := by
  obtain ⟨D, h1, _, h3⟩ := h
  obtain ⟨v, ps, hrun, hv⟩ := h1.lookup law3 Try.underlying32 (zeroBool w) (plainElem_bool Try.underlying4 false) (keyOf_int_mk Try.underlying3 hn)
  rw [h3] at hv
  rw [hrun]
  have : v = .bool (S n) := by
    unfold plainElem at hv
    rw [Try.underlying4] at hv
    cases v <;> simp at hv
    simp [hv]
  rw [this]
theorem IsSet.put {D : DataW Unit} {w : World} {b k : Nat} {S : Int → Bool} (hm : IsMap D) (h3 : ∀ n : Int, D.atKey (.int .i64 n) (.lit (.bool false)) = .lit (.bool (S n))) {n : Int} (h1 : w.ownsMap Try.prog 3 (plainElem Try.prog 4) b (k + 1) (D.put (.int .i64 n) (.lit (.bool true)))) : IsSet w b (Pl.add S n) (k + 1) := by
  refine ⟨_, h1, hm.put _ _, fun m => ?_⟩
  by_cases e : m = n
  · subst e
    rw [atKey_put_same hm (by simp [WideAt.IsKeyLit])]
    simp [Pl.add]
  · rw [atKey_put_other (by simpa using e), h3]
    simp [Pl.add, e]
theorem IsSet.set2 {w : World} {b k : Nat} {S : Int → Bool} (h : IsSet w b S k) {g : Nat} (hg : b ≠ g) (x y : Value) : IsSet ((w.setCell ⟨g, 0, none⟩ x).setCell ⟨g, 1, none⟩ y) b S k := by
  obtain ⟨D, ⟨es, clock, hb, F, hs, hD⟩, h2, h3⟩ := h
  refine ⟨D, ⟨es, clock, ?_, F, hs, hD⟩, h2, h3⟩
  rw [Below.heap_setCell _ ⟨g, 1, none⟩ _ _ hg, Below.heap_setCell _ ⟨g, 0, none⟩ _ _ hg]
  exact hb

theorem IsSet.mono {w : World} {b k k' : Nat} {S : Int → Bool} (h : IsSet w b S k) (hk : k ≤ k') : IsSet w b S k' := by
  obtain ⟨D, h1, h2, h3⟩ := h; exact ⟨D, h1.mono hk, h2, h3⟩
theorem Win.grown {w w' : World} {g : Nat} {a b : Value} {row : Option Nat} (h : Win w g a b) (hg : w.grownBy w' row) (hne : some g ≠ row) : Win w' g a b := (hg.block g h.lt hne).trans h
theorem Row.grown {base : Nat} {w w' : World} {v : Value} {xs : List Int} {r : Nat} (h : Row base w v xs) (hg : w.grownBy w' (some r)) (hr : r < base) : Row base w' v xs :=
  World.ownsRow.kept h hg (by
    cases hv : v.ownBlock with
    | none => exact .inl rfl
    | some j => right; intro e; injection e with e; have := (World.ownsRow.lt h j hv).1; omega)
theorem keepL {W0 W W' : World} {g b k : Nat} {a0 a1 : Value} {S : Int → Bool} {n : Int} (hset : IsSet W0 b S k) (hn : (Lit.int .i64 n).wf = true)
    (h : W.cell? ⟨g, 0, none⟩ = some a0 ∧ W.cell? ⟨g, 1, none⟩ = some a1 ∧ (Instr.lookup 32 (.map (some b)) (.int .i64 n) false).run Try.prog W = .ok (.bool (S n)) W ∧ Below W0.heap.size W0 W) (hb : Below W.heap.size W W') :
    W'.cell? ⟨g, 0, none⟩ = some a0 ∧ W'.cell? ⟨g, 1, none⟩ = some a1 ∧ (Instr.lookup 32 (.map (some b)) (.int .i64 n) false).run Try.prog W' = .ok (.bool (S n)) W' ∧ Below W0.heap.size W0 W' :=
  ⟨(hb.cell (cell_lt h.1)).trans h.1, (hb.cell (cell_lt h.2.1)).trans h.2.1, (hset.below (B_trans h.2.2.2 hb)).look hn, B_trans h.2.2.2 hb⟩
theorem keepL' {W0 W W' : World} {g b k : Nat} {a0 a1 : Value} {S : Int → Bool} {n : Int} {r : Bool} (hset : IsSet W0 b S k) (hr : S n = r) (hn : (Lit.int .i64 n).wf = true)
    (h : W.cell? ⟨g, 0, none⟩ = some a0 ∧ W.cell? ⟨g, 1, none⟩ = some a1 ∧ (Instr.lookup 32 (.map (some b)) (.int .i64 n) false).run Try.prog W = .ok (.bool r) W ∧ Below W0.heap.size W0 W) (hb : Below W.heap.size W W') :
    W'.cell? ⟨g, 0, none⟩ = some a0 ∧ W'.cell? ⟨g, 1, none⟩ = some a1 ∧ (Instr.lookup 32 (.map (some b)) (.int .i64 n) false).run Try.prog W' = .ok (.bool r) W' ∧ Below W0.heap.size W0 W' := by
  subst hr; exact keepL hset hn h hb
theorem wf_small {n : Int} (h0 : 0 ≤ n) (h1 : n ≤ 1000000) : (Lit.int .i64 n).wf = true := WalkArith.wf_i64 (by omega)

set_option maxHeartbeats 4000000 in
theorem once_walk (a : Option Addr) (len cap : Nat) (zs : List Int) (w : World) (hS : Steps w a len cap zs) (hl : len * 1 ≤ 140737488351232) (hr : ∀ j : Nat, -128 ≤ zs[j]?.getD 0 ∧ zs[j]?.getD 0 ≤ 127) :
    Calls Try.prog 4 #[.slice a len cap] w fun e w' => e = .returned (.bool true) ∧ Below w.heap.size w w' := by
  have hmm := @run_makeMap Try.prog
  go_enter Try.func4, Try.ntmps4
  go_wp2_with fail
  refine (head_any _).mono ?_
  rintro e w1 ⟨rfl, B⟩
  have hz1 := B.size
  have hset := (IsSet.new w1).alloc (.cells #[.int .i64 0, .int .u64 0] 24)
  have k0 : Win ((w1.alloc (.map #[] 0)).alloc (.cells #[.int .i64 0, .int .u64 0] 24)) (w1.heap.size + 1) (.int .i64 0) (.int .u64 0) := by
    have := Win.new (w1.alloc (.map #[] 0)) (.int .i64 0) (.int .u64 0)
    rwa [World.size_alloc] at this
  replace B := B_alloc (B_alloc B (.map #[] 0)) (.cells #[.int .i64 0, .int .u64 0] 24)
  go_wp2_with fail
  refine (ctrs_any a len cap zs _ (hS.below B) hl).mono ?_
  have hLb : ∀ k : Nat, k < (Pl.ctrs zs (min len 100)).length → 1 ≤ (Pl.ctrs zs (min len 100))[k]?.getD 0 ∧ (Pl.ctrs zs (min len 100))[k]?.getD 0 ≤ 20000 := fun k hk => by
    rw [Pl.ctrs_len] at hk
    rw [Pl.ctrs_get hk]
    have := Pl.stepAt_bd hr (k + 1)
    simp only [Option.getD_some]
    omega
  have hLl : (Pl.ctrs zs (min len 100)).length ≤ 100 := by rw [Pl.ctrs_len]; omega
  have HLb := Lib.hid hLb
  clear hLb hmm
  revert HLb hLl
  generalize Pl.ctrs zs (min len 100) = L
  intro hLl HLb
  rintro e w3 ⟨v, rfl, hrow, hb3⟩
  have hbase := k0.lt
  replace k0 := k0.below hb3
  replace hset := hset.below hb3
  replace B := B_trans B hb3
  generalize ((w1.alloc (.map #[] 0)).alloc (.cells #[.int .i64 0, .int .u64 0] 24)).heap.size = base at *
  rcases hrow.forms with ⟨rfl, hz⟩ | ⟨g, cp, rfl⟩
  · obtain ⟨S, hset, hA⟩ : ∃ S : Int → Bool, IsSet w3 w1.heap.size S 0 ∧ Pl.Agree 0 0 S := ⟨_, hset, Pl.agree_start⟩
    go_wp2_with fail
    refine wp_loop_rounds 1 ?_
    rw [rounds_succ]
    go_wp2_with fail
    go_loopw [12] (fun i wr => ∃ x : Int, i = .int .i64 x ∧ 1 ≤ x ∧ x ≤ (0 : Int) + 4 ∧ Win wr (w1.heap.size + 1) (.int .i64 (0 : Int)) (.int .u64 0) ∧ IsSet wr w1.heap.size S 0 ∧ Below w.heap.size w wr)
      (fun i _ => ((0 : Int) + 4 - intOf i).toNat)
    case atStart => exact ⟨1, rfl, by omega, by omega, k0, hset, B⟩
    case round =>
      clear k0 hset B
      obtain ⟨x, rfl, hx1, hx2, k0, hset, B⟩ := hrel
      obtain ⟨c0, c1, -, -⟩ := k0.all
      by_cases hlt : x ≤ (0 : Int) + 3
      · have hxc : Pl.isCtr x = true := Pl.isCtr_of (by omega) (by omega)
        have hxw : (Lit.int .i64 x).wf = true := wf_small (by omega) (by omega)
        have hlook := hset.look hxw
        have hS0 := And.intro c0 (And.intro c1 (And.intro hlook (Below.refl wr.heap.size wr)))
        have hS1 := And.intro c0 (And.intro c1 (And.intro (IsSet.look (w := wr.drew) (b := w1.heap.size) (k := 0) (S := S) hset hxw) (Below.refl wr.heap.size wr).drew))
        clear hlook
        have hfr := Pl.agree_fresh hA hxc
        have HA := Lib.hid hA.lt
        cases hsx : S x
        · by_cases h64 : (0 : Int) - 64 < x
          · rw [hsx, decide_eq_true h64] at hfr
            rw [hsx] at hS0 hS1
            have HSX := Lib.hid hsx
            clear hsx
            go_wp2_with fail
            have hwr : IntKind.i64.wrap (-64) = -64 := rfl
            have hd : decide (-64 < x) = true := decide_eq_true (by omega)
            go_region_held3 (fun W => W.cell? ⟨w1.heap.size + 1, 0, none⟩ = some (.int .i64 (0 : Int)) ∧ W.cell? ⟨w1.heap.size + 1, 1, none⟩ = some (.int .u64 0) ∧ (Instr.lookup 32 (.map (some w1.heap.size)) (.int .i64 x) false).run Try.prog W = .ok (.bool false) W ∧ Below wr.heap.size wr W)
              (first | assumption | exact hS1 | (refine keepL' hset HSX.out hxw ?_ hb'; assumption))
              (first
                | (go_at_call 14; refine (fresh_at (0 : Int) 0 x _ 0 true rfl HA.out hfr).mono ?_; rintro e w' ⟨rfl, hb'⟩))
            all_goals
              have hEnd := (by assumption : _ ∧ _ ∧ _ ∧ Below wr.heap.size wr _)
              have hB := hEnd.2.2.2
              clear c0 c1 hS0 hS1
              go_wp2_with fail
              go_roundw
              case rel => exact ⟨x + 1, by go_num, by omega, by omega, k0.below hB, hset.below hB, B_trans B hB⟩
              all_goals first | (simp [intOf]; done) | (simp [intOf]; omega)
          · exact absurd hx1 (by omega)
        · rw [hsx] at hfr
          rw [hsx] at hS0 hS1
          have HSX := Lib.hid hsx
          clear hsx
          obtain ⟨q0, q1, q2, -⟩ := hS1
          obtain ⟨p0, p1, p2, -⟩ := hS0
          clear c0 c1
          go_wp2_with fail
          first | go_region_with ((go_at_call 14; refine (fresh_at (0 : Int) 0 x _ 0 false rfl HA.out hfr).mono ?_; rintro e w' ⟨rfl, hb'⟩; have q3 := (IsSet.below (w := wr.drew) hset hb').look hxw; rw [HSX.out] at q3)) | fail
          all_goals
            have hB : Below wr.heap.size wr w' := (Below.refl wr.heap.size wr).drew.trans hb'
            clear p0 p1 p2 q0 q1 q2
            go_wp2_with fail
            go_roundw
            case rel => exact ⟨x + 1, by go_num, by omega, by omega, k0.below hB, hset.below hB, B_trans B hB⟩
            all_goals first | (simp [intOf]; done) | (simp [intOf]; omega)
      · go_wp2_with fail
        go_ret
        exact ⟨rfl, B⟩
  · have hll := hrow.len_le
    go_wp2_with fail
    go_loopw [6, 18] (fun tp i wr => ∃ k : Nat, k ≤ L.length ∧ i = .int .i64 k ∧ ∃ (T : Int) (Bt : Nat) (S : Int → Bool), tp = .int .i64 T ∧ T ≤ 20000 ∧ Win wr (w1.heap.size + 1) (.int .i64 T) (.int .u64 Bt) ∧ Pl.Agree T Bt S ∧ IsSet wr w1.heap.size S k ∧ Row base wr (.slice (some ⟨g, 0, none⟩) L.length cp) L ∧ Below w.heap.size w wr)
      (fun _ i _ => L.length - (intOf i).toNat)
    case atStart => exact ⟨0, by omega, rfl, 0, 0, _, rfl, by omega, k0, Pl.agree_start, hset, hrow, B⟩
    case round =>
      clear k0 hset hrow B
      obtain ⟨k, hk, rfl, T, Bt, S, rfl, hT, k0, hA, hset, hrow, B⟩ := hrel
      obtain ⟨c0, c1, -, -⟩ := k0.all
      have bt := Pl.valid_bd hA.valid
      have HV := Lib.hid hA.valid
      by_cases hlt : k < L.length
      · have hx := HLb.out k hlt
        have hcx := hrow.cell hlt
        generalize L[k]?.getD 0 = X at *
        have hXc : Pl.isCtr X = true := Pl.isCtr_of (by omega) (by omega)
        have hXw : (Lit.int .i64 X).wf = true := wf_small (by omega) (by omega)
        have hlook := hset.look hXw
        cases hsx : S X
        · by_cases h64 : T - 64 < X
          · have HF := Lib.hid (Pl.agree_new hA hXc hsx h64)
            rw [hsx] at hlook
            have HSX := Lib.hid hsx
            clear hsx
            by_cases hle : X ≤ T
            · go_wp2_with fail
              refine (note_at T Bt X _ Bt T (Pl.nbits T Bt X : Nat) 0 rfl hA.lt (by simp [Pl.note, HV.out, hXc, HF.out]; omega) (by simp [Pl.note, HV.out, hXc, HF.out]) (by simp [Pl.note, HV.out, hXc, HF.out])).mono ?_
              have hZ : Pl.nbits T Bt X < 2 ^ 64 ∧ Pl.Agree T (Pl.nbits T Bt X) (Pl.add S X) := by
                have h1 := Pl.agree_add hA HF.out
                rw [show max T X = T by omega] at h1
                exact ⟨h1.lt, h1⟩
              revert hZ
              generalize Pl.nbits T Bt X = Z
              rintro ⟨hZ, hA2⟩
              rintro e w4 ⟨rfl, hb4⟩
              replace k0 := (k0.below hb4).alloc (.cells #[.int .i64 T, .int .u64 (Z : Nat)] 24)
              replace hset := (hset.below hb4).alloc (.cells #[.int .i64 T, .int .u64 (Z : Nat)] 24)
              replace hrow := (hrow.below hb4).alloc (.cells #[.int .i64 T, .int .u64 (Z : Nat)] 24)
              have k1 := Win.new w4 (.int .i64 T) (.int .u64 (Z : Nat))
              replace B := B_alloc (B_trans B hb4) (.cells #[.int .i64 T, .int .u64 (Z : Nat)] 24)
              clear c0 c1 hcx hlook
              obtain ⟨c0, c1, -, -⟩ := k0.all
              go_wp2_with fail
              refine (fresh_at T Bt X _ Bt true rfl hA.lt HF.out).mono ?_
              rintro e w5 ⟨rfl, hb5⟩
              replace k0 := k0.below hb5
              replace hset := hset.below hb5
              replace hrow := hrow.below hb5
              replace k1 := k1.below hb5
              replace B := B_trans B hb5
              clear c0 c1
              obtain ⟨c0, c1, f0, f1⟩ := k0.all
              obtain ⟨d0, d1, -, -⟩ := k1.all
              have k0' := k0.set2 (.int .i64 T) (.int .u64 (Z : Nat))
              have hrow' := hrow.set2 (g := w1.heap.size + 1) (by omega) (.int .i64 T) (.int .u64 (Z : Nat))
              have B' := B_set2 (g := w1.heap.size + 1) B (by omega) (.int .i64 T) (.int .u64 (Z : Nat))
              obtain ⟨D, hown, hm, h3⟩ := hset.set2 (g := w1.heap.size + 1) (by omega) (.int .i64 T) (.int .u64 (Z : Nat))
              clear k0 hrow B hset k1
              go_wp2_with (first
                | (at_mapUpdate; refine wpList_mapUpdate_own _ rfl _ _ _ 32 rfl 3 4 law3 Try.underlying32 _ w1.heap.size k _ rfl hown (by unfold maxLen; omega) _ _ _ rfl rfl (keyOf_int_mk Try.underlying3 hXw) _ [] (plainElem_bool Try.underlying4 true) ?_; intro w9 hown9 hgrow9; have k0 := k0'.grown hgrow9 (by simp); have q1 := k0.all.1; have q2 := k0.all.2.1))
              have hset := IsSet.put hm h3 hown9
              have hrow := hrow'.grown hgrow9 (by omega)
              have B := B'.grown hgrow9 B'.size (fun j hj => by cases hj; omega)
              clear hown hown9 hgrow9 k0' hrow' B' hm h3 q1 q2 c0 c1 f0 f1 d0 d1
              obtain ⟨c0, c1, -, -⟩ := k0.all
              refine (valid_at T Z _ Z true rfl hZ hA2.valid).mono ?_
              rintro e w10 ⟨rfl, hb10⟩
              replace k0 := k0.below hb10
              clear c0 c1
              obtain ⟨c0, c1, -, -⟩ := k0.all
              go_wp2_with fail
              go_roundw
              case rel => exact ⟨k + 1, by omega, by go_num, T, Z, Pl.add S X, rfl, by omega, k0, hA2, hset.below hb10, hrow.below hb10, B_trans B hb10⟩
              all_goals first | (simp [intOf]; done) | (simp [intOf]; omega)
            · go_wp2_with fail
              refine (note_at T Bt X _ Bt X (Pl.nbits T Bt X : Nat) 0 rfl hA.lt (by simp [Pl.note, HV.out, hXc, HF.out]; omega) (by simp [Pl.note, HV.out, hXc, HF.out]) (by simp [Pl.note, HV.out, hXc, HF.out])).mono ?_
              have hZ : Pl.nbits T Bt X < 2 ^ 64 ∧ Pl.Agree X (Pl.nbits T Bt X) (Pl.add S X) := by
                have h1 := Pl.agree_add hA HF.out
                rw [show max T X = X by omega] at h1
                exact ⟨h1.lt, h1⟩
              revert hZ
              generalize Pl.nbits T Bt X = Z
              rintro ⟨hZ, hA2⟩
              rintro e w4 ⟨rfl, hb4⟩
              replace k0 := (k0.below hb4).alloc (.cells #[.int .i64 X, .int .u64 (Z : Nat)] 24)
              replace hset := (hset.below hb4).alloc (.cells #[.int .i64 X, .int .u64 (Z : Nat)] 24)
              replace hrow := (hrow.below hb4).alloc (.cells #[.int .i64 X, .int .u64 (Z : Nat)] 24)
              have k1 := Win.new w4 (.int .i64 X) (.int .u64 (Z : Nat))
              replace B := B_alloc (B_trans B hb4) (.cells #[.int .i64 X, .int .u64 (Z : Nat)] 24)
              clear c0 c1 hcx hlook
              obtain ⟨c0, c1, -, -⟩ := k0.all
              go_wp2_with fail
              refine (fresh_at T Bt X _ Bt true rfl hA.lt HF.out).mono ?_
              rintro e w5 ⟨rfl, hb5⟩
              replace k0 := k0.below hb5
              replace hset := hset.below hb5
              replace hrow := hrow.below hb5
              replace k1 := k1.below hb5
              replace B := B_trans B hb5
              clear c0 c1
              obtain ⟨c0, c1, f0, f1⟩ := k0.all
              obtain ⟨d0, d1, -, -⟩ := k1.all
              have k0' := k0.set2 (.int .i64 X) (.int .u64 (Z : Nat))
              have hrow' := hrow.set2 (g := w1.heap.size + 1) (by omega) (.int .i64 X) (.int .u64 (Z : Nat))
              have B' := B_set2 (g := w1.heap.size + 1) B (by omega) (.int .i64 X) (.int .u64 (Z : Nat))
              obtain ⟨D, hown, hm, h3⟩ := hset.set2 (g := w1.heap.size + 1) (by omega) (.int .i64 X) (.int .u64 (Z : Nat))
              clear k0 hrow B hset k1
              go_wp2_with (first
                | (at_mapUpdate; refine wpList_mapUpdate_own _ rfl _ _ _ 32 rfl 3 4 law3 Try.underlying32 _ w1.heap.size k _ rfl hown (by unfold maxLen; omega) _ _ _ rfl rfl (keyOf_int_mk Try.underlying3 hXw) _ [] (plainElem_bool Try.underlying4 true) ?_; intro w9 hown9 hgrow9; have k0 := k0'.grown hgrow9 (by simp); have q1 := k0.all.1; have q2 := k0.all.2.1))
              have hset := IsSet.put hm h3 hown9
              have hrow := hrow'.grown hgrow9 (by omega)
              have B := B'.grown hgrow9 B'.size (fun j hj => by cases hj; omega)
              clear hown hown9 hgrow9 k0' hrow' B' hm h3 q1 q2 c0 c1 f0 f1 d0 d1
              obtain ⟨c0, c1, -, -⟩ := k0.all
              refine (valid_at X Z _ Z true rfl hZ hA2.valid).mono ?_
              rintro e w10 ⟨rfl, hb10⟩
              replace k0 := k0.below hb10
              clear c0 c1
              obtain ⟨c0, c1, -, -⟩ := k0.all
              go_wp2_with fail
              go_roundw
              case rel => exact ⟨k + 1, by omega, by go_num, X, Z, Pl.add S X, rfl, by omega, k0, hA2, hset.below hb10, hrow.below hb10, B_trans B hb10⟩
              all_goals first | (simp [intOf]; done) | (simp [intOf]; omega)
          · have HF := Lib.hid (Pl.agree_old hA hXc (.inr h64))
            rw [hsx] at hlook
            have HSX := Lib.hid hsx
            clear hsx
            go_wp2_with fail
            refine (note_old T Bt X _ hA.lt HV.out hXc HF.out).mono ?_
            rintro e w4 ⟨rfl, hb4⟩
            replace k0 := (k0.below hb4).alloc (.cells #[.int .i64 0, .int .u64 0] 24)
            replace hset := (hset.below hb4).alloc (.cells #[.int .i64 0, .int .u64 0] 24)
            replace hrow := (hrow.below hb4).alloc (.cells #[.int .i64 0, .int .u64 0] 24)
            replace B := B_alloc (B_trans B hb4) (.cells #[.int .i64 0, .int .u64 0] 24)
            clear c0 c1 hcx hlook
            obtain ⟨c0, c1, -, -⟩ := k0.all
            go_wp2_with fail
            refine (fresh_at T Bt X _ Bt false rfl hA.lt HF.out).mono ?_
            rintro e w5 ⟨rfl, hb5⟩
            replace k0 := k0.below hb5
            replace hset := hset.below hb5
            replace hrow := hrow.below hb5
            replace B := B_trans B hb5
            clear c0 c1
            obtain ⟨c0, c1, f0, f1⟩ := k0.all
            go_wp2_with fail
            refine (valid_at T Bt _ Bt true rfl hA.lt hA.valid).mono ?_
            rintro e w10 ⟨rfl, hb10⟩
            replace k0 := k0.below hb10
            clear c0 c1 f0 f1
            obtain ⟨c0, c1, -, -⟩ := k0.all
            go_wp2_with fail
            go_roundw
            case rel => exact ⟨k + 1, by omega, by go_num, T, Bt, S, rfl, by omega, k0, hA, (hset.below hb10).mono (by omega), hrow.below hb10, B_trans B hb10⟩
            all_goals first | (simp [intOf]; done) | (simp [intOf]; omega)
        · have HF := Lib.hid (Pl.agree_old hA hXc (.inl hsx))
          rw [hsx] at hlook
          have HSX := Lib.hid hsx
          clear hsx
          go_wp2_with fail
          refine (note_old T Bt X _ hA.lt HV.out hXc HF.out).mono ?_
          rintro e w4 ⟨rfl, hb4⟩
          replace k0 := (k0.below hb4).alloc (.cells #[.int .i64 0, .int .u64 0] 24)
          replace hset := (hset.below hb4).alloc (.cells #[.int .i64 0, .int .u64 0] 24)
          replace hrow := (hrow.below hb4).alloc (.cells #[.int .i64 0, .int .u64 0] 24)
          replace B := B_alloc (B_trans B hb4) (.cells #[.int .i64 0, .int .u64 0] 24)
          clear c0 c1 hcx hlook
          obtain ⟨c0, c1, -, -⟩ := k0.all
          go_wp2_with fail
          refine (fresh_at T Bt X _ Bt false rfl hA.lt HF.out).mono ?_
          rintro e w5 ⟨rfl, hb5⟩
          replace k0 := k0.below hb5
          replace hset := hset.below hb5
          replace hrow := hrow.below hb5
          replace B := B_trans B hb5
          clear c0 c1
          obtain ⟨c0, c1, f0, f1⟩ := k0.all
          go_wp2_with fail
          refine (valid_at T Bt _ Bt true rfl hA.lt hA.valid).mono ?_
          rintro e w10 ⟨rfl, hb10⟩
          replace k0 := k0.below hb10
          clear c0 c1 f0 f1
          obtain ⟨c0, c1, -, -⟩ := k0.all
          go_wp2_with fail
          go_roundw
          case rel => exact ⟨k + 1, by omega, by go_num, T, Bt, S, rfl, by omega, k0, hA, (hset.below hb10).mono (by omega), hrow.below hb10, B_trans B hb10⟩
          all_goals first | (simp [intOf]; done) | (simp [intOf]; omega)
      · go_wp2_with fail
        go_loopw [12] (fun i wr => ∃ x : Int, i = .int .i64 x ∧ 1 ≤ x ∧ x ≤ T + 4 ∧ Win wr (w1.heap.size + 1) (.int .i64 T) (.int .u64 Bt) ∧ IsSet wr w1.heap.size S k ∧ Below w.heap.size w wr)
          (fun i _ => (T + 4 - intOf i).toNat)
        case atStart => exact ⟨1, rfl, by omega, by omega, k0, hset, B⟩
        case round =>
          clear k0 hset B
          obtain ⟨x, rfl, hx1, hx2, k0, hset, B⟩ := hrel
          obtain ⟨c0, c1, -, -⟩ := k0.all
          by_cases hlt : x ≤ T + 3
          · have hxc : Pl.isCtr x = true := Pl.isCtr_of (by omega) (by omega)
            have hxw : (Lit.int .i64 x).wf = true := wf_small (by omega) (by omega)
            have hlook := hset.look hxw
            have hS0 := And.intro c0 (And.intro c1 (And.intro hlook (Below.refl wr.heap.size wr)))
            have hS1 := And.intro c0 (And.intro c1 (And.intro (IsSet.look (w := wr.drew) (b := w1.heap.size) (k := k) (S := S) hset hxw) (Below.refl wr.heap.size wr).drew))
            clear hlook
            have hfr := Pl.agree_fresh hA hxc
            have HA := Lib.hid hA.lt
            cases hsx : S x
            · by_cases h64 : T - 64 < x
              · rw [hsx, decide_eq_true h64] at hfr
                rw [hsx] at hS0 hS1
                have HSX := Lib.hid hsx
                clear hsx
                go_wp2_with fail
                have hwr : IntKind.i64.wrap (T - 64) = T - 64 := IntWalk.i64_in _ (by omega)
                have hd : decide (T - 64 < x) = true := decide_eq_true (by omega)
                go_region_held3 (fun W => W.cell? ⟨w1.heap.size + 1, 0, none⟩ = some (.int .i64 T) ∧ W.cell? ⟨w1.heap.size + 1, 1, none⟩ = some (.int .u64 Bt) ∧ (Instr.lookup 32 (.map (some w1.heap.size)) (.int .i64 x) false).run Try.prog W = .ok (.bool false) W ∧ Below wr.heap.size wr W)
                  (first | assumption | exact hS1 | (refine keepL' hset HSX.out hxw ?_ hb'; assumption))
                  (first
                    | (go_at_call 14; refine (fresh_at T Bt x _ Bt true rfl HA.out hfr).mono ?_; rintro e w' ⟨rfl, hb'⟩))
                all_goals
                  have hEnd := (by assumption : _ ∧ _ ∧ _ ∧ Below wr.heap.size wr _)
                  have hB := hEnd.2.2.2
                  clear c0 c1 hS0 hS1
                  go_wp2_with fail
                  go_roundw
                  case rel => exact ⟨x + 1, by go_num, by omega, by omega, k0.below hB, hset.below hB, B_trans B hB⟩
                  all_goals first | (simp [intOf]; done) | (simp [intOf]; omega)
              · rw [hsx, decide_eq_false h64] at hfr
                rw [hsx] at hS0 hS1
                have HSX := Lib.hid hsx
                clear hsx
                go_wp2_with fail
                have hwr : IntKind.i64.wrap (T - 64) = T - 64 := IntWalk.i64_in _ (by omega)
                have hd : decide (T - 64 < x) = false := decide_eq_false (by omega)
                go_region_held3 (fun W => W.cell? ⟨w1.heap.size + 1, 0, none⟩ = some (.int .i64 T) ∧ W.cell? ⟨w1.heap.size + 1, 1, none⟩ = some (.int .u64 Bt) ∧ (Instr.lookup 32 (.map (some w1.heap.size)) (.int .i64 x) false).run Try.prog W = .ok (.bool false) W ∧ Below wr.heap.size wr W)
                  (first | assumption | exact hS1 | (refine keepL' hset HSX.out hxw ?_ hb'; assumption))
                  (first
                    | (go_at_call 14; refine (fresh_at T Bt x _ Bt false rfl HA.out hfr).mono ?_; rintro e w' ⟨rfl, hb'⟩))
                all_goals
                  have hEnd := (by assumption : _ ∧ _ ∧ _ ∧ Below wr.heap.size wr _)
                  have hB := hEnd.2.2.2
                  clear c0 c1 hS0 hS1
                  go_wp2_with fail
                  go_roundw
                  case rel => exact ⟨x + 1, by go_num, by omega, by omega, k0.below hB, hset.below hB, B_trans B hB⟩
                  all_goals first | (simp [intOf]; done) | (simp [intOf]; omega)
            · rw [hsx] at hfr
              rw [hsx] at hS0 hS1
              have HSX := Lib.hid hsx
              clear hsx
              obtain ⟨q0, q1, q2, -⟩ := hS1
              obtain ⟨p0, p1, p2, -⟩ := hS0
              clear c0 c1
              go_wp2_with fail
              first | go_region_with ((go_at_call 14; refine (fresh_at T Bt x _ Bt false rfl HA.out hfr).mono ?_; rintro e w' ⟨rfl, hb'⟩; have q3 := (IsSet.below (w := wr.drew) hset hb').look hxw; rw [HSX.out] at q3)) | fail
              all_goals
                have hB : Below wr.heap.size wr w' := (Below.refl wr.heap.size wr).drew.trans hb'
                clear p0 p1 p2 q0 q1 q2
                go_wp2_with fail
                go_roundw
                case rel => exact ⟨x + 1, by go_num, by omega, by omega, k0.below hB, hset.below hB, B_trans B hB⟩
                all_goals first | (simp [intOf]; done) | (simp [intOf]; omega)
          · go_wp2_with fail
            go_ret
            exact ⟨rfl, B⟩
theorem once_law (a : Option Addr) (len cap : Nat) (zs : List Int) (w : World) (hS : Steps w a len cap zs) (hl : len * 1 ≤ 140737488351232) :
    Calls Try.prog 4 #[.slice a len cap] w fun e w' => e = .returned (.bool true) ∧ Below w.heap.size w w' := by
  refine once_walk a len cap zs w hS hl ?_
  rcases hS with ⟨_, _, _, rfl⟩ | ⟨x, _, _, _, _, _, hwf⟩
  · intro j; simp
  · exact range_i8 hwf
end Go.Proofs.Ytkpkngecabciiaa
