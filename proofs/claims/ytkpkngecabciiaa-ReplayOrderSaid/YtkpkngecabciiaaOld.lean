/-
  A counter that was refused as old is refused after all further counters, too: the walk of ReplayOld. Condition: the steps' cells are known.
-/
import Derived.Test.YtkpkngecabciiaaCtrs
import Derived.Test.YtkpkngecabciiaaSeen
namespace Go.Proofs.Ytkpkngecabciiaa
open Go.RowKit

theorem Win.set2 {w : World} {g : Nat} {a b : Value} (h : Win w g a b) (a' b' : Value) : Win ((w.setCell ⟨g, 0, none⟩ a').setCell ⟨g, 1, none⟩ b') g a' b' := by
  have h1 := Joins.block_setCell (w := w) (i := 0) h a'
  exact Joins.block_setCell (w := w.setCell ⟨g, 0, none⟩ a') (i := 1) h1 b'
theorem Row.below {base : Nat} {w w' : World} {v : Value} {xs : List Int} (h : Row base w v xs) (hb : Below w.heap.size w w') : Row base w' v xs :=
  World.ownsRow.kept (row := none) h ⟨hb.os, hb.tape, hb.output, hb.size, fun k hk _ => hb.block k hk⟩ (by cases hv : v.ownBlock <;> simp)
theorem Row.alloc {base : Nat} {w : World} {v : Value} {xs : List Int} (h : Row base w v xs) (o : Obj) : Row base (w.alloc o) v xs := World.ownsRow.alloc h o
theorem Row.set2 {base : Nat} {w : World} {v : Value} {xs : List Int} (h : Row base w v xs) {g : Nat} (hg : g < base) (a b : Value) : Row base ((w.setCell ⟨g, 0, none⟩ a).setCell ⟨g, 1, none⟩ b) v xs :=
  ownsRow_setCell_below (ownsRow_setCell_below h hg a) hg b
theorem Row.forms {base : Nat} {w : World} {v : Value} {xs : List Int} (h : Row base w v xs) : (v = .slice none 0 0 ∧ xs.length = 0) ∨ ∃ g cap, v = .slice (some ⟨g, 0, none⟩) xs.length cap := Joins.ownsRow_forms h
theorem Row.cell {base g cap : Nat} {w : World} {xs : List Int} (h : Row base w (.slice (some ⟨g, 0, none⟩) xs.length cap) xs) {k : Nat} (hk : k < xs.length) : w.cell? ⟨g, k, none⟩ = some (.int .i64 (xs[k]?.getD 0)) := by
  have := World.ownsRow.cellAt h k (by omega)
  rw [this]
  simp [hk]
theorem Row.len_le {base g cap : Nat} {w : World} {xs : List Int} (h : Row base w (.slice (some ⟨g, 0, none⟩) xs.length cap) xs) : xs.length ≤ 9223372036854775807 := by
  obtain ⟨_, ⟨h1, _⟩ | ⟨g', cap', cur, h1, _, _, h2, h3, _⟩⟩ := h
  · cases h1
  · cases h1; unfold maxLen at h3; omega
theorem B_set2 {w wr : World} (h : Below w.heap.size w wr) {g : Nat} (hg : w.heap.size ≤ g) (a b : Value) : Below w.heap.size w ((wr.setCell ⟨g, 0, none⟩ a).setCell ⟨g, 1, none⟩ b) := (h.setCell hg a).setCell hg b

/-- What Note answers, for a valid window and a counter. -/
def NoteR (t : Int) (b : Nat) (m : Int) (w : World) (e : Ending) (w' : World) : Prop :=
  (Pl.fresh t b m = true ∧ e = .returned (.tuple #[.agg #[.int .i64 (max t m), .int .u64 (Pl.nbits t b m : Nat)], .int .i64 0]) ∧ Below w.heap.size w w') ∨
  (Pl.fresh t b m = false ∧ e = .returned (.tuple #[.agg #[.int .i64 0, .int .u64 0], .int .i64 14]) ∧ Below w.heap.size w w')
theorem note_r (t : Int) (b : Nat) (m : Int) (w : World) (hb : b < 2 ^ 64) (hv : Pl.valid t b = true) (hm : Pl.isCtr m = true) :
    Calls Try.prog 10 #[.agg #[.int .i64 t, .int .u64 b], .int .i64 m] w (NoteR t b m w) := by
  refine (note_any t b m w hb).mono fun e w' ⟨he, hB⟩ => ?_
  cases hf : Pl.fresh t b m
  · right; exact ⟨hf, by rw [he]; simp [Pl.note, hv, hm, hf], hB⟩
  · left; exact ⟨hf, by rw [he]; simp [Pl.note, hv, hm, hf], hB⟩
theorem note_old (t : Int) (b : Nat) (m : Int) (w : World) (hb : b < 2 ^ 64) (hv : Pl.valid t b = true) (hm : Pl.isCtr m = true) (hf : Pl.fresh t b m = false) :
    Calls Try.prog 10 #[.agg #[.int .i64 t, .int .u64 b], .int .i64 m] w fun e w' => e = .returned (.tuple #[.agg #[.int .i64 0, .int .u64 0], .int .i64 14]) ∧ Below w.heap.size w w' :=
  (note_any t b m w hb).mono fun e w' ⟨he, hB⟩ => ⟨by rw [he]; simp [Pl.note, hv, hm, hf], hB⟩

/-- What Note answers where a counter n was refused: the next window is valid and refuses n, too; or nothing was noted. -/
def OldR (n : Int) (w : World) (e : Ending) (w' : World) : Prop :=
  (∃ (T : Int) (B : Nat), e = .returned (.tuple #[.agg #[.int .i64 T, .int .u64 B], .int .i64 0]) ∧ B < 2 ^ 64 ∧ Pl.valid T B = true ∧ Pl.fresh T B n = false ∧ Below w.heap.size w w') ∨
  (e = .returned (.tuple #[.agg #[.int .i64 0, .int .u64 0], .int .i64 14]) ∧ Below w.heap.size w w')
theorem old_r (n t : Int) (b : Nat) (m : Int) (w : World) (hb : b < 2 ^ 64) (hv : Pl.valid t b = true) (hm : Pl.isCtr m = true) (hn : Pl.isCtr n = true) (hf : Pl.fresh t b n = false) :
    Calls Try.prog 10 #[.agg #[.int .i64 t, .int .u64 b], .int .i64 m] w (OldR n w) := by
  refine (note_r t b m w hb hv hm).mono ?_
  rintro e w' (⟨h1, he, hB⟩ | ⟨h1, he, hB⟩)
  · exact .inl ⟨_, _, he, Pl.nbits_lt (Pl.fresh_bd h1).1, Pl.note_valid hb h1, Pl.old_step hb h1 hf hn, hB⟩
  · exact .inr ⟨he, hB⟩

def OldInv (n : Int) (w : World) (L : List Int) (base : Nat) (v : Value) (T : Int) (B : Nat) (wr : World) : Prop :=
  Win wr w.heap.size (.int .i64 T) (.int .u64 B) ∧ B < 2 ^ 64 ∧ Pl.valid T B = true ∧ Pl.fresh T B n = false ∧ Row base wr v L ∧ Below w.heap.size w wr

set_option maxHeartbeats 2000000 in
theorem old_walk (t : Int) (b : Nat) (n : Int) (a : Option Addr) (len cap : Nat) (zs : List Int) (w : World) (hb : b < 2 ^ 64) (hS : Steps w a len cap zs) (hl : len * 1 ≤ 140737488351232) (hr : ∀ j : Nat, -128 ≤ zs[j]?.getD 0 ∧ zs[j]?.getD 0 ≤ 127) :
    Calls Try.prog 8 #[.agg #[.int .i64 t, .int .u64 b], .int .i64 n, .slice a len cap] w fun e w' => e = .returned (.bool true) ∧ Below w.heap.size w w' := by
  have k0 := Win.new w (.int .i64 t) (.int .u64 b)
  by_cases hh : Pl.valid t b = true ∧ Pl.isCtr n = true ∧ Pl.fresh t b n = false
  · obtain ⟨hv, hn, hf⟩ := hh
    go_enter Try.func8, Try.ntmps8
    go_wp2_with fail
    refine (head_any _).mono ?_
    rintro e w1 ⟨rfl, hb1⟩
    have B : Below w.heap.size w w1 := (Joins.below_alloc1 w _).trans (hb1.mono (by simp))
    replace k0 := k0.below hb1
    obtain ⟨c0, c1, -, -⟩ := k0.all
    go_wp2_with fail
    refine (note_old t b n _ hb hv hn hf).mono ?_
    rintro e w2 ⟨rfl, hb2⟩
    replace k0 := (k0.below hb2).alloc (.cells #[.int .i64 0, .int .u64 0] 24)
    replace B := B_alloc (B_trans B hb2) (.cells #[.int .i64 0, .int .u64 0] 24)
    clear c0 c1
    go_wp2_with fail
    refine (ctrs_any a len cap zs _ (hS.below B) hl).mono ?_
    have HLd := Lib.hid (rfl : Pl.ctrs zs (min len 100) = Pl.ctrs zs (min len 100))
    have hLb : ∀ k : Nat, 0 ≤ (Pl.ctrs zs (min len 100))[k]?.getD 0 ∧ (Pl.ctrs zs (min len 100))[k]?.getD 0 ≤ 20000 := fun k => by
      by_cases hk : k < min len 100
      · rw [Pl.ctrs_get hk]
        have := Pl.stepAt_bd hr (k + 1)
        simp only [Option.getD_some]
        omega
      · rw [List.getElem?_eq_none (by rw [Pl.ctrs_len]; omega)]; simp
    clear HLd
    have HLb := Lib.hid hLb
    clear hLb
    revert HLb
    generalize Pl.ctrs zs (min len 100) = L
    intro HLb
    rintro e w3 ⟨v, rfl, hrow, hb3⟩
    have hbase := k0.lt
    replace k0 := k0.below hb3
    replace B := B_trans B hb3
    have hI : OldInv n w L (w2.alloc (.cells #[.int .i64 0, .int .u64 0] 24)).heap.size v t b w3 := ⟨k0, hb, hv, hf, hrow, B⟩
    generalize (w2.alloc (.cells #[.int .i64 0, .int .u64 0] 24)).heap.size = base at *
    rcases hrow.forms with ⟨rfl, hz⟩ | ⟨g, cp, rfl⟩
    · go_wp2_with fail
      refine wp_loop_rounds 1 ?_
      rw [rounds_succ]
      go_wp2_with fail
      go_ret
      exact ⟨rfl, B⟩
    · have hll := hrow.len_le
      clear hrow hv hf hb k0 B
      go_wp2_with fail
      go_loopw [29] (fun i wr => ∃ k : Nat, k ≤ L.length ∧ i = .int .i64 k ∧ ∃ (T : Int) (Bt : Nat), OldInv n w L base (.slice (some ⟨g, 0, none⟩) L.length cp) T Bt wr)
        (fun i _ => L.length - (intOf i).toNat)
      case atStart => exact ⟨0, by omega, rfl, t, b, hI⟩
      case round =>
        obtain ⟨k, hk, rfl, T, Bt, k0, hb, hv, hf, hrow, B⟩ := hrel
        clear hI
        have HF := Lib.hid hf
        have HV := Lib.hid hv
        clear hf hv
        by_cases hlt : k < L.length
        · have hx := HLb.out k
          have hcx := hrow.cell hlt
          have bt := Pl.valid_bd HV.out
          obtain ⟨c0, c1, -, -⟩ := k0.all
          generalize L[k]?.getD 0 = X at *
          by_cases h1 : 1000000000 ≤ T + X - 500
          · go_wp2_with fail
            refine (old_r n T Bt _ _ hb HV.out (Pl.isCtr_of (by omega) (by omega)) hn HF.out).mono ?_
            rintro e w4 (⟨T2, B2, rfl, hb2', hv2, hf2, hb4⟩ | ⟨rfl, hb4⟩)
            · replace k0 := (k0.below hb4).alloc (.cells #[.int .i64 T2, .int .u64 (B2 : Nat)] 24)
              have k1 := Win.new w4 (.int .i64 T2) (.int .u64 (B2 : Nat))
              replace hrow := (hrow.below hb4).alloc (.cells #[.int .i64 T2, .int .u64 (B2 : Nat)] 24)
              replace B := B_alloc (B_trans B hb4) (.cells #[.int .i64 T2, .int .u64 (B2 : Nat)] 24)
              have HF2 := Lib.hid hf2
              have HV2 := Lib.hid hv2
              clear hf2 hv2 c0 c1 hcx
              obtain ⟨c0, c1, f0, f1⟩ := k0.all
              obtain ⟨d0, d1, -, -⟩ := k1.all
              replace k0 := k0.set2 (.int .i64 T2) (.int .u64 (B2 : Nat))
              replace hrow := hrow.set2 hbase (.int .i64 T2) (.int .u64 (B2 : Nat))
              replace B := B_set2 B (Nat.le_refl _) (.int .i64 T2) (.int .u64 (B2 : Nat))
              go_wp2_with fail
              refine (note_old T2 B2 n _ hb2' HV2.out hn HF2.out).mono ?_
              rintro e w5 ⟨rfl, hb5⟩
              replace k0 := (k0.below hb5).alloc (.cells #[.int .i64 0, .int .u64 0] 24)
              replace hrow := (hrow.below hb5).alloc (.cells #[.int .i64 0, .int .u64 0] 24)
              replace B := B_alloc (B_trans B hb5) (.cells #[.int .i64 0, .int .u64 0] 24)
              clear c0 c1 f0 f1 d0 d1
              obtain ⟨c0, c1, f0, f1⟩ := k0.all
              go_wp2_with fail
              refine (fresh_at T2 B2 n _ B2 false rfl hb2' HF2.out).mono ?_
              rintro e w6 ⟨rfl, hb6⟩
              go_wp2_with fail
              go_roundw
              case rel => exact ⟨k + 1, by omega, by go_num, T2, B2, k0.below hb6, hb2', HV2.out, HF2.out, hrow.below hb6, B_trans B hb6⟩
              all_goals first | (simp [intOf]; done) | (simp [intOf]; omega)
            · replace k0 := (k0.below hb4).alloc (.cells #[.int .i64 0, .int .u64 0] 24)
              replace hrow := (hrow.below hb4).alloc (.cells #[.int .i64 0, .int .u64 0] 24)
              replace B := B_alloc (B_trans B hb4) (.cells #[.int .i64 0, .int .u64 0] 24)
              clear c0 c1 hcx
              obtain ⟨c0, c1, f0, f1⟩ := k0.all
              go_wp2_with fail
              refine (note_old T Bt n _ hb HV.out hn HF.out).mono ?_
              rintro e w5 ⟨rfl, hb5⟩
              replace k0 := (k0.below hb5).alloc (.cells #[.int .i64 0, .int .u64 0] 24)
              replace hrow := (hrow.below hb5).alloc (.cells #[.int .i64 0, .int .u64 0] 24)
              replace B := B_alloc (B_trans B hb5) (.cells #[.int .i64 0, .int .u64 0] 24)
              clear c0 c1 f0 f1
              obtain ⟨c0, c1, f0, f1⟩ := k0.all
              go_wp2_with fail
              refine (fresh_at T Bt n _ Bt false rfl hb HF.out).mono ?_
              rintro e w6 ⟨rfl, hb6⟩
              go_wp2_with fail
              go_roundw
              case rel => exact ⟨k + 1, by omega, by go_num, T, Bt, k0.below hb6, hb, HV.out, HF.out, hrow.below hb6, B_trans B hb6⟩
              all_goals first | (simp [intOf]; done) | (simp [intOf]; omega)
          · by_cases h2 : T + X - 500 ≤ 1
            · go_wp2_with fail
              refine (old_r n T Bt _ _ hb HV.out (Pl.isCtr_of (by omega) (by omega)) hn HF.out).mono ?_
              rintro e w4 (⟨T2, B2, rfl, hb2', hv2, hf2, hb4⟩ | ⟨rfl, hb4⟩)
              · replace k0 := (k0.below hb4).alloc (.cells #[.int .i64 T2, .int .u64 (B2 : Nat)] 24)
                have k1 := Win.new w4 (.int .i64 T2) (.int .u64 (B2 : Nat))
                replace hrow := (hrow.below hb4).alloc (.cells #[.int .i64 T2, .int .u64 (B2 : Nat)] 24)
                replace B := B_alloc (B_trans B hb4) (.cells #[.int .i64 T2, .int .u64 (B2 : Nat)] 24)
                have HF2 := Lib.hid hf2
                have HV2 := Lib.hid hv2
                clear hf2 hv2 c0 c1 hcx
                obtain ⟨c0, c1, f0, f1⟩ := k0.all
                obtain ⟨d0, d1, -, -⟩ := k1.all
                replace k0 := k0.set2 (.int .i64 T2) (.int .u64 (B2 : Nat))
                replace hrow := hrow.set2 hbase (.int .i64 T2) (.int .u64 (B2 : Nat))
                replace B := B_set2 B (Nat.le_refl _) (.int .i64 T2) (.int .u64 (B2 : Nat))
                go_wp2_with fail
                refine (note_old T2 B2 n _ hb2' HV2.out hn HF2.out).mono ?_
                rintro e w5 ⟨rfl, hb5⟩
                replace k0 := (k0.below hb5).alloc (.cells #[.int .i64 0, .int .u64 0] 24)
                replace hrow := (hrow.below hb5).alloc (.cells #[.int .i64 0, .int .u64 0] 24)
                replace B := B_alloc (B_trans B hb5) (.cells #[.int .i64 0, .int .u64 0] 24)
                clear c0 c1 f0 f1 d0 d1
                obtain ⟨c0, c1, f0, f1⟩ := k0.all
                go_wp2_with fail
                refine (fresh_at T2 B2 n _ B2 false rfl hb2' HF2.out).mono ?_
                rintro e w6 ⟨rfl, hb6⟩
                go_wp2_with fail
                go_roundw
                case rel => exact ⟨k + 1, by omega, by go_num, T2, B2, k0.below hb6, hb2', HV2.out, HF2.out, hrow.below hb6, B_trans B hb6⟩
                all_goals first | (simp [intOf]; done) | (simp [intOf]; omega)
              · replace k0 := (k0.below hb4).alloc (.cells #[.int .i64 0, .int .u64 0] 24)
                replace hrow := (hrow.below hb4).alloc (.cells #[.int .i64 0, .int .u64 0] 24)
                replace B := B_alloc (B_trans B hb4) (.cells #[.int .i64 0, .int .u64 0] 24)
                clear c0 c1 hcx
                obtain ⟨c0, c1, f0, f1⟩ := k0.all
                go_wp2_with fail
                refine (note_old T Bt n _ hb HV.out hn HF.out).mono ?_
                rintro e w5 ⟨rfl, hb5⟩
                replace k0 := (k0.below hb5).alloc (.cells #[.int .i64 0, .int .u64 0] 24)
                replace hrow := (hrow.below hb5).alloc (.cells #[.int .i64 0, .int .u64 0] 24)
                replace B := B_alloc (B_trans B hb5) (.cells #[.int .i64 0, .int .u64 0] 24)
                clear c0 c1 f0 f1
                obtain ⟨c0, c1, f0, f1⟩ := k0.all
                go_wp2_with fail
                refine (fresh_at T Bt n _ Bt false rfl hb HF.out).mono ?_
                rintro e w6 ⟨rfl, hb6⟩
                go_wp2_with fail
                go_roundw
                case rel => exact ⟨k + 1, by omega, by go_num, T, Bt, k0.below hb6, hb, HV.out, HF.out, hrow.below hb6, B_trans B hb6⟩
                all_goals first | (simp [intOf]; done) | (simp [intOf]; omega)
            · go_wp2_with fail
              refine (old_r n T Bt _ _ hb HV.out (Pl.isCtr_of (by omega) (by omega)) hn HF.out).mono ?_
              rintro e w4 (⟨T2, B2, rfl, hb2', hv2, hf2, hb4⟩ | ⟨rfl, hb4⟩)
              · replace k0 := (k0.below hb4).alloc (.cells #[.int .i64 T2, .int .u64 (B2 : Nat)] 24)
                have k1 := Win.new w4 (.int .i64 T2) (.int .u64 (B2 : Nat))
                replace hrow := (hrow.below hb4).alloc (.cells #[.int .i64 T2, .int .u64 (B2 : Nat)] 24)
                replace B := B_alloc (B_trans B hb4) (.cells #[.int .i64 T2, .int .u64 (B2 : Nat)] 24)
                have HF2 := Lib.hid hf2
                have HV2 := Lib.hid hv2
                clear hf2 hv2 c0 c1 hcx
                obtain ⟨c0, c1, f0, f1⟩ := k0.all
                obtain ⟨d0, d1, -, -⟩ := k1.all
                replace k0 := k0.set2 (.int .i64 T2) (.int .u64 (B2 : Nat))
                replace hrow := hrow.set2 hbase (.int .i64 T2) (.int .u64 (B2 : Nat))
                replace B := B_set2 B (Nat.le_refl _) (.int .i64 T2) (.int .u64 (B2 : Nat))
                go_wp2_with fail
                refine (note_old T2 B2 n _ hb2' HV2.out hn HF2.out).mono ?_
                rintro e w5 ⟨rfl, hb5⟩
                replace k0 := (k0.below hb5).alloc (.cells #[.int .i64 0, .int .u64 0] 24)
                replace hrow := (hrow.below hb5).alloc (.cells #[.int .i64 0, .int .u64 0] 24)
                replace B := B_alloc (B_trans B hb5) (.cells #[.int .i64 0, .int .u64 0] 24)
                clear c0 c1 f0 f1 d0 d1
                obtain ⟨c0, c1, f0, f1⟩ := k0.all
                go_wp2_with fail
                refine (fresh_at T2 B2 n _ B2 false rfl hb2' HF2.out).mono ?_
                rintro e w6 ⟨rfl, hb6⟩
                go_wp2_with fail
                go_roundw
                case rel => exact ⟨k + 1, by omega, by go_num, T2, B2, k0.below hb6, hb2', HV2.out, HF2.out, hrow.below hb6, B_trans B hb6⟩
                all_goals first | (simp [intOf]; done) | (simp [intOf]; omega)
              · replace k0 := (k0.below hb4).alloc (.cells #[.int .i64 0, .int .u64 0] 24)
                replace hrow := (hrow.below hb4).alloc (.cells #[.int .i64 0, .int .u64 0] 24)
                replace B := B_alloc (B_trans B hb4) (.cells #[.int .i64 0, .int .u64 0] 24)
                clear c0 c1 hcx
                obtain ⟨c0, c1, f0, f1⟩ := k0.all
                go_wp2_with fail
                refine (note_old T Bt n _ hb HV.out hn HF.out).mono ?_
                rintro e w5 ⟨rfl, hb5⟩
                replace k0 := (k0.below hb5).alloc (.cells #[.int .i64 0, .int .u64 0] 24)
                replace hrow := (hrow.below hb5).alloc (.cells #[.int .i64 0, .int .u64 0] 24)
                replace B := B_alloc (B_trans B hb5) (.cells #[.int .i64 0, .int .u64 0] 24)
                clear c0 c1 f0 f1
                obtain ⟨c0, c1, f0, f1⟩ := k0.all
                go_wp2_with fail
                refine (fresh_at T Bt n _ Bt false rfl hb HF.out).mono ?_
                rintro e w6 ⟨rfl, hb6⟩
                go_wp2_with fail
                go_roundw
                case rel => exact ⟨k + 1, by omega, by go_num, T, Bt, k0.below hb6, hb, HV.out, HF.out, hrow.below hb6, B_trans B hb6⟩
                all_goals first | (simp [intOf]; done) | (simp [intOf]; omega)
        · go_wp2_with fail
          go_ret
          exact ⟨rfl, B⟩
  · have hE : ((Pl.note t b n).e != 14) = true := by
      unfold Pl.note
      cases hv : Pl.valid t b
      · rfl
      · cases hn : Pl.isCtr n
        · rfl
        · cases hf : Pl.fresh t b n
          · exact absurd ⟨hv, hn, hf⟩ hh
          · rfl
    clear hh
    have A := Lib.hid (fun w => note_any t b n w hb)
    revert A hE
    generalize (Pl.note t b n).t = T
    generalize (Pl.note t b n).b = Z
    generalize (Pl.note t b n).e = E
    intro hE A
    go_enter Try.func8, Try.ntmps8
    go_wp2_with fail
    refine (head_any _).mono ?_
    rintro e w1 ⟨rfl, hb1⟩
    have B : Below w.heap.size w w1 := (Joins.below_alloc1 w _).trans (hb1.mono (by simp))
    replace k0 := k0.below hb1
    obtain ⟨c0, c1, -, -⟩ := k0.all
    go_wp2_with fail
    refine (A.out _).mono ?_
    rintro e w2 ⟨rfl, hb2⟩
    go_wp2_with fail
    go_ret
    exact ⟨rfl, B_alloc (B_trans B hb2) _⟩
theorem old_law (t b n : Int) (a : Option Addr) (len cap : Nat) (zs : List Int) (w : World) (_ : (Lit.int .i64 t).wf = true) (hb : (Lit.int .u64 b).wf = true) (_ : (Lit.int .i64 n).wf = true) (hS : Steps w a len cap zs) (hl : len * 1 ≤ 140737488351232) :
    Calls Try.prog 8 #[.agg #[.int .i64 t, .int .u64 b], .int .i64 n, .slice a len cap] w fun e w' => e = .returned (.bool true) ∧ Below w.heap.size w w' := by
  obtain ⟨b, rfl, h⟩ := u64_nat hb
  refine old_walk t b n a len cap zs w h hS hl ?_
  rcases hS with ⟨_, _, _, rfl⟩ | ⟨x, _, _, _, _, _, hwf⟩
  · intro j; simp
  · exact range_i8 hwf
end Go.Proofs.Ytkpkngecabciiaa
