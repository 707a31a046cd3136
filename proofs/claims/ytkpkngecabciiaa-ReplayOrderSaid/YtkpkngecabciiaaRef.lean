/-
  The walks of the reference of layer 29: Counter, There, Valid, Fresh, Note come to what the program's functions come to. Conditions: the bits lie below 2^64.
-/
import Derived.Test.YtkpkngecabciiaaHead
import Derived.Lib.Hide
import Derived.Lib.SmallJoins
namespace Go.Proofs.Ytkpkngecabciiaa
open Go.RowKit

set_option maxHeartbeats 400000 in
theorem rctr_any (n : Int) (w : World) :
    Calls Try.prog 18 #[.int .i64 n] w fun e w' => e = .returned (.bool (Pl.isCtr n)) ∧ w = w' := by
  go_enter Try.func18, Try.ntmps18
  go_wp2_with fail
  all_goals go_ret
  all_goals exact ⟨ret_bool (by simp [Pl.isCtr]; omega), rfl⟩

set_option maxHeartbeats 400000 in
theorem there_any (t : Int) (b : Nat) (n : Int) (w : World) (hb : b < 2 ^ 64) (h0 : 0 ≤ t - n) (h1 : t - n < 64) :
    Calls Try.prog 23 #[.agg #[.int .i64 t, .int .u64 b], .int .i64 n] w fun e w' => e = .returned (.bool (b.testBit (t - n).toNat)) ∧ Below w.heap.size w w' := by
  go_enter Try.func23, Try.ntmps23
  go_wp2_with fail
  go_ret
  exact ⟨ret_bool (Pl.bit_spell b hb _), (Below.refl _ _).alloc (Nat.le_refl _) _⟩

set_option maxHeartbeats 1000000 in
theorem rvalid_any (t : Int) (b : Nat) (w : World) (hb : b < 2 ^ 64) :
    Calls Try.prog 13 #[.agg #[.int .i64 t, .int .u64 b]] w fun e w' => e = .returned (.bool (Pl.valid t b)) ∧ Below w.heap.size w w' := by
  by_cases h0 : t < 0
  · go_enter Try.func13, Try.ntmps13
    go_wp2_with fail
    go_ret
    exact ⟨ret_bool (Pl.valid_out (by omega)).symm, (Below.refl _ _).alloc (Nat.le_refl _) _⟩
  by_cases h1 : 1000000000 < t
  · go_enter Try.func13, Try.ntmps13
    go_wp2_with fail
    go_ret
    exact ⟨ret_bool (Pl.valid_out (by omega)).symm, (Below.refl _ _).alloc (Nat.le_refl _) _⟩
  by_cases h2 : t = 0
  · have h3 : (t == 0) = true := by rw [h2]; rfl
    have H2 := Lib.hid h2
    clear h2
    go_enter Try.func13, Try.ntmps13
    go_wp2_with fail
    go_ret
    exact ⟨ret_bool (by rw [Pl.nat_zero, Pl.valid, if_pos H2.out]), (Below.refl _ _).alloc (Nat.le_refl _) _⟩
  have h3 : (t == 0) = false := by rw [beq_eq_false_iff_ne]; exact h2
  go_enter Try.func13, Try.ntmps13
  go_wp2_with fail
  go_loopw [3] (fun i wr => ∃ k : Nat, k ≤ 64 ∧ i = .int .i64 k ∧ (∀ j : Nat, j < k → t ≤ j → b.testBit j = false) ∧ Win wr w.heap.size (.int .i64 t) (.int .u64 b) ∧ Below w.heap.size w wr)
    (fun i _ => 64 - (intOf i).toNat)
  case atStart => exact ⟨0, by omega, rfl, fun j hj => by omega, Win.new _ _ _, (Below.refl _ _).alloc (Nat.le_refl _) _⟩
  case round =>
    obtain ⟨k, hk, rfl, hall, hW, hB⟩ := hrel
    obtain ⟨c0, c1, -, -⟩ := hW.all
    have HA := Lib.hid hall
    clear hall
    by_cases hlt : k < 64
    · by_cases ht : t - k < 1
      · go_wp2_with fail
        refine (there_any t b (t - k) _ hb (by omega) (by omega)).mono ?_
        rintro e w1 ⟨rfl, hb1⟩
        have ek : (t - (t - (k : Int))).toNat = k := by omega
        rw [ek]
        clear ek
        cases hbit : b.testBit k
        · have HB := Lib.hid hbit
          clear hbit
          go_wp2_with fail
          go_roundw
          case rel => exact ⟨k + 1, by omega, by go_num, Pl.ext_false HA.out (fun _ => HB.out), (hW.below hb1), B_trans hB hb1⟩
          case measure => simp [intOf]; omega
        · have HB := Lib.hid hbit
          clear hbit
          go_wp2_with fail
          go_ret
          exact ⟨ret_bool (Pl.valid_no hb (by omega) (by omega) hlt (by omega) HB.out).symm, B_trans hB hb1⟩
      · go_wp2_with fail
        go_roundw
        case rel => exact ⟨k + 1, by omega, by go_num, Pl.ext_false HA.out (fun h => by omega), hW, hB⟩
        case measure => simp [intOf]; omega
    · go_wp2_with fail
      refine (there_any t b t _ hb (by omega) (by omega)).mono ?_
      rintro e w1 ⟨rfl, hb1⟩
      have ek : (t - t).toNat = 0 := by omega
      rw [ek]
      clear ek
      go_wp2_with fail
      go_ret
      exact ⟨ret_bool (by rw [Pl.valid_yes hb (by omega) (by omega) (fun j hj => HA.out j (by omega)), Nat.testBit_zero]), B_trans hB hb1⟩

set_option maxHeartbeats 400000 in
theorem rfresh_any (t : Int) (b : Nat) (n : Int) (w : World) (hb : b < 2 ^ 64) :
    Calls Try.prog 15 #[.agg #[.int .i64 t, .int .u64 b], .int .i64 n] w fun e w' => e = .returned (.bool (Pl.fresh t b n)) ∧ Below w.heap.size w w' := by
  by_cases hv : Pl.valid t b = true
  · by_cases hn : Pl.isCtr n = true
    · have bt := Pl.valid_bd hv
      have bn := Pl.isCtr_bd hn
      by_cases h1 : n ≤ t - 64
      · go_enter Try.func15, Try.ntmps15
        go_wp2_with fail
        refine (rvalid_any _ _ _ hb).mono ?_
        rintro e w1 ⟨rfl, hb1⟩
        obtain ⟨c0, c1, -, -⟩ := ((Win.new w (.int .i64 t) (.int .u64 b)).below hb1).all
        go_wp2_with (first
          | (go_at_call 18; refine (rctr_any _ _).mono ?_; rintro e w' ⟨rfl, rfl⟩))
        go_ret
        exact ⟨ret_bool (Pl.fresh_far (by omega)).symm, ((Below.refl _ _).alloc (Nat.le_refl _) _).trans (hb1.mono (by simp))⟩
      by_cases h2 : t < n
      · go_enter Try.func15, Try.ntmps15
        go_wp2_with fail
        refine (rvalid_any _ _ _ hb).mono ?_
        rintro e w1 ⟨rfl, hb1⟩
        obtain ⟨c0, c1, -, -⟩ := ((Win.new w (.int .i64 t) (.int .u64 b)).below hb1).all
        go_wp2_with (first
          | (go_at_call 18; refine (rctr_any _ _).mono ?_; rintro e w' ⟨rfl, rfl⟩))
        go_ret
        exact ⟨ret_bool (Pl.fresh_new hv hn h2).symm, ((Below.refl _ _).alloc (Nat.le_refl _) _).trans (hb1.mono (by simp))⟩
      · go_enter Try.func15, Try.ntmps15
        go_wp2_with fail
        refine (rvalid_any _ _ _ hb).mono ?_
        rintro e w1 ⟨rfl, hb1⟩
        obtain ⟨c0, c1, -, -⟩ := ((Win.new w (.int .i64 t) (.int .u64 b)).below hb1).all
        go_wp2_with (first
          | (go_at_call 18; refine (rctr_any _ _).mono ?_; rintro e w' ⟨rfl, rfl⟩))
        refine (there_any _ _ _ _ hb (by omega) (by omega)).mono ?_
        rintro e w2 ⟨rfl, hb2⟩
        go_wp2_with fail
        go_ret
        exact ⟨ret_bool (by rw [Pl.fresh_in hv hn (by omega) (by omega), decide_eq_false (show ¬ t < n by omega), Bool.false_or]), B_trans (((Below.refl _ _).alloc (Nat.le_refl _) _).trans (hb1.mono (by simp))) hb2⟩
    · go_enter Try.func15, Try.ntmps15
      go_wp2_with fail
      refine (rvalid_any _ _ _ hb).mono ?_
      rintro e w1 ⟨rfl, hb1⟩
      go_wp2_with (first
        | (go_at_call 18; refine (rctr_any _ _).mono ?_; rintro e w' ⟨rfl, rfl⟩))
      go_ret
      exact ⟨ret_bool (by simp [Pl.fresh, hn]), ((Below.refl _ _).alloc (Nat.le_refl _) _).trans (hb1.mono (by simp))⟩
  · go_enter Try.func15, Try.ntmps15
    go_wp2_with fail
    refine (rvalid_any _ _ _ hb).mono ?_
    rintro e w1 ⟨rfl, hb1⟩
    go_wp2_with fail
    go_ret
    exact ⟨ret_bool (by simp [Pl.fresh, hv]), ((Below.refl _ _).alloc (Nat.le_refl _) _).trans (hb1.mono (by simp))⟩

theorem Win.put {w : World} {g : Nat} {a b : Value} {g2 o : Nat} (h : Win w g a b) (hp : g ≠ g2) (v : Value) : Win (w.setCell ⟨g2, o, none⟩ v).drew g a b := by
  have e : (w.setCell ⟨g2, o, none⟩ v).heap[g]? = w.heap[g]? := Below.heap_setCell w ⟨g2, o, none⟩ v g hp
  exact e.trans h
theorem Win.set1 {w : World} {g : Nat} {a b c c' : Value} (h : Win w g a b) (hc : c = c') : Win (w.setCell ⟨g, 1, none⟩ c).drew g a c' := by
  subst hc
  exact Joins.block_setCell (w := w) (i := 1) h c
theorem B_put {w wr : World} {g2 o : Nat} (h : Below w.heap.size w wr) (hp : w.heap.size ≤ g2) (v : Value) : Below w.heap.size w (wr.setCell ⟨g2, o, none⟩ v).drew := (h.setCell hp v).drew

set_option maxHeartbeats 2000000 in
theorem rnote_any (t : Int) (b : Nat) (n : Int) (w : World) (hb : b < 2 ^ 64) :
    Calls Try.prog 11 #[.agg #[.int .i64 t, .int .u64 b], .int .i64 n] w fun e w' =>
      e = .returned (.tuple #[.agg #[.int .i64 (Pl.note t b n).t, .int .u64 ((Pl.note t b n).b : Nat)], .int .i64 (Pl.note t b n).e]) ∧ Below w.heap.size w w' := by
  by_cases hv : Pl.valid t b = true
  · by_cases hn : Pl.isCtr n = true
    · have bt := Pl.valid_bd hv
      have bn := Pl.isCtr_bd hn
      cases hfr : Pl.fresh t b n
      · go_enter Try.func11, Try.ntmps11
        go_wp2_with fail
        obtain ⟨k0, k1⟩ := two_new w (.int .i64 t) (.int .u64 b) (.int .i64 0) (.int .u64 0)
        refine (rvalid_any _ _ _ hb).mono ?_
        rintro e w1 ⟨rfl, hb1⟩
        obtain ⟨c0, c1, f0, f1⟩ := (k0.below hb1).all
        go_wp2_with (first
          | (go_at_call 18; refine (rctr_any _ _).mono ?_; rintro e w' ⟨rfl, rfl⟩))
        refine (rfresh_any _ _ _ _ hb).mono ?_
        rintro e w2 ⟨rfl, hb2⟩
        obtain ⟨m0, m1, p0, p1⟩ := ((k1.below hb1).below hb2).all
        have B : Below w.heap.size w w2 := (((Below.refl _ _).alloc (Nat.le_refl _) _).alloc (by simp) _).trans ((hb1.trans (hb2.mono hb1.size)).mono (by simp; omega))
        have hz := ((k1.below hb1).below hb2).lt
        go_wp2_with fail
        refine bodyPost_ret (v := .tuple #[.agg #[.int .i64 0, .int .u64 0], .int .i64 14]) (by simp [results, Try.results11, go_sem, m0, m1]) rfl ⟨by simp [Pl.note, hv, hn, hfr], ?_⟩
        exact (B.setCell (by simp) _).setCell (by simp) _
      · have hfb := Pl.fresh_bd hfr
        by_cases hle : n ≤ t
        · go_enter Try.func11, Try.ntmps11
          go_wp2_with fail
          obtain ⟨k0, k1⟩ := two_new w (.int .i64 t) (.int .u64 b) (.int .i64 0) (.int .u64 0)
          refine (rvalid_any _ _ _ hb).mono ?_
          rintro e w1 ⟨rfl, hb1⟩
          obtain ⟨c0, c1, f0, f1⟩ := (k0.below hb1).all
          go_wp2_with (first
            | (go_at_call 18; refine (rctr_any _ _).mono ?_; rintro e w' ⟨rfl, rfl⟩))
          refine (rfresh_any _ _ _ _ hb).mono ?_
          rintro e w2 ⟨rfl, hb2⟩
          clear c0 c1 f0 f1
          have j0 := (k0.below hb1).below hb2
          have j1 := (k1.below hb1).below hb2
          obtain ⟨c0, c1, -, -⟩ := j0.all
          have B : Below w.heap.size w w2 := (((Below.refl _ _).alloc (Nat.le_refl _) _).alloc (by simp) _).trans ((hb1.trans (hb2.mono hb1.size)).mono (by simp; omega))
          have hz := j1.lt
          go_wp2_with fail
          go_loopw [7] (fun i wr => ∃ k : Nat, k ≤ 64 ∧ i = .int .i64 k ∧ Win wr w.heap.size (.int .i64 t) (.int .u64 b) ∧ Win wr (w.heap.size + 1) (.int .i64 0) (.int .u64 0) ∧ Win wr w2.heap.size (.int .i64 t) (.int .u64 (Pl.racc t b n t k : Nat)) ∧ Below w.heap.size w wr)
            (fun i _ => 64 - (intOf i).toNat)
          case atStart => exact ⟨0, by omega, rfl, j0.alloc _, j1.alloc _, Win.new _ _ _, B_alloc B _⟩
          case round =>
            obtain ⟨k, hk, rfl, hW, hX, hO, hB⟩ := hrel
            have hacc := Pl.racc_lt t b n t k hk
            clear c0 c1 
            obtain ⟨c0, c1, -, -⟩ := hW.all
            obtain ⟨o0, o1, of0, of1⟩ := hO.all
            obtain ⟨x0, x1, xf0, xf1⟩ := hX.all
            have hX2 := hX.lt
            by_cases hlt : k < 64
            · by_cases he : t - k = n
              · have e1 : ((t - (k : Int)) == n) = true := by rw [beq_iff_eq]; exact he
                have HE := Lib.hid he
                clear he
                go_wp2_with fail
                go_region
                go_wp2_with fail
                go_roundw
                case rel => exact ⟨k + 1, by omega, by go_num, hW.put (by omega) _, hX.put (by omega) _, hO.set1 (by rw [Pl.or_spell' _ _ hacc hlt, Pl.racc_yes (.inl HE.out)]), B_put hB (by omega) _⟩
                all_goals first | (simp [intOf]; done) | (simp [intOf]; omega)
              · have e1 : ((t - (k : Int)) == n) = false := by rw [beq_eq_false_iff_ne]; exact he
                have HE := Lib.hid he
                clear he
                by_cases h1 : t - k ≤ t
                · by_cases h2 : t - 64 < t - k
                  · go_wp2_with fail
                    refine (there_any t b (t - k) _ hb (by omega) (by omega)).mono ?_
                    rintro e w3 ⟨rfl, hb3⟩
                    replace hW := hW.below hb3
                    replace hX := hX.below hb3
                    replace hO := hO.below hb3
                    replace hB := B_trans hB hb3
                    clear c0 c1 o0 o1 of0 of1 x0 x1 xf0 xf1
                    obtain ⟨o0, o1, of0, of1⟩ := hO.all
                    cases hbit : b.testBit (t - (t - (k : Int))).toNat
                    · have HB := Lib.hid hbit
                      clear hbit
                      go_wp2_with fail
                      go_roundw
                      case rel => exact ⟨k + 1, by omega, by go_num, hW, hX, by rw [Pl.racc_no (by intro h; rcases h with h | ⟨_, _, h⟩; exact HE.out h; rw [HB.out] at h; cases h)]; exact hO, hB⟩
                      all_goals first | (simp [intOf]; done) | (simp [intOf]; omega)
                    · have HB := Lib.hid hbit
                      clear hbit
                      go_wp2_with fail
                      go_region
                      go_wp2_with fail
                      go_roundw
                      case rel => exact ⟨k + 1, by omega, by go_num, hW.put (by omega) _, hX.put (by omega) _, hO.set1 (by rw [Pl.or_spell' _ _ hacc hlt, Pl.racc_yes (.inr ⟨h1, h2, HB.out⟩)]), B_put hB (by omega) _⟩
                      all_goals first | (simp [intOf]; done) | (simp [intOf]; omega)
                  · go_wp2_with fail
                    all_goals
                      go_roundw
                      case rel => exact ⟨k + 1, by omega, by go_num, hW, hX, by rw [Pl.racc_no (by intro h; rcases h with h | ⟨_, h, _⟩; exact HE.out h; omega)]; exact hO, hB⟩
                      all_goals first | (simp [intOf]; done) | (simp [intOf]; omega)
                · go_wp2_with fail
                  all_goals
                    go_roundw
                    case rel => exact ⟨k + 1, by omega, by go_num, hW, hX, by rw [Pl.racc_no (by intro h; rcases h with h | ⟨h, _, _⟩; exact HE.out h; omega)]; exact hO, hB⟩
                    all_goals first | (simp [intOf]; done) | (simp [intOf]; omega)
            · obtain rfl : k = 64 := by omega
              go_wp2_with fail
              refine bodyPost_ret (v := .tuple #[.agg #[.int .i64 (Pl.note t b n).t, .int .u64 ((Pl.note t b n).b : Nat)], .int .i64 (Pl.note t b n).e]) (by simp [results, Try.results11, go_sem, x0, x1, Pl.note, hv, hn, hfr]; exact Pl.rnb_le hfr hle) rfl ⟨rfl, ?_⟩
              exact (hB.setCell (by simp) _).setCell (by simp) _
        · go_enter Try.func11, Try.ntmps11
          go_wp2_with fail
          obtain ⟨k0, k1⟩ := two_new w (.int .i64 t) (.int .u64 b) (.int .i64 0) (.int .u64 0)
          refine (rvalid_any _ _ _ hb).mono ?_
          rintro e w1 ⟨rfl, hb1⟩
          obtain ⟨c0, c1, f0, f1⟩ := (k0.below hb1).all
          go_wp2_with (first
            | (go_at_call 18; refine (rctr_any _ _).mono ?_; rintro e w' ⟨rfl, rfl⟩))
          refine (rfresh_any _ _ _ _ hb).mono ?_
          rintro e w2 ⟨rfl, hb2⟩
          clear c0 c1 f0 f1
          have j0 := (k0.below hb1).below hb2
          have j1 := (k1.below hb1).below hb2
          obtain ⟨c0, c1, -, -⟩ := j0.all
          have B : Below w.heap.size w w2 := (((Below.refl _ _).alloc (Nat.le_refl _) _).alloc (by simp) _).trans ((hb1.trans (hb2.mono hb1.size)).mono (by simp; omega))
          have hz := j1.lt
          go_wp2_with fail
          go_loopw [7] (fun i wr => ∃ k : Nat, k ≤ 64 ∧ i = .int .i64 k ∧ Win wr w.heap.size (.int .i64 t) (.int .u64 b) ∧ Win wr (w.heap.size + 1) (.int .i64 0) (.int .u64 0) ∧ Win wr w2.heap.size (.int .i64 n) (.int .u64 (Pl.racc t b n n k : Nat)) ∧ Below w.heap.size w wr)
            (fun i _ => 64 - (intOf i).toNat)
          case atStart => exact ⟨0, by omega, rfl, j0.alloc _, j1.alloc _, Win.new _ _ _, B_alloc B _⟩
          case round =>
            obtain ⟨k, hk, rfl, hW, hX, hO, hB⟩ := hrel
            have hacc := Pl.racc_lt t b n n k hk
            clear c0 c1 
            obtain ⟨c0, c1, -, -⟩ := hW.all
            obtain ⟨o0, o1, of0, of1⟩ := hO.all
            obtain ⟨x0, x1, xf0, xf1⟩ := hX.all
            have hX2 := hX.lt
            by_cases hlt : k < 64
            · by_cases he : n - k = n
              · have e1 : ((n - (k : Int)) == n) = true := by rw [beq_iff_eq]; exact he
                have HE := Lib.hid he
                clear he
                go_wp2_with fail
                go_region
                go_wp2_with fail
                go_roundw
                case rel => exact ⟨k + 1, by omega, by go_num, hW.put (by omega) _, hX.put (by omega) _, hO.set1 (by rw [Pl.or_spell' _ _ hacc hlt, Pl.racc_yes (.inl HE.out)]), B_put hB (by omega) _⟩
                all_goals first | (simp [intOf]; done) | (simp [intOf]; omega)
              · have e1 : ((n - (k : Int)) == n) = false := by rw [beq_eq_false_iff_ne]; exact he
                have HE := Lib.hid he
                clear he
                by_cases h1 : n - k ≤ t
                · by_cases h2 : t - 64 < n - k
                  · go_wp2_with fail
                    refine (there_any t b (n - k) _ hb (by omega) (by omega)).mono ?_
                    rintro e w3 ⟨rfl, hb3⟩
                    replace hW := hW.below hb3
                    replace hX := hX.below hb3
                    replace hO := hO.below hb3
                    replace hB := B_trans hB hb3
                    clear c0 c1 o0 o1 of0 of1 x0 x1 xf0 xf1
                    obtain ⟨o0, o1, of0, of1⟩ := hO.all
                    cases hbit : b.testBit (t - (n - (k : Int))).toNat
                    · have HB := Lib.hid hbit
                      clear hbit
                      go_wp2_with fail
                      go_roundw
                      case rel => exact ⟨k + 1, by omega, by go_num, hW, hX, by rw [Pl.racc_no (by intro h; rcases h with h | ⟨_, _, h⟩; exact HE.out h; rw [HB.out] at h; cases h)]; exact hO, hB⟩
                      all_goals first | (simp [intOf]; done) | (simp [intOf]; omega)
                    · have HB := Lib.hid hbit
                      clear hbit
                      go_wp2_with fail
                      go_region
                      go_wp2_with fail
                      go_roundw
                      case rel => exact ⟨k + 1, by omega, by go_num, hW.put (by omega) _, hX.put (by omega) _, hO.set1 (by rw [Pl.or_spell' _ _ hacc hlt, Pl.racc_yes (.inr ⟨h1, h2, HB.out⟩)]), B_put hB (by omega) _⟩
                      all_goals first | (simp [intOf]; done) | (simp [intOf]; omega)
                  · go_wp2_with fail
                    all_goals
                      go_roundw
                      case rel => exact ⟨k + 1, by omega, by go_num, hW, hX, by rw [Pl.racc_no (by intro h; rcases h with h | ⟨_, h, _⟩; exact HE.out h; omega)]; exact hO, hB⟩
                      all_goals first | (simp [intOf]; done) | (simp [intOf]; omega)
                · go_wp2_with fail
                  all_goals
                    go_roundw
                    case rel => exact ⟨k + 1, by omega, by go_num, hW, hX, by rw [Pl.racc_no (by intro h; rcases h with h | ⟨h, _, _⟩; exact HE.out h; omega)]; exact hO, hB⟩
                    all_goals first | (simp [intOf]; done) | (simp [intOf]; omega)
            · obtain rfl : k = 64 := by omega
              go_wp2_with fail
              refine bodyPost_ret (v := .tuple #[.agg #[.int .i64 (Pl.note t b n).t, .int .u64 ((Pl.note t b n).b : Nat)], .int .i64 (Pl.note t b n).e]) (by simp [results, Try.results11, go_sem, x0, x1, Pl.note, hv, hn, hfr]; exact Pl.rnb_gt hfr (by omega)) rfl ⟨rfl, ?_⟩
              exact (hB.setCell (by simp) _).setCell (by simp) _
    · go_enter Try.func11, Try.ntmps11
      go_wp2_with fail
      obtain ⟨k0, k1⟩ := two_new w (.int .i64 t) (.int .u64 b) (.int .i64 0) (.int .u64 0)
      refine (rvalid_any _ _ _ hb).mono ?_
      rintro e w1 ⟨rfl, hb1⟩
      obtain ⟨m0, m1, p0, p1⟩ := (k1.below hb1).all
      have B : Below w.heap.size w w1 := (((Below.refl _ _).alloc (Nat.le_refl _) _).alloc (by simp) _).trans (hb1.mono (by simp; omega))
      have hz := (k1.below hb1).lt
      go_wp2_with (first
        | (go_at_call 18; refine (rctr_any _ _).mono ?_; rintro e w' ⟨rfl, rfl⟩))
      refine bodyPost_ret (v := .tuple #[.agg #[.int .i64 0, .int .u64 0], .int .i64 1]) (by simp [results, Try.results11, go_sem, m0, m1]) rfl ⟨by simp [Pl.note, hn], ?_⟩
      exact (B.setCell (by simp) _).setCell (by simp) _
  · go_enter Try.func11, Try.ntmps11
    go_wp2_with fail
    obtain ⟨k0, k1⟩ := two_new w (.int .i64 t) (.int .u64 b) (.int .i64 0) (.int .u64 0)
    refine (rvalid_any _ _ _ hb).mono ?_
    rintro e w1 ⟨rfl, hb1⟩
    obtain ⟨m0, m1, p0, p1⟩ := (k1.below hb1).all
    have B : Below w.heap.size w w1 := (((Below.refl _ _).alloc (Nat.le_refl _) _).alloc (by simp) _).trans (hb1.mono (by simp; omega))
    have hz := (k1.below hb1).lt
    go_wp2_with fail
    refine bodyPost_ret (v := .tuple #[.agg #[.int .i64 0, .int .u64 0], .int .i64 1]) (by simp [results, Try.results11, go_sem, m0, m1]) rfl ⟨by simp [Pl.note, hv], ?_⟩
    exact (B.setCell (by simp) _).setCell (by simp) _
end Go.Proofs.Ytkpkngecabciiaa
