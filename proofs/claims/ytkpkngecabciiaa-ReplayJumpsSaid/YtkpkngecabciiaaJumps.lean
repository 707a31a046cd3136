/-
  A counter greater than Top is fresh and is noted with the shifted bits: the walk of ReplayJumps. Conditions: none.
-/
import Derived.Test.YtkpkngecabciiaaMatch
namespace Go.Proofs.Ytkpkngecabciiaa
open Go.RowKit

theorem jump_note {t k : Int} {b : Nat} (hv : Pl.valid t b = true) (hk : 0 < k) (hn : Pl.isCtr (t + k) = true) :
    Pl.fresh t b (t + k) = true ∧ (Pl.note t b (t + k)).t = t + k ∧ (Pl.note t b (t + k)).b = Pl.up b k ||| 1 ∧ (Pl.note t b (t + k)).e = 0 := by
  have hf : Pl.fresh t b (t + k) = true := Pl.fresh_new hv hn (by omega)
  have e : max t (t + k) = t + k := by omega
  have e1 : t + k - t = k := by omega
  refine ⟨hf, ?_, ?_, ?_⟩ <;> simp [Pl.note, hv, hn, hf, e, Pl.nbits, e1]
theorem jump_lt {b : Nat} {k : Int} (h0 : 0 < k) (h : k < 64) : ((Pl.up b k ||| 1 : Nat) : Int) = bits .or .u64 1 (IntKind.u64.wrap ((b : Int) * 2 ^ k.toNat)) := by
  rw [Pl.shl_spell, show (1 : Int) = ((1 : Nat) : Int) from rfl, u64_or_nat _ _ (by decide) (by exact Nat.mod_lt _ (by decide)), Nat.or_comm, Pl.up, if_neg (by omega)]
theorem jump_ge {b : Nat} {k : Int} (h : 64 ≤ k) : ((Pl.up b k ||| 1 : Nat) : Int) = 1 := by
  rw [Pl.up, if_pos h]; rfl

set_option maxHeartbeats 2000000 in
theorem jumps_walk (t : Int) (b : Nat) (k : Int) (w : World) (hb : b < 2 ^ 64) (hk0 : 0 ≤ k) (hk1 : k ≤ 65535) :
    Calls Try.prog 7 #[.agg #[.int .i64 t, .int .u64 b], .int .u16 k] w fun e w' => e = .returned (.bool true) ∧ Below w.heap.size w w' := by
  have k0 := Win.new w (.int .i64 t) (.int .u64 b)
  cases hv : Pl.valid t b
  · go_enter Try.func7, Try.ntmps7
    go_wp2_with fail
    refine (head_any _).mono ?_
    rintro e w1 ⟨rfl, hb1⟩
    have B : Below w.heap.size w w1 := (Joins.below_alloc1 w _).trans (hb1.mono (by simp))
    replace k0 := k0.below hb1
    obtain ⟨c0, c1, -, -⟩ := k0.all
    go_wp2_with fail
    refine (rvalid_any t b _ hb).mono ?_
    rw [hv]
    rintro e w2 ⟨rfl, hb2⟩
    go_wp2_with fail
    go_ret
    exact ⟨rfl, B_trans B hb2⟩
  have bt := Pl.valid_bd hv
  by_cases hz : k = 0
  · have hz1 : (k == 0) = true := by rw [hz]; rfl
    clear hz
    go_enter Try.func7, Try.ntmps7
    go_wp2_with fail
    refine (head_any _).mono ?_
    rintro e w1 ⟨rfl, hb1⟩
    have B : Below w.heap.size w w1 := (Joins.below_alloc1 w _).trans (hb1.mono (by simp))
    replace k0 := k0.below hb1
    obtain ⟨c0, c1, -, -⟩ := k0.all
    go_wp2_with fail
    refine (rvalid_any t b _ hb).mono ?_
    rw [hv]
    rintro e w2 ⟨rfl, hb2⟩
    go_wp2_with fail
    go_ret
    exact ⟨rfl, B_trans B hb2⟩
  have hz1 : (k == 0) = false := by rw [beq_eq_false_iff_ne]; exact hz
  by_cases hm : 1000000000 < t + k
  · go_enter Try.func7, Try.ntmps7
    go_wp2_with fail
    refine (head_any _).mono ?_
    rintro e w1 ⟨rfl, hb1⟩
    have B : Below w.heap.size w w1 := (Joins.below_alloc1 w _).trans (hb1.mono (by simp))
    replace k0 := k0.below hb1
    obtain ⟨c0, c1, -, -⟩ := k0.all
    go_wp2_with fail
    refine (rvalid_any t b _ hb).mono ?_
    rw [hv]
    rintro e w2 ⟨rfl, hb2⟩
    replace k0 := k0.below hb2
    clear c0 c1
    obtain ⟨c0, c1, -, -⟩ := k0.all
    go_wp2_with fail
    go_ret
    exact ⟨rfl, B_trans B hb2⟩
  obtain ⟨hf, n1, n2, n3⟩ := jump_note hv (show 0 < k by omega) (Pl.isCtr_of (by omega) (by omega))
  have main : ∀ x : Int, ((Pl.up b k ||| 1 : Nat) : Int) = x → ∀ w : World, Calls Try.prog 10 #[.agg #[.int .i64 t, .int .u64 b], .int .i64 (t + k)] w fun e w' =>
      e = .returned (.tuple #[.agg #[.int .i64 (t + k), .int .u64 x], .int .i64 0]) ∧ Below w.heap.size w w' := fun x hx w =>
    note_at t b (t + k) w b (t + k) x 0 rfl hb n1 (by rw [n2]; exact hx) n3
  have HF := Lib.hid hf
  have HV := Lib.hid hv
  have HM := Lib.hid main
  have HZ := Lib.hid hz
  clear n1 n2 n3 hf hv main hz
  by_cases hlt : k < 64
  all_goals
    go_enter Try.func7, Try.ntmps7
    go_wp2_with fail
    refine (head_any _).mono ?_
    rintro e w1 ⟨rfl, hb1⟩
    have B : Below w.heap.size w w1 := (Joins.below_alloc1 w _).trans (hb1.mono (by simp))
    replace k0 := k0.below hb1
    obtain ⟨c0, c1, -, -⟩ := k0.all
    go_wp2_with fail
    refine (rvalid_any t b _ hb).mono ?_
    rw [HV.out]
    rintro e w2 ⟨rfl, hb2⟩
    replace k0 := k0.below hb2
    replace B := B_trans B hb2
    clear c0 c1
    obtain ⟨c0, c1, -, -⟩ := k0.all
    go_wp2_with fail
  · refine (HM.out _ (jump_lt (by have := HZ.out; omega) hlt) _).mono ?_
    rintro e w3 ⟨rfl, hb3⟩
    have k1 := Win.new w3 (.int .i64 (t + k)) (.int .u64 (bits .or .u64 1 (IntKind.u64.wrap ((b : Int) * 2 ^ k.toNat))))
    replace k0 := (k0.below hb3).alloc (.cells #[.int .i64 (t + k), .int .u64 (bits .or .u64 1 (IntKind.u64.wrap ((b : Int) * 2 ^ k.toNat)))] 24)
    replace B := B_alloc (B_trans B hb3) (.cells #[.int .i64 (t + k), .int .u64 (bits .or .u64 1 (IntKind.u64.wrap ((b : Int) * 2 ^ k.toNat)))] 24)
    clear c0 c1
    obtain ⟨c0, c1, -, -⟩ := k0.all
    obtain ⟨d0, d1, -, -⟩ := k1.all
    go_wp2_with fail
    refine (fresh_any t b (t + k) _ hb).mono ?_
    rw [HF.out]
    rintro e w4 ⟨rfl, hb4⟩
    replace k0 := k0.below hb4
    replace k1 := k1.below hb4
    clear c0 c1 d0 d1
    obtain ⟨c0, c1, -, -⟩ := k0.all
    obtain ⟨d0, d1, -, -⟩ := k1.all
    go_wp2_with fail
    go_ret
    exact ⟨rfl, B_trans B hb4⟩
  · refine (HM.out _ (jump_ge (by omega)) _).mono ?_
    rintro e w3 ⟨rfl, hb3⟩
    have k1 := Win.new w3 (.int .i64 (t + k)) (.int .u64 1)
    replace k0 := (k0.below hb3).alloc (.cells #[.int .i64 (t + k), .int .u64 1] 24)
    replace B := B_alloc (B_trans B hb3) (.cells #[.int .i64 (t + k), .int .u64 1] 24)
    clear c0 c1
    obtain ⟨c0, c1, -, -⟩ := k0.all
    obtain ⟨d0, d1, -, -⟩ := k1.all
    go_wp2_with fail
    refine (fresh_any t b (t + k) _ hb).mono ?_
    rw [HF.out]
    rintro e w4 ⟨rfl, hb4⟩
    replace k0 := k0.below hb4
    replace k1 := k1.below hb4
    clear c0 c1 d0 d1
    obtain ⟨c0, c1, -, -⟩ := k0.all
    obtain ⟨d0, d1, -, -⟩ := k1.all
    go_wp2_with fail
    go_ret
    exact ⟨rfl, B_trans B hb4⟩
theorem jumps_law (t b k : Int) (w : World) (_ : (Lit.int .i64 t).wf = true) (hb : (Lit.int .u64 b).wf = true) (hk : (Lit.int .u16 k).wf = true) :
    Calls Try.prog 7 #[.agg #[.int .i64 t, .int .u64 b], .int .u16 k] w fun e w' => e = .returned (.bool true) ∧ Below w.heap.size w w' := by
  obtain ⟨b, rfl, h⟩ := u64_nat hb
  have := bounds_u16 hk
  exact jumps_walk t b k w h this.1 this.2
end Go.Proofs.Ytkpkngecabciiaa
