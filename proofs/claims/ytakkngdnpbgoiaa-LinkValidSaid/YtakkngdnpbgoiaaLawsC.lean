/-
  The law LinkValid: it returns true. Conditions: none.
-/
import Derived.Test.YtakkngdnpbgoiaaLawsA
namespace Go.Proofs.Ytakkngdnpbgoiaa
open Go.RowKit

theorem count_at (hd : Option Addr) (L M : List Lk) (n cap : Nat) (p : Int) (a : Bool) (w : World) (hR : Rd w hd L) (hn : L.length = n) (hcap : n ≤ cap) (hV : Pl.Vld L) (hp : 0 ≤ p ∧ p ≤ 59) (h : Pl.count L p a = M) :
    Calls Try.prog 10 #[.slice hd n cap, .int .i64 p, .bool a] w (Counted w M) := by subst hn h; exact count_ok hd L cap p a w hR hcap hV hp
namespace Pl
theorem count_len {L : List Lk} (p : Int) (a : Bool) : L.length ≤ (count L p a).length ∧ (count L p a).length ≤ L.length + 1 := by
  have := fnd_le L p
  unfold count rst
  rw [List.length_append, List.length_take, List.length_cons, List.length_drop]
  split <;> omega
def hasN (M : List Lk) (p : Int) : Nat → Bool
  | 0 => false
  | k + 1 => hasN M p k || ((g M k).P == p)
theorem hasN_of {M : List Lk} {p : Int} {i : Nat} (h : (g M i).P = p) : ∀ k, i < k → hasN M p k = true := by
  intro k
  induction k with
  | zero => intro h0; omega
  | succ k ih =>
    intro h0
    rw [hasN]
    by_cases e : i = k
    · subst e; rw [beq_iff_eq.2 h, Bool.or_true]
    · rw [ih (by omega), Bool.true_or]
theorem count_has {L : List Lk} (h : Vld L) (p : Int) (a : Bool) : hasN (count L p a) p (count L p a).length = true := by
  have hm : cnt (of L p) a ∈ count L p a := (mem_count h p a _).2 (.inl rfl)
  obtain ⟨i, hi, e⟩ := mem_g hm
  exact hasN_of (by rw [e, cnt_P, of_P]) _ hi
end Pl
set_option maxHeartbeats 4000000 in
theorem lvalid_inv (hd : Option Addr) (L : List Lk) (n cap : Nat) (p q : Int) (a : Bool) (w : World) (hR : Rd w hd L) (hn : L.length = n) (hlen : n ≤ 5864062014634) (hV : ¬ Pl.Vld L) :
    Calls Try.prog 4 #[.slice hd n cap, .int .i64 p, .bool a, .int .i64 q] w fun e w' => e = .returned (.bool true) ∧ Below w.heap.size w w' := by
  have HN := Lib.hid hn
  clear hn
  have B := Below.refl w.heap.size w
  go_enter Try.func4, Try.ntmps4
  go_wp2_with fail
  refine (head_any _).mono ?_
  rintro e w1 ⟨rfl, hb⟩
  replace B := B_trans B hb
  replace hR := hR.below hb
  clear hb
  go_wp2_with fail
  refine (rvalid_ne _ hR HN.out hlen hV).mono ?_
  rintro e w2 ⟨rfl, hb⟩
  replace B := B_trans B hb
  replace hR := hR.below hb
  clear hb
  go_wp2_with fail
  go_ret
  exact ⟨ret_bool (by simp), B⟩
set_option maxHeartbeats 4000000 in
theorem lvalid_bad0 (hd : Option Addr) (L : List Lk) (n cap : Nat) (p q : Int) (a : Bool) (w : World) (hR : Rd w hd L) (hn : L.length = n) (hlen : n ≤ 5864062014634) (hV : Pl.Vld L) (hp : p < 0) :
    Calls Try.prog 4 #[.slice hd n cap, .int .i64 p, .bool a, .int .i64 q] w fun e w' => e = .returned (.bool true) ∧ Below w.heap.size w w' := by
  have HN := Lib.hid hn
  clear hn
  have B := Below.refl w.heap.size w
  go_enter Try.func4, Try.ntmps4
  go_wp2_with fail
  refine (head_any _).mono ?_
  rintro e w1 ⟨rfl, hb⟩
  replace B := B_trans B hb
  replace hR := hR.below hb
  clear hb
  go_wp2_with fail
  refine (rvalid_at _ hR HN.out hV).mono ?_
  rintro e w2 ⟨rfl, hb⟩
  replace B := B_trans B hb
  replace hR := hR.below hb
  clear hb
  go_wp2_with fail
  go_ret
  exact ⟨ret_bool (by simp), B⟩
set_option maxHeartbeats 4000000 in
theorem lvalid_bad1 (hd : Option Addr) (L : List Lk) (n cap : Nat) (p q : Int) (a : Bool) (w : World) (hR : Rd w hd L) (hn : L.length = n) (hlen : n ≤ 5864062014634) (hV : Pl.Vld L) (hp0 : 0 ≤ p) (hp : 60 ≤ p) :
    Calls Try.prog 4 #[.slice hd n cap, .int .i64 p, .bool a, .int .i64 q] w fun e w' => e = .returned (.bool true) ∧ Below w.heap.size w w' := by
  have HN := Lib.hid hn
  clear hn
  have B := Below.refl w.heap.size w
  go_enter Try.func4, Try.ntmps4
  go_wp2_with fail
  refine (head_any _).mono ?_
  rintro e w1 ⟨rfl, hb⟩
  replace B := B_trans B hb
  replace hR := hR.below hb
  clear hb
  go_wp2_with fail
  refine (rvalid_at _ hR HN.out hV).mono ?_
  rintro e w2 ⟨rfl, hb⟩
  replace B := B_trans B hb
  replace hR := hR.below hb
  clear hb
  go_wp2_with fail
  go_ret
  exact ⟨ret_bool (by simp), B⟩
set_option maxHeartbeats 4000000 in
set_option maxRecDepth 100000 in
theorem lvalid_ok (hd : Option Addr) (L : List Lk) (n cap : Nat) (p q : Int) (a : Bool) (w : World) (hR : Rd w hd L) (hn : L.length = n) (hlen : n ≤ 5864062014634) (hcap : n ≤ cap) (hV : Pl.Vld L) (hp : 0 ≤ p ∧ p ≤ 59) :
    Calls Try.prog 4 #[.slice hd n cap, .int .i64 p, .bool a, .int .i64 q] w fun e w' => e = .returned (.bool true) ∧ Below w.heap.size w w' := by
  have HN := Lib.hid hn
  clear hn
  have B := Below.refl w.heap.size w
  have hvm := Pl.count_vld hV hp a
  have hlm := Pl.count_len (L := L) p a
  have hhas := Pl.count_has hV p a
  have h60 := Pl.vld_len hvm
  have hof := Pl.of_count hV hp a q
  obtain ⟨M, hM⟩ : ∃ M, Pl.count L p a = M := ⟨_, rfl⟩
  obtain ⟨n', hn'⟩ : ∃ n', M.length = n' := ⟨_, rfl⟩
  rw [hM] at hvm hlm hhas h60 hof
  rw [hn'] at hlm hhas h60
  rw [HN.out] at hlm
  obtain ⟨l1, l2⟩ := hlm
  have HM := Lib.hid hM
  have HN' := Lib.hid hn'
  have HVM := Lib.hid hvm
  have HH := Lib.hid hhas
  have HOF := Lib.hid hof
  have Hp := Lib.hid hp
  clear hM hn' hvm hhas hof
  obtain ⟨hp1, hp2⟩ := hp
  have l3 : (n : Int) ≤ (n' : Int) := by omega
  have l4 : (n' : Int) ≤ (n : Int) + 1 := by omega
  go_enter Try.func4, Try.ntmps4
  go_wp2_with fail
  refine (head_any _).mono ?_
  rintro e w1 ⟨rfl, hb⟩
  replace B := B_trans B hb
  replace hR := hR.below hb
  clear hb
  go_wp2_with fail
  refine (rvalid_at _ hR HN.out hV).mono ?_
  rintro e w2 ⟨rfl, hb⟩
  replace B := B_trans B hb
  replace hR := hR.below hb
  clear hb
  go_wp2_with fail
  refine (count_at hd L M n cap p a _ hR HN.out hcap hV Hp.out HM.out).mono ?_
  rintro e w3 ⟨hm, cm, rfl, qm, RM, hb⟩
  rw [HN'.out] at qm ⊢
  replace B := B_trans B hb
  replace hR := hR.below hb
  clear hb
  go_wp2_with fail
  refine (rvalid_at _ RM HN'.out HVM.out).mono ?_
  rintro e w4 ⟨rfl, hb⟩
  replace B := B_trans B hb
  replace hR := hR.below hb
  replace RM := RM.below hb
  clear hb
  go_wp2_with fail
  go_loop [14, 15] (fun v i => ∃ k : Nat, k ≤ n' ∧ i = .int .i64 (k : Nat) ∧ v = .bool (Pl.hasN M p k)) (fun _ i => n' - (intOf i).toNat)
  case atStart => exact ⟨0, by omega, rfl, rfl⟩
  case round =>
    obtain ⟨k, hk, rfl, rfl⟩ := hrel
    by_cases hkn : k < n'
    · obtain ⟨b, off, rfl, hb, hc⟩ := RM (by have := HN'.out; omega)
      obtain ⟨c0, c1, c2⟩ := hc k (by have := HN'.out; omega)
      have hkk : (k : Int) < n' := by omega
      have hl : Pl.hasN M p (k + 1) = (Pl.hasN M p k || ((Pl.g M k).P == p)) := rfl
      clear hc
      generalize (Pl.g M k).P = y at c0 hl
      generalize Pl.hasN M p k = s at hl ⊢
      have HL := Lib.hid hl
      clear hl
      cases s
      all_goals
        go_wp2_with fail
        go_round
        case rel => exact ⟨k + 1, by omega, by go_num, by rw [HL.out]; simp⟩
        case measure => simp [intOf]; omega
    · obtain rfl : k = n' := by omega
      rw [HH.out]
      by_cases hqp : q = p
      · have hqb : (q == p) = true := by simpa using hqp
        clear hqp
        go_wp2_with fail
        go_ret
        exact ⟨ret_bool (by simp), B⟩
      · have hqb : (q == p) = false := by simpa using hqp
        have hof2 : Pl.of M q = Pl.of L q := by rw [HOF.out, if_neg hqp]
        obtain ⟨y, hy⟩ : ∃ y, Pl.of L q = y := ⟨_, rfl⟩
        rw [hy] at hof2
        have HY := Lib.hid hy
        have HY2 := Lib.hid hof2
        clear hy hof2 hqp
        go_wp2_with fail
        refine (rof_at hm M k cm _ q y RM HN'.out HVM.out HY2.out).mono ?_
        rintro e w5 ⟨rfl, hb⟩
        replace B := B_trans B hb
        replace hR := hR.below hb
        replace RM := RM.below hb
        clear hb
        go_wp2_with fail
        refine (rof_at hd L n cap _ q y hR HN.out hV HY.out).mono ?_
        rintro e w6 ⟨rfl, hb⟩
        replace B := B_trans B hb
        replace hR := hR.below hb
        replace RM := RM.below hb
        clear hb
        go_wp2_with fail
        go_ret
        exact ⟨ret_bool (by simp), B⟩
theorem lvalid_law (hd : Option Addr) (L : List Lk) (n cap : Nat) (p : Int) (a : Bool) (q : Int) (w : World) (hR : Rd w hd L) (hn : L.length = n) (hlen : n ≤ 5864062014634) (hcap : n ≤ cap) :
    Calls Try.prog 4 #[.slice hd n cap, .int .i64 p, .bool a, .int .i64 q] w fun e w' => e = .returned (.bool true) ∧ Below w.heap.size w w' := by
  by_cases hV : Pl.Vld L
  · rcases (show (0 ≤ p ∧ p ≤ 59) ∨ p < 0 ∨ (0 ≤ p ∧ 60 ≤ p) by omega) with h | h | ⟨h1, h2⟩
    · exact lvalid_ok hd L n cap p q a w hR hn hlen hcap hV h
    · exact lvalid_bad0 hd L n cap p q a w hR hn hlen hV h
    · exact lvalid_bad1 hd L n cap p q a w hR hn hlen hV h1 h2
  · exact lvalid_inv hd L n cap p q a w hR hn hlen hV
end Go.Proofs.Ytakkngdnpbgoiaa
