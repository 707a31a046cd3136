/-
  The law LinkMatchesReference: it returns true. Conditions: none.
-/
import Derived.Test.YtakkngdnpbgoiaaLawsA
import Derived.Test.YtakkngdnpbgoiaaRCount
namespace Go.Proofs.Ytakkngdnpbgoiaa
open Go.RowKit

theorem count1_at (hd : Option Addr) (L M : List Lk) (n cap : Nat) (p : Int) (a : Bool) (w : World) (hR : Rd w hd L) (hn : L.length = n) (hcap : n ≤ cap) (hV : Pl.Vld L) (hp : 0 ≤ p ∧ p ≤ 59) (h : Pl.count L p a = M) :
    Calls Try.prog 10 #[.slice hd n cap, .int .i64 p, .bool a] w (Counted w M) := by subst hn h; exact count_ok hd L cap p a w hR hcap hV hp
theorem rcount_at (hd : Option Addr) (L M : List Lk) (n cap : Nat) (p : Int) (a : Bool) (w : World) (hR : Rd w hd L) (hn : L.length = n) (hV : Pl.Vld L) (hp : 0 ≤ p ∧ p ≤ 59) (h : Pl.count L p a = M) :
    Calls Try.prog 11 #[.slice hd n cap, .int .i64 p, .bool a] w (Counted w M) := by subst hn h; exact rcount_ok hd L cap p a w hR hV hp
theorem countb_at (hd : Option Addr) (L : List Lk) (n cap : Nat) (p : Int) (a : Bool) (w : World) (hR : Rd w hd L) (hn : L.length = n) (hlen : n ≤ 100) (h : ¬ (Pl.Vld L ∧ 0 ≤ p ∧ p ≤ 59)) :
    Calls Try.prog 10 #[.slice hd n cap, .int .i64 p, .bool a] w fun e w' => e = .returned (.tuple #[.slice none 0 0, .int .i64 1]) ∧ Below w.heap.size w w' := by subst hn; exact count_bad hd L cap p a w hR (by omega) h
theorem rcountb_at (hd : Option Addr) (L : List Lk) (n cap : Nat) (p : Int) (a : Bool) (w : World) (hR : Rd w hd L) (hn : L.length = n) (hlen : n ≤ 100) (h : ¬ (Pl.Vld L ∧ 0 ≤ p ∧ p ≤ 59)) :
    Calls Try.prog 11 #[.slice hd n cap, .int .i64 p, .bool a] w fun e w' => e = .returned (.tuple #[.slice none 0 0, .int .i64 1]) ∧ Below w.heap.size w w' := by subst hn; exact rcount_bad hd L cap p a w hR (by omega) h
theorem cost1_at (hd : Option Addr) (L : List Lk) (n cap : Nat) (w : World) (hR : Rd w hd L) (hn : L.length = n) (hlen : n ≤ 100) (p c : Int) (h : Pl.cost L p = c) :
    Calls Try.prog 13 #[.slice hd n cap, .int .i64 p] w fun e w' => e = .returned (.int .i64 c) ∧ Below w.heap.size w w' := by subst hn h; exact cost_any hd L cap w hR (by omega) p
theorem rcost1_at (hd : Option Addr) (L : List Lk) (n cap : Nat) (w : World) (hR : Rd w hd L) (hn : L.length = n) (hlen : n ≤ 100) (p c : Int) (h : Pl.cost L p = c) :
    Calls Try.prog 14 #[.slice hd n cap, .int .i64 p] w fun e w' => e = .returned (.int .i64 c) ∧ Below w.heap.size w w' := by subst hn h; exact rcost_any hd L cap w hR (by omega) p

set_option maxHeartbeats 4000000 in
theorem match_big (hd : Option Addr) (n cap : Nat) (p : Int) (a : Bool) (w : World) (hlen : n ≤ 5864062014634) (hbig : 100 < n) :
    Calls Try.prog 3 #[.slice hd n cap, .int .i64 p, .bool a] w fun e w' => e = .returned (.bool true) ∧ Below w.heap.size w w' := by
  go_enter Try.func3, Try.ntmps3
  go_wp2_with fail
  refine (head_any _).mono ?_
  rintro e w1 ⟨rfl, hb⟩
  go_wp2_with fail
  go_ret
  exact ⟨ret_bool (by simp), hb⟩
set_option maxHeartbeats 4000000 in
theorem match_ok (hd : Option Addr) (L : List Lk) (n cap : Nat) (p : Int) (a : Bool) (w : World) (hR : Rd w hd L) (hn : L.length = n) (hlen : n ≤ 100) (hcap : n ≤ cap) (hV : Pl.Vld L) (hp : 0 ≤ p ∧ p ≤ 59) :
    Calls Try.prog 3 #[.slice hd n cap, .int .i64 p, .bool a] w fun e w' => e = .returned (.bool true) ∧ Below w.heap.size w w' := by
  have HN := Lib.hid hn
  have Hp := Lib.hid hp
  have h60 := Pl.vld_len (Pl.count_vld hV hp a)
  obtain ⟨M, hM⟩ : ∃ M, Pl.count L p a = M := ⟨_, rfl⟩
  rw [hM] at h60
  obtain ⟨m, hm⟩ : ∃ m, M.length = m := ⟨_, rfl⟩
  rw [hm] at h60
  obtain ⟨c, hc⟩ : ∃ c, Pl.cost L p = c := ⟨_, rfl⟩
  have HM := Lib.hid hM
  have Hm := Lib.hid hm
  have HC := Lib.hid hc
  clear hn hp hM hm hc
  have B := Below.refl w.heap.size w
  go_enter Try.func3, Try.ntmps3
  go_wp2_with fail
  refine (head_any _).mono ?_
  rintro e w1 ⟨rfl, hb⟩
  replace B := B_trans B hb
  replace hR := hR.below hb
  clear hb
  go_wp2_with fail
  refine (count1_at hd L M n cap p a _ hR HN.out hcap hV Hp.out HM.out).mono ?_
  rintro e w3 ⟨h1, c1, rfl, q1, R1, hb⟩
  rw [Hm.out] at q1 ⊢
  replace B := B_trans B hb
  replace hR := hR.below hb
  clear hb
  go_wp2_with fail
  refine (rcount_at hd L M n cap p a _ hR HN.out hV Hp.out HM.out).mono ?_
  rintro e w4 ⟨h2, c2, rfl, q2, R2, hb⟩
  rw [Hm.out] at q2 ⊢
  replace B := B_trans B hb
  replace hR := hR.below hb
  replace R1 := R1.below hb
  clear hb
  go_wp2_with fail
  refine (same_at h1 h2 M m c1 c2 _ R1 R2 Hm.out (by omega)).mono ?_
  rintro e w5 ⟨rfl, hb⟩
  replace B := B_trans B hb
  replace hR := hR.below hb
  clear hb R1 R2
  go_wp2_with fail
  refine (cost1_at hd L n cap _ hR HN.out hlen p c HC.out).mono ?_
  rintro e w6 ⟨rfl, hb⟩
  replace B := B_trans B hb
  replace hR := hR.below hb
  clear hb
  go_wp2_with fail
  refine (rcost1_at hd L n cap _ hR HN.out hlen p c HC.out).mono ?_
  rintro e w7 ⟨rfl, hb⟩
  replace B := B_trans B hb
  clear hb hR
  go_wp2_with fail
  go_ret
  exact ⟨ret_bool (by simp), B⟩
set_option maxHeartbeats 4000000 in
theorem match_bad (hd : Option Addr) (L : List Lk) (n cap : Nat) (p : Int) (a : Bool) (w : World) (hR : Rd w hd L) (hn : L.length = n) (hlen : n ≤ 100) (hV : ¬ (Pl.Vld L ∧ 0 ≤ p ∧ p ≤ 59)) :
    Calls Try.prog 3 #[.slice hd n cap, .int .i64 p, .bool a] w fun e w' => e = .returned (.bool true) ∧ Below w.heap.size w w' := by
  have HN := Lib.hid hn
  have HV := Lib.hid hV
  obtain ⟨c, hc⟩ : ∃ c, Pl.cost L p = c := ⟨_, rfl⟩
  have HC := Lib.hid hc
  clear hn hV hc
  have B := Below.refl w.heap.size w
  go_enter Try.func3, Try.ntmps3
  go_wp2_with fail
  refine (head_any _).mono ?_
  rintro e w1 ⟨rfl, hb⟩
  replace B := B_trans B hb
  replace hR := hR.below hb
  clear hb
  go_wp2_with fail
  refine (countb_at hd L n cap p a _ hR HN.out hlen HV.out).mono ?_
  rintro e w3 ⟨rfl, hb⟩
  replace B := B_trans B hb
  replace hR := hR.below hb
  clear hb
  go_wp2_with fail
  refine (rcountb_at hd L n cap p a _ hR HN.out hlen HV.out).mono ?_
  rintro e w4 ⟨rfl, hb⟩
  replace B := B_trans B hb
  replace hR := hR.below hb
  clear hb
  go_wp2_with fail
  refine (same_at none none [] 0 0 0 _ (rd_nil _ _) (rd_nil _ _) rfl (by omega)).mono ?_
  rintro e w5 ⟨rfl, hb⟩
  replace B := B_trans B hb
  replace hR := hR.below hb
  clear hb
  go_wp2_with fail
  refine (cost1_at hd L n cap _ hR HN.out hlen p c HC.out).mono ?_
  rintro e w6 ⟨rfl, hb⟩
  replace B := B_trans B hb
  replace hR := hR.below hb
  clear hb
  go_wp2_with fail
  refine (rcost1_at hd L n cap _ hR HN.out hlen p c HC.out).mono ?_
  rintro e w7 ⟨rfl, hb⟩
  replace B := B_trans B hb
  clear hb hR
  go_wp2_with fail
  go_ret
  exact ⟨ret_bool (by simp), B⟩
theorem match_law (hd : Option Addr) (L : List Lk) (n cap : Nat) (p : Int) (a : Bool) (w : World) (hR : Rd w hd L) (hn : L.length = n) (hlen : n ≤ 5864062014634) (hcap : n ≤ cap) :
    Calls Try.prog 3 #[.slice hd n cap, .int .i64 p, .bool a] w fun e w' => e = .returned (.bool true) ∧ Below w.heap.size w w' := by
  by_cases hb : 100 < n
  · exact match_big hd n cap p a w hlen hb
  · by_cases hV : Pl.Vld L ∧ 0 ≤ p ∧ p ≤ 59
    · exact match_ok hd L n cap p a w hR hn (by omega) hcap hV.1 hV.2
    · exact match_bad hd L n cap p a w hR hn (by omega) hV
end Go.Proofs.Ytakkngdnpbgoiaa
