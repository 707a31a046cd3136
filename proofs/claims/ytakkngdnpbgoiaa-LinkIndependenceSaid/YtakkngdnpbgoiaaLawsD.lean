/-
  The laws LinkIndependence: it returns true. Conditions: none.
-/
import Derived.Test.YtakkngdnpbgoiaaLawsA
namespace Go.Proofs.Ytakkngdnpbgoiaa
open Go.RowKit
set_option maxHeartbeats 4000000 in
theorem indep_inv (hd : Option Addr) (L : List Lk) (n cap : Nat) (p q : Int) (a b : Bool) (w : World) (hR : Rd w hd L) (hn : L.length = n) (hlen : n ≤ 5864062014634) (hV : ¬ Pl.Vld L) :
    Calls Try.prog 8 #[.slice hd n cap, .int .i64 p, .int .i64 q, .bool a, .bool b] w fun e w' => e = .returned (.bool true) ∧ Below w.heap.size w w' := by
  have HN := Lib.hid hn
  clear hn
  have B := Below.refl w.heap.size w
  go_enter Try.func8, Try.ntmps8
  go_wp2_with fail
  refine (head_any _).mono ?_
  rintro e w1 ⟨rfl, hb⟩
  replace B := B_trans B hb
  replace hR := hR.below hb
  clear hb
  go_wp2_with fail
  refine (rvalid_ne _ hR HN.out hlen hV).mono ?_
  rintro e w2 ⟨rfl, hb⟩
  replace B := B_trans B hb
  replace hR := hR.below hb
  clear hb
  go_wp2_with fail
  go_ret
  exact ⟨ret_bool (by simp), B⟩
set_option maxHeartbeats 4000000 in
theorem indep_bad0 (hd : Option Addr) (L : List Lk) (n cap : Nat) (p q : Int) (a b : Bool) (w : World) (hR : Rd w hd L) (hn : L.length = n) (hlen : n ≤ 5864062014634) (hV : Pl.Vld L) (hpq : p = q) :
    Calls Try.prog 8 #[.slice hd n cap, .int .i64 p, .int .i64 q, .bool a, .bool b] w fun e w' => e = .returned (.bool true) ∧ Below w.heap.size w w' := by
  have HN := Lib.hid hn
  clear hn
  have B := Below.refl w.heap.size w
  subst hpq
  go_enter Try.func8, Try.ntmps8
  go_wp2_with fail
  refine (head_any _).mono ?_
  rintro e w1 ⟨rfl, hb⟩
  replace B := B_trans B hb
  replace hR := hR.below hb
  clear hb
  go_wp2_with fail
  refine (rvalid_at _ hR HN.out hV).mono ?_
  rintro e w2 ⟨rfl, hb⟩
  replace B := B_trans B hb
  replace hR := hR.below hb
  clear hb
  go_wp2_with fail
  go_ret
  exact ⟨ret_bool (by simp), B⟩
set_option maxHeartbeats 4000000 in
theorem indep_bad1 (hd : Option Addr) (L : List Lk) (n cap : Nat) (p q : Int) (a b : Bool) (w : World) (hR : Rd w hd L) (hn : L.length = n) (hlen : n ≤ 5864062014634) (hV : Pl.Vld L) (hpq : ¬ p = q) (hp : p < 0) :
    Calls Try.prog 8 #[.slice hd n cap, .int .i64 p, .int .i64 q, .bool a, .bool b] w fun e w' => e = .returned (.bool true) ∧ Below w.heap.size w w' := by
  have HN := Lib.hid hn
  clear hn
  have B := Below.refl w.heap.size w
  have hnb : (p == q) = false := by simpa using hpq
  go_enter Try.func8, Try.ntmps8
  go_wp2_with fail
  refine (head_any _).mono ?_
  rintro e w1 ⟨rfl, hb⟩
  replace B := B_trans B hb
  replace hR := hR.below hb
  clear hb
  go_wp2_with fail
  refine (rvalid_at _ hR HN.out hV).mono ?_
  rintro e w2 ⟨rfl, hb⟩
  replace B := B_trans B hb
  replace hR := hR.below hb
  clear hb
  go_wp2_with fail
  go_ret
  exact ⟨ret_bool (by simp), B⟩
set_option maxHeartbeats 4000000 in
theorem indep_bad2 (hd : Option Addr) (L : List Lk) (n cap : Nat) (p q : Int) (a b : Bool) (w : World) (hR : Rd w hd L) (hn : L.length = n) (hlen : n ≤ 5864062014634) (hV : Pl.Vld L) (hpq : ¬ p = q) (hp0 : 0 ≤ p) (hp : q < 0) :
    Calls Try.prog 8 #[.slice hd n cap, .int .i64 p, .int .i64 q, .bool a, .bool b] w fun e w' => e = .returned (.bool true) ∧ Below w.heap.size w w' := by
  have HN := Lib.hid hn
  clear hn
  have B := Below.refl w.heap.size w
  have hnb : (p == q) = false := by simpa using hpq
  go_enter Try.func8, Try.ntmps8
  go_wp2_with fail
  refine (head_any _).mono ?_
  rintro e w1 ⟨rfl, hb⟩
  replace B := B_trans B hb
  replace hR := hR.below hb
  clear hb
  go_wp2_with fail
  refine (rvalid_at _ hR HN.out hV).mono ?_
  rintro e w2 ⟨rfl, hb⟩
  replace B := B_trans B hb
  replace hR := hR.below hb
  clear hb
  go_wp2_with fail
  go_ret
  exact ⟨ret_bool (by simp), B⟩
set_option maxHeartbeats 4000000 in
theorem indep_bad3 (hd : Option Addr) (L : List Lk) (n cap : Nat) (p q : Int) (a b : Bool) (w : World) (hR : Rd w hd L) (hn : L.length = n) (hlen : n ≤ 5864062014634) (hV : Pl.Vld L) (hpq : ¬ p = q) (hp0 : 0 ≤ p) (hq0 : 0 ≤ q) (hp : 60 ≤ p) :
    Calls Try.prog 8 #[.slice hd n cap, .int .i64 p, .int .i64 q, .bool a, .bool b] w fun e w' => e = .returned (.bool true) ∧ Below w.heap.size w w' := by
  have HN := Lib.hid hn
  clear hn
  have B := Below.refl w.heap.size w
  have hnb : (p == q) = false := by simpa using hpq
  go_enter Try.func8, Try.ntmps8
  go_wp2_with fail
  refine (head_any _).mono ?_
  rintro e w1 ⟨rfl, hb⟩
  replace B := B_trans B hb
  replace hR := hR.below hb
  clear hb
  go_wp2_with fail
  refine (rvalid_at _ hR HN.out hV).mono ?_
  rintro e w2 ⟨rfl, hb⟩
  replace B := B_trans B hb
  replace hR := hR.below hb
  clear hb
  go_wp2_with fail
  go_ret
  exact ⟨ret_bool (by simp), B⟩
set_option maxHeartbeats 4000000 in
theorem indep_bad4 (hd : Option Addr) (L : List Lk) (n cap : Nat) (p q : Int) (a b : Bool) (w : World) (hR : Rd w hd L) (hn : L.length = n) (hlen : n ≤ 5864062014634) (hV : Pl.Vld L) (hpq : ¬ p = q) (hp0 : 0 ≤ p) (hq0 : 0 ≤ q) (hp59 : p ≤ 59) (hp : 60 ≤ q) :
    Calls Try.prog 8 #[.slice hd n cap, .int .i64 p, .int .i64 q, .bool a, .bool b] w fun e w' => e = .returned (.bool true) ∧ Below w.heap.size w w' := by
  have HN := Lib.hid hn
  clear hn
  have B := Below.refl w.heap.size w
  have hnb : (p == q) = false := by simpa using hpq
  go_enter Try.func8, Try.ntmps8
  go_wp2_with fail
  refine (head_any _).mono ?_
  rintro e w1 ⟨rfl, hb⟩
  replace B := B_trans B hb
  replace hR := hR.below hb
  clear hb
  go_wp2_with fail
  refine (rvalid_at _ hR HN.out hV).mono ?_
  rintro e w2 ⟨rfl, hb⟩
  replace B := B_trans B hb
  replace hR := hR.below hb
  clear hb
  go_wp2_with fail
  go_ret
  exact ⟨ret_bool (by simp), B⟩
set_option maxHeartbeats 4000000 in
set_option maxRecDepth 100000 in
theorem indep_ok (hd : Option Addr) (L : List Lk) (n cap : Nat) (p q : Int) (a b : Bool) (w : World) (hR : Rd w hd L) (hn : L.length = n) (hlen : n ≤ 5864062014634) (hcap : n ≤ cap) (hV : Pl.Vld L) (hp : 0 ≤ p ∧ p ≤ 59) (hq : 0 ≤ q ∧ q ≤ 59) (hne : ¬ p = q) :
    Calls Try.prog 8 #[.slice hd n cap, .int .i64 p, .int .i64 q, .bool a, .bool b] w fun e w' => e = .returned (.bool true) ∧ Below w.heap.size w w' := by
  have HN := Lib.hid hn
  clear hn
  have B := Below.refl w.heap.size w
  have hvp := Pl.count_vld hV hp a
  have hvq := Pl.count_vld hV hq b
  have hin := Pl.indep hV hp hq hne a b
  have hvx := Pl.count_vld hvp hq b
  obtain ⟨c, hc⟩ : ∃ c, Pl.cost (Pl.aft L p a 1) p = c := ⟨_, rfl⟩
  have hc2 : Pl.cost (Pl.aft (Pl.aft L p a 1) q b 1) p = c := by
    show Pl.cost (Pl.count (Pl.count L p a) q b) p = c
    rw [← hc]
    show _ = Pl.cost (Pl.count L p a) p
    rw [Pl.cost, Pl.cost, if_pos ⟨hvx, hp⟩, if_pos ⟨hvp, hp⟩, Pl.of_count hvp hq, if_neg hne]
  have hlx : 0 < (Pl.aft (Pl.aft L p a 1) q b 1).length := by
    show 0 < (Pl.count (Pl.count L p a) q b).length
    exact List.length_pos_of_mem ((Pl.mem_count hvp q b _).2 (.inl rfl))
  have hl60 := Pl.vld_len hvx
  have hl61 := Pl.vld_len hvp
  have HC := Lib.hid hc
  have HC2 := Lib.hid hc2
  have HLX := Lib.hid hlx
  have HL60 := Lib.hid hl60
  have HL61 := Lib.hid hl61
  have HIN := Lib.hid hin
  have HVP := Lib.hid hvp
  have HVQ := Lib.hid hvq
  have Hp := Lib.hid hp
  have Hq := Lib.hid hq
  clear hc hc2 hlx hl60 hl61 hin hvp hvq hvx
  obtain ⟨hp1, hp2⟩ := hp
  obtain ⟨hq1, hq2⟩ := hq
  have hnb : (p == q) = false := by simpa using hne
  go_enter Try.func8, Try.ntmps8
  go_wp2_with fail
  refine (head_any _).mono ?_
  rintro e w1 ⟨rfl, hb⟩
  replace B := B_trans B hb
  replace hR := hR.below hb
  clear hb
  go_wp2_with fail
  refine (rvalid_at _ hR HN.out hV).mono ?_
  rintro e w2 ⟨rfl, hb⟩
  replace B := B_trans B hb
  replace hR := hR.below hb
  clear hb
  go_wp2_with fail
  refine (after_at hd L _ n cap p a 1 1 _ hR HN.out hcap hV Hp.out (by omega) rfl rfl).mono ?_
  rintro e w3 ⟨hu, cu, rfl, qu, Ru, hb⟩
  obtain ⟨nu, eu⟩ : ∃ n, (Pl.aft L p a 1).length = n := ⟨_, rfl⟩
  rw [eu] at qu ⊢
  have Eu := Lib.hid eu
  clear eu
  replace B := B_trans B hb
  replace hR := hR.below hb
  clear hb
  go_wp2_with fail
  refine (after_at hu (Pl.aft L p a 1) _ nu cu q b 1 1 _ Ru Eu.out qu HVP.out Hq.out (by omega) rfl rfl).mono ?_
  rintro e w4 ⟨hx, cx, rfl, qx, Rx, hb⟩
  obtain ⟨nx, ex⟩ : ∃ n, (Pl.aft (Pl.aft L p a 1) q b 1).length = n := ⟨_, rfl⟩
  rw [ex] at qx ⊢
  have Ex := Lib.hid ex
  clear ex
  replace B := B_trans B hb
  replace hR := hR.below hb
  replace Ru := Ru.below hb
  clear hb
  go_wp2_with fail
  refine (after_at hd L _ n cap q b 1 1 _ hR HN.out hcap hV Hq.out (by omega) rfl rfl).mono ?_
  rintro e w5 ⟨hv, cv, rfl, qv, Rv, hb⟩
  obtain ⟨nv, ev⟩ : ∃ n, (Pl.aft L q b 1).length = n := ⟨_, rfl⟩
  rw [ev] at qv ⊢
  have Ev := Lib.hid ev
  clear ev
  replace B := B_trans B hb
  replace hR := hR.below hb
  replace Ru := Ru.below hb
  replace Rx := Rx.below hb
  clear hb
  go_wp2_with fail
  refine (after_at hv (Pl.aft L q b 1) _ nv cv p a 1 1 _ Rv Ev.out qv HVQ.out Hp.out (by omega) rfl rfl).mono ?_
  rintro e w6 ⟨hy, cy, rfl, qy, Ry, hb⟩
  obtain ⟨ny, ey⟩ : ∃ n, (Pl.aft (Pl.aft L q b 1) p a 1).length = n := ⟨_, rfl⟩
  rw [ey] at qy ⊢
  have Ey := Lib.hid ey
  clear ey
  replace B := B_trans B hb
  replace hR := hR.below hb
  replace Ru := Ru.below hb
  replace Rx := Rx.below hb
  replace Rv := Rv.below hb
  clear hb
  go_wp2_with fail
  have hxy : (Pl.aft (Pl.aft L p a 1) q b 1) = (Pl.aft (Pl.aft L q b 1) p a 1) := HIN.out
  have hnn : ny = nx := by rw [← Ex.out, ← Ey.out, hxy]
  subst hnn
  rw [← hxy] at Ry
  clear hxy
  have hpos : (0 : Int) < (ny : Int) := by have := HLX.out; have := Ex.out; omega
  have hposb : decide ((0 : Int) < (ny : Int)) = true := by simpa using hpos
  refine (same_at hx hy (Pl.aft (Pl.aft L p a 1) q b 1) ny cx cy _ Rx Ry Ex.out (by have := HL60.out; have := Ex.out; show ny ≤ _; have h3 : (Pl.aft (Pl.aft L p a 1) q b 1).length ≤ 60 := HL60.out; omega)).mono ?_
  rintro e w7 ⟨rfl, hb⟩
  replace B := B_trans B hb
  replace hR := hR.below hb
  replace Ru := Ru.below hb
  replace Rx := Rx.below hb
  replace Rv := Rv.below hb
  replace Ry := Ry.below hb
  clear hb
  go_wp2_with fail
  refine (cost_at hx (Pl.aft (Pl.aft L p a 1) q b 1) ny cx _ p c Rx Ex.out (by have := Ex.out; have h3 : (Pl.aft (Pl.aft L p a 1) q b 1).length ≤ 60 := HL60.out; omega) HC2.out).mono ?_
  rintro e w8 ⟨rfl, hb⟩
  replace B := B_trans B hb
  replace hR := hR.below hb
  replace Ru := Ru.below hb
  replace Rx := Rx.below hb
  replace Rv := Rv.below hb
  replace Ry := Ry.below hb
  clear hb
  go_wp2_with fail
  refine (after_at hd L _ n cap p a 1 1 _ hR HN.out hcap hV Hp.out (by omega) rfl rfl).mono ?_
  rintro e w9 ⟨hz, cz, rfl, qz, Rz, hb⟩
  obtain ⟨nz, ez⟩ : ∃ n, (Pl.aft L p a 1).length = n := ⟨_, rfl⟩
  rw [ez] at qz ⊢
  have Ez := Lib.hid ez
  clear ez
  replace B := B_trans B hb
  replace hR := hR.below hb
  replace Ru := Ru.below hb
  replace Rx := Rx.below hb
  replace Rv := Rv.below hb
  replace Ry := Ry.below hb
  clear hb
  go_wp2_with fail
  refine (cost_at hz (Pl.aft L p a 1) nz cz _ p c Rz Ez.out (by have := Ez.out; have h3 : (Pl.aft L p a 1).length ≤ 60 := HL61.out; omega) HC.out).mono ?_
  rintro e w10 ⟨rfl, hb⟩
  replace B := B_trans B hb
  replace hR := hR.below hb
  replace Ru := Ru.below hb
  replace Rx := Rx.below hb
  replace Rv := Rv.below hb
  replace Ry := Ry.below hb
  replace Rz := Rz.below hb
  clear hb
  go_wp2_with fail
  go_ret
  exact ⟨ret_bool (by simp), B⟩
theorem indep_law (hd : Option Addr) (L : List Lk) (n cap : Nat) (p q : Int) (a b : Bool) (w : World) (hR : Rd w hd L) (hn : L.length = n) (hlen : n ≤ 5864062014634) (hcap : n ≤ cap) :
    Calls Try.prog 8 #[.slice hd n cap, .int .i64 p, .int .i64 q, .bool a, .bool b] w fun e w' => e = .returned (.bool true) ∧ Below w.heap.size w w' := by
  by_cases hV : Pl.Vld L
  · by_cases h0 : p = q
    · exact indep_bad0 hd L n cap p q a b w hR hn hlen hV h0
    · by_cases h1 : p < 0
      · exact indep_bad1 hd L n cap p q a b w hR hn hlen hV h0 h1
      · by_cases h2 : q < 0
        · exact indep_bad2 hd L n cap p q a b w hR hn hlen hV h0 (by omega) h2
        · by_cases h3 : 60 ≤ p
          · exact indep_bad3 hd L n cap p q a b w hR hn hlen hV h0 (by omega) (by omega) h3
          · by_cases h4 : 60 ≤ q
            · exact indep_bad4 hd L n cap p q a b w hR hn hlen hV h0 (by omega) (by omega) (by omega) h4
            · exact indep_ok hd L n cap p q a b w hR hn hlen hcap hV (by omega) (by omega) h0
  · exact indep_inv hd L n cap p q a b w hR hn hlen hV
end Go.Proofs.Ytakkngdnpbgoiaa
