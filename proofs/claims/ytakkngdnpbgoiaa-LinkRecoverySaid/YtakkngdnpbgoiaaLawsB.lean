/-
  The law LinkRecovery: it returns true. Conditions: none.
-/
import Derived.Test.YtakkngdnpbgoiaaLawsA
namespace Go.Proofs.Ytakkngdnpbgoiaa
open Go.RowKit
theorem aft_pack (L : List Lk) (p : Int) (a : Bool) (k : Nat) (ki : Int) (hki : ki = (k : Nat)) (hk : k ≤ 200) (hV : Pl.Vld L) (hp : 0 ≤ p ∧ p ≤ 59) (c : Int) (hc : Pl.cost1 (Pl.cnts (Pl.of L p) a k) = c) :
    ∃ R : List Lk, R.length ≤ 60 ∧ Pl.cost R p = c ∧ ∀ hd n cap w, Rd w hd L → L.length = n → n ≤ cap → Calls Try.prog 17 #[.slice hd n cap, .int .i64 p, .bool a, .int .i64 ki] w (Aft w R) :=
  ⟨Pl.aft L p a k, Pl.vld_len (Pl.aft_vld hV hp a k), by rw [Pl.aft_cost hV hp, hc], fun hd n cap w hR hn hcap => after_at hd L _ n cap p a k ki w hR hn hcap hV hp hk hki rfl⟩
set_option maxHeartbeats 4000000 in
theorem recov_inv (hd : Option Addr) (L : List Lk) (n cap : Nat) (p : Int) (w : World) (hR : Rd w hd L) (hn : L.length = n) (hlen : n ≤ 5864062014634) (hV : ¬ Pl.Vld L) :
    Calls Try.prog 7 #[.slice hd n cap, .int .i64 p] w fun e w' => e = .returned (.bool true) ∧ Below w.heap.size w w' := by
  have HN := Lib.hid hn
  clear hn
  have B := Below.refl w.heap.size w
  go_enter Try.func7, Try.ntmps7
  go_wp2_with fail
  refine (head_any _).mono ?_
  rintro e w1 ⟨rfl, hb⟩
  replace B := B_trans B hb
  replace hR := hR.below hb
  clear hb
  go_wp2_with fail
  refine (rvalid_ne _ hR HN.out hlen hV).mono ?_
  rintro e w2 ⟨rfl, hb⟩
  replace B := B_trans B hb
  replace hR := hR.below hb
  clear hb
  go_wp2_with fail
  go_ret
  exact ⟨ret_bool (by simp), B⟩
set_option maxHeartbeats 4000000 in
theorem recov_bad0 (hd : Option Addr) (L : List Lk) (n cap : Nat) (p : Int) (w : World) (hR : Rd w hd L) (hn : L.length = n) (hlen : n ≤ 5864062014634) (hV : Pl.Vld L) (hp : p < 0) :
    Calls Try.prog 7 #[.slice hd n cap, .int .i64 p] w fun e w' => e = .returned (.bool true) ∧ Below w.heap.size w w' := by
  have HN := Lib.hid hn
  clear hn
  have B := Below.refl w.heap.size w
  go_enter Try.func7, Try.ntmps7
  go_wp2_with fail
  refine (head_any _).mono ?_
  rintro e w1 ⟨rfl, hb⟩
  replace B := B_trans B hb
  replace hR := hR.below hb
  clear hb
  go_wp2_with fail
  refine (rvalid_at _ hR HN.out hV).mono ?_
  rintro e w2 ⟨rfl, hb⟩
  replace B := B_trans B hb
  replace hR := hR.below hb
  clear hb
  go_wp2_with fail
  go_ret
  exact ⟨ret_bool (by simp), B⟩
set_option maxHeartbeats 4000000 in
theorem recov_bad1 (hd : Option Addr) (L : List Lk) (n cap : Nat) (p : Int) (w : World) (hR : Rd w hd L) (hn : L.length = n) (hlen : n ≤ 5864062014634) (hV : Pl.Vld L) (hp0 : 0 ≤ p) (hp : 60 ≤ p) :
    Calls Try.prog 7 #[.slice hd n cap, .int .i64 p] w fun e w' => e = .returned (.bool true) ∧ Below w.heap.size w w' := by
  have HN := Lib.hid hn
  clear hn
  have B := Below.refl w.heap.size w
  go_enter Try.func7, Try.ntmps7
  go_wp2_with fail
  refine (head_any _).mono ?_
  rintro e w1 ⟨rfl, hb⟩
  replace B := B_trans B hb
  replace hR := hR.below hb
  clear hb
  go_wp2_with fail
  refine (rvalid_at _ hR HN.out hV).mono ?_
  rintro e w2 ⟨rfl, hb⟩
  replace B := B_trans B hb
  replace hR := hR.below hb
  clear hb
  go_wp2_with fail
  go_ret
  exact ⟨ret_bool (by simp), B⟩
set_option maxHeartbeats 4000000 in
set_option maxRecDepth 100000 in
theorem recov_ok (hd : Option Addr) (L : List Lk) (n cap : Nat) (p : Int) (w : World) (hR : Rd w hd L) (hn : L.length = n) (hlen : n ≤ 5864062014634) (hcap : n ≤ cap) (hV : Pl.Vld L) (hp : 0 ≤ p ∧ p ≤ 59) :
    Calls Try.prog 7 #[.slice hd n cap, .int .i64 p] w fun e w' => e = .returned (.bool true) ∧ Below w.heap.size w w' := by
  have HN := Lib.hid hn
  clear hn
  have B := Below.refl w.heap.size w
  have hok := Pl.of_ok hV hp
  obtain ⟨x, hx⟩ : ∃ x, Pl.of L p = x := ⟨_, rfl⟩
  rw [hx] at hok
  obtain ⟨d1, d2, d3⟩ := Pl.recov hok
  obtain ⟨u, hu_⟩ : ∃ u, Pl.cost1 (Pl.cnts x true 5) = u := ⟨_, rfl⟩
  obtain ⟨v, hv_⟩ : ∃ v, Pl.cost1 (Pl.cnts x true 96) = v := ⟨_, rfl⟩
  obtain ⟨r, hr_⟩ : ∃ r, Pl.cost1 (Pl.cnts x false 160) = r := ⟨_, rfl⟩
  rw [hu_] at d1
  rw [hv_] at d2
  rw [hr_] at d3
  obtain ⟨Lu, l60u, lcu, lau⟩ := aft_pack L p true 5 5 rfl (by omega) hV hp u (by rw [hx]; exact hu_)
  have Vu := Lib.hid l60u
  have Cu := Lib.hid lcu
  have Au := Lib.hid lau
  clear l60u lcu lau hu_
  obtain ⟨Lv, l60v, lcv, lav⟩ := aft_pack L p true 96 96 rfl (by omega) hV hp v (by rw [hx]; exact hv_)
  have Vv := Lib.hid l60v
  have Cv := Lib.hid lcv
  have Av := Lib.hid lav
  clear l60v lcv lav hv_
  obtain ⟨Lr, l60r, lcr, lar⟩ := aft_pack L p false 160 160 rfl (by omega) hV hp r (by rw [hx]; exact hr_)
  have Vr := Lib.hid l60r
  have Cr := Lib.hid lcr
  have Ar := Lib.hid lar
  clear l60r lcr lar hr_
  clear hx
  have Hp := Lib.hid hp
  obtain ⟨hp1, hp2⟩ := hp
  go_enter Try.func7, Try.ntmps7
  go_wp2_with fail
  refine (head_any _).mono ?_
  rintro e w1 ⟨rfl, hb⟩
  replace B := B_trans B hb
  replace hR := hR.below hb
  clear hb
  go_wp2_with fail
  refine (rvalid_at _ hR HN.out hV).mono ?_
  rintro e w2 ⟨rfl, hb⟩
  replace B := B_trans B hb
  replace hR := hR.below hb
  clear hb
  go_wp2_with fail
  refine (Au.out hd n cap _ hR HN.out hcap).mono ?_
  rintro e w3 ⟨hu, cu, rfl, qu, Ru, hb⟩
  obtain ⟨nu, eu⟩ : ∃ n, Lu.length = n := ⟨_, rfl⟩
  rw [eu] at qu ⊢
  have Eu := Lib.hid eu
  clear eu
  replace B := B_trans B hb
  replace hR := hR.below hb
  clear hb
  go_wp2_with fail
  refine (cost_at hu Lu nu cu _ p u Ru Eu.out (by have := Vu.out; have := Eu.out; omega) Cu.out).mono ?_
  rintro e w4 ⟨rfl, hb⟩
  replace B := B_trans B hb
  replace hR := hR.below hb
  replace Ru := Ru.below hb
  clear hb
  go_wp2_with fail
  refine (Av.out hd n cap _ hR HN.out hcap).mono ?_
  rintro e w5 ⟨hv, cv, rfl, qv, Rv, hb⟩
  obtain ⟨nv, ev⟩ : ∃ n, Lv.length = n := ⟨_, rfl⟩
  rw [ev] at qv ⊢
  have Ev := Lib.hid ev
  clear ev
  replace B := B_trans B hb
  replace hR := hR.below hb
  replace Ru := Ru.below hb
  clear hb
  go_wp2_with fail
  refine (cost_at hv Lv nv cv _ p v Rv Ev.out (by have := Vv.out; have := Ev.out; omega) Cv.out).mono ?_
  rintro e w6 ⟨rfl, hb⟩
  replace B := B_trans B hb
  replace hR := hR.below hb
  replace Ru := Ru.below hb
  replace Rv := Rv.below hb
  clear hb
  go_wp2_with fail
  refine (Ar.out hd n cap _ hR HN.out hcap).mono ?_
  rintro e w7 ⟨hr, cr, rfl, qr, Rr, hb⟩
  obtain ⟨nr, er⟩ : ∃ n, Lr.length = n := ⟨_, rfl⟩
  rw [er] at qr ⊢
  have Er := Lib.hid er
  clear er
  replace B := B_trans B hb
  replace hR := hR.below hb
  replace Ru := Ru.below hb
  replace Rv := Rv.below hb
  clear hb
  go_wp2_with fail
  refine (cost_at hr Lr nr cr _ p r Rr Er.out (by have := Vr.out; have := Er.out; omega) Cr.out).mono ?_
  rintro e w8 ⟨rfl, hb⟩
  replace B := B_trans B hb
  replace hR := hR.below hb
  replace Ru := Ru.below hb
  replace Rv := Rv.below hb
  replace Rr := Rr.below hb
  clear hb
  go_wp2_with fail
  go_ret
  exact ⟨ret_bool (by simp), B⟩
theorem recov_law (hd : Option Addr) (L : List Lk) (n cap : Nat) (p : Int) (w : World) (hR : Rd w hd L) (hn : L.length = n) (hlen : n ≤ 5864062014634) (hcap : n ≤ cap) :
    Calls Try.prog 7 #[.slice hd n cap, .int .i64 p] w fun e w' => e = .returned (.bool true) ∧ Below w.heap.size w w' := by
  by_cases hV : Pl.Vld L
  · rcases (show (0 ≤ p ∧ p ≤ 59) ∨ p < 0 ∨ (0 ≤ p ∧ 60 ≤ p) by omega) with h | h | ⟨h1, h2⟩
    · exact recov_ok hd L n cap p w hR hn hlen hcap hV h
    · exact recov_bad0 hd L n cap p w hR hn hlen hV h
    · exact recov_bad1 hd L n cap p w hR hn hlen hV h1 h2
  · exact recov_inv hd L n cap p w hR hn hlen hV
end Go.Proofs.Ytakkngdnpbgoiaa
