/-
  The laws LinkBounds and LinkBetter: each returns true. Conditions: none.
-/
import Derived.Test.YtakkngdnpbgoiaaArg
namespace Go.Proofs.Ytakkngdnpbgoiaa
open Go.RowKit

namespace Pl
def at0 (s g : Int) : Lk := ⟨0, s, g⟩
theorem cnt_p (p s g : Int) (a : Bool) : cnt ⟨p, s, g⟩ a = ⟨p, (cnt (at0 s g) a).S, (cnt (at0 s g) a).G⟩ := by
  unfold cnt at0; simp only; split <;> rfl
theorem cnts_p (p s g : Int) (a : Bool) (k : Nat) : cnts ⟨p, s, g⟩ a k = ⟨p, (cnts (at0 s g) a k).S, (cnts (at0 s g) a k).G⟩ := by
  induction k with
  | zero => rfl
  | succ k ih =>
    rw [cnts, ih, cnt_p, cnts]
    have : cnts (at0 s g) a k = at0 (cnts (at0 s g) a k).S (cnts (at0 s g) a k).G := by
      have hP : (cnts (at0 s g) a k).P = 0 := by
        clear ih
        induction k with
        | zero => rfl
        | succ k ih => rw [cnts, cnt_P]; exact ih
      show _ = (⟨0, _, _⟩ : Lk)
      rw [← hP]
    rw [← this]
theorem cost_p (x : Lk) (a : Bool) (k : Nat) : cost1 (cnts x a k) = cost1 (cnts (at0 x.S x.G) a k) := by
  obtain ⟨p, s, g⟩ := x
  rw [cnts_p]; rfl
/-- A test of all counts. -/
def fin (P : Int → Int → Bool) : Bool := (List.range 32).all fun s => (List.range (s + 1)).all fun g => P s g
theorem of_fin {P : Int → Int → Bool} (h : fin P = true) {x : Lk} (hx : Ok1 x) : P x.S x.G = true := by
  unfold Ok1 at hx
  unfold fin at h
  rw [List.all_eq_true] at h
  have h1 := h x.S.toNat (by rw [List.mem_range]; omega)
  rw [List.all_eq_true] at h1
  have h2 := h1 x.G.toNat (by rw [List.mem_range]; omega)
  rwa [Int.toNat_of_nonneg hx.2.1.1, Int.toNat_of_nonneg hx.2.2.1] at h2
theorem f_bounds : fin (fun s g => decide (128 ≤ cost1 (at0 s g) ∧ cost1 (at0 s g) ≤ 4096) && ((cost1 (at0 s g) == 128) == (s == g))) = true := by decide +kernel
theorem f_better : fin (fun s g => decide (cost1 (cnts (at0 s g) true 1) ≤ cost1 (cnts (at0 s g) false 1)) && (s == 31 || decide (cost1 (cnts (at0 s g) true 1) ≤ cost1 (cnts (at0 s g) true 0) ∧ cost1 (cnts (at0 s g) true 0) ≤ cost1 (cnts (at0 s g) false 1)))) = true := by decide +kernel
theorem f_rec : fin (fun s g => decide (cost1 (cnts (at0 s g) true 5) ≤ 896) && decide (cost1 (cnts (at0 s g) true 96) ≤ 160) && decide (2176 ≤ cost1 (cnts (at0 s g) false 160))) = true := by decide +kernel
theorem bounds {x : Lk} (h : Ok1 x) : (128 ≤ cost1 x ∧ cost1 x ≤ 4096) ∧ (cost1 x == 128) = (x.S == x.G) := by
  have := of_fin f_bounds h
  rw [Bool.and_eq_true] at this
  obtain ⟨h1, h2⟩ := this
  have e : cost1 x = cost1 (at0 x.S x.G) := rfl
  rw [e]
  exact ⟨by simpa using h1, by simpa using h2⟩
theorem better {x : Lk} (h : Ok1 x) : cost1 (cnts x true 1) ≤ cost1 (cnts x false 1) ∧ (x.S = 31 ∨ (cost1 (cnts x true 1) ≤ cost1 x ∧ cost1 x ≤ cost1 (cnts x false 1))) := by
  have := of_fin f_better h
  have e : cost1 x = cost1 (cnts (at0 x.S x.G) true 0) := rfl
  rw [cost_p x true, cost_p x false, e]
  simpa using this
theorem recov {x : Lk} (h : Ok1 x) : cost1 (cnts x true 5) ≤ 896 ∧ cost1 (cnts x true 96) ≤ 160 ∧ 2176 ≤ cost1 (cnts x false 160) := by
  have := of_fin f_rec h
  rw [cost_p x true, cost_p x true, cost_p x false]
  simpa [and_assoc] using this
end Pl
theorem field1 (a b c : Int) (W : World) : (Instr.field 32 (.agg #[.int .i64 a, .int .i64 b, .int .i64 c]) 1).run Try.prog W = .ok (.int .i64 b) W := by kernel_rfl
theorem rvalid_at {hd : Option Addr} {L : List Lk} {len cap : Nat} (w : World) (hR : Rd w hd L) (hl : L.length = len) (h : Pl.Vld L) :
    Calls Try.prog 15 #[.slice hd len cap] w fun e w' => e = .returned (.bool true) ∧ Below w.heap.size w w' := by subst hl; exact rvalid_yes w hR h
theorem rvalid_ne {hd : Option Addr} {L : List Lk} {len cap : Nat} (w : World) (hR : Rd w hd L) (hl : L.length = len) (hlen : len ≤ 5864062014634) (h : ¬ Pl.Vld L) :
    Calls Try.prog 15 #[.slice hd len cap] w fun e w' => e = .returned (.bool false) ∧ Below w.heap.size w w' := by subst hl; exact rvalid_no w hR hlen h
theorem rof_at (hd : Option Addr) (L : List Lk) (len cap : Nat) (w : World) (p : Int) (o : Lk) (hR : Rd w hd L) (hl : L.length = len) (hV : Pl.Vld L) (h : Pl.of L p = o) :
    Calls Try.prog 16 #[.slice hd len cap, .int .i64 p] w fun e w' => e = .returned (.agg #[.int .i64 o.P, .int .i64 o.S, .int .i64 o.G]) ∧ Below w.heap.size w w' := by subst hl h; exact of_any hd L cap w hR hV p

set_option maxHeartbeats 4000000 in
theorem bounds_inv (hd : Option Addr) (L : List Lk) (n cap : Nat) (p : Int) (w : World) (hR : Rd w hd L) (hn : L.length = n) (hlen : n ≤ 5864062014634) (hV : ¬ Pl.Vld L) :
    Calls Try.prog 5 #[.slice hd n cap, .int .i64 p] w fun e w' => e = .returned (.bool true) ∧ Below w.heap.size w w' := by
  have HN := Lib.hid hn
  clear hn
  have B := Below.refl w.heap.size w
  go_enter Try.func5, Try.ntmps5
  go_wp2_with fail
  refine (head_any _).mono ?_
  rintro e w1 ⟨rfl, hb⟩
  replace B := B_trans B hb
  replace hR := hR.below hb
  clear hb
  go_wp2_with fail
  refine (rvalid_ne _ hR HN.out hlen hV).mono ?_
  rintro e w2 ⟨rfl, hb⟩
  replace B := B_trans B hb
  replace hR := hR.below hb
  clear hb
  go_wp2_with fail
  go_ret
  exact ⟨ret_bool (by simp), B⟩
set_option maxHeartbeats 4000000 in
theorem bounds_bad0 (hd : Option Addr) (L : List Lk) (n cap : Nat) (p : Int) (w : World) (hR : Rd w hd L) (hn : L.length = n) (hlen : n ≤ 5864062014634) (hV : Pl.Vld L) (hp : p < 0) :
    Calls Try.prog 5 #[.slice hd n cap, .int .i64 p] w fun e w' => e = .returned (.bool true) ∧ Below w.heap.size w w' := by
  have HN := Lib.hid hn
  clear hn
  have B := Below.refl w.heap.size w
  go_enter Try.func5, Try.ntmps5
  go_wp2_with fail
  refine (head_any _).mono ?_
  rintro e w1 ⟨rfl, hb⟩
  replace B := B_trans B hb
  replace hR := hR.below hb
  clear hb
  go_wp2_with fail
  refine (rvalid_at _ hR HN.out hV).mono ?_
  rintro e w2 ⟨rfl, hb⟩
  replace B := B_trans B hb
  replace hR := hR.below hb
  clear hb
  go_wp2_with fail
  go_ret
  exact ⟨ret_bool (by simp), B⟩
set_option maxHeartbeats 4000000 in
theorem bounds_bad1 (hd : Option Addr) (L : List Lk) (n cap : Nat) (p : Int) (w : World) (hR : Rd w hd L) (hn : L.length = n) (hlen : n ≤ 5864062014634) (hV : Pl.Vld L) (hp0 : 0 ≤ p) (hp : 60 ≤ p) :
    Calls Try.prog 5 #[.slice hd n cap, .int .i64 p] w fun e w' => e = .returned (.bool true) ∧ Below w.heap.size w w' := by
  have HN := Lib.hid hn
  clear hn
  have B := Below.refl w.heap.size w
  go_enter Try.func5, Try.ntmps5
  go_wp2_with fail
  refine (head_any _).mono ?_
  rintro e w1 ⟨rfl, hb⟩
  replace B := B_trans B hb
  replace hR := hR.below hb
  clear hb
  go_wp2_with fail
  refine (rvalid_at _ hR HN.out hV).mono ?_
  rintro e w2 ⟨rfl, hb⟩
  replace B := B_trans B hb
  replace hR := hR.below hb
  clear hb
  go_wp2_with fail
  go_ret
  exact ⟨ret_bool (by simp), B⟩
set_option maxHeartbeats 4000000 in
set_option maxRecDepth 100000 in
theorem bounds_ok (hd : Option Addr) (L : List Lk) (n cap : Nat) (p : Int) (w : World) (hR : Rd w hd L) (hn : L.length = n) (hlen : n ≤ 5864062014634) (hcap : n ≤ cap) (hV : Pl.Vld L) (hp : 0 ≤ p ∧ p ≤ 59) :
    Calls Try.prog 5 #[.slice hd n cap, .int .i64 p] w fun e w' => e = .returned (.bool true) ∧ Below w.heap.size w w' := by
  have HN := Lib.hid hn
  clear hn
  have B := Below.refl w.heap.size w
  have hok := Pl.of_ok hV hp
  obtain ⟨x, hx⟩ : ∃ x, Pl.of L p = x := ⟨_, rfl⟩
  rw [hx] at hok
  obtain ⟨⟨b1, b2⟩, b3⟩ := Pl.bounds hok
  obtain ⟨c, hc⟩ : ∃ c, Pl.cost1 x = c := ⟨_, rfl⟩
  have hcost : Pl.cost L p = c := by rw [Pl.cost, if_pos ⟨hV, hp⟩, hx, hc]
  rw [hc] at b1 b2 b3
  have HC := Lib.hid hcost
  have B3 := Lib.hid b3
  clear hc hcost b3
  have HX := Lib.hid hx
  clear hx
  have Hp := Lib.hid hp
  obtain ⟨hp1, hp2⟩ := hp
  go_enter Try.func5, Try.ntmps5
  go_wp2_with fail
  refine (head_any _).mono ?_
  rintro e w1 ⟨rfl, hb⟩
  replace B := B_trans B hb
  replace hR := hR.below hb
  clear hb
  go_wp2_with fail
  refine (rvalid_at _ hR HN.out hV).mono ?_
  rintro e w2 ⟨rfl, hb⟩
  replace B := B_trans B hb
  replace hR := hR.below hb
  clear hb
  go_wp2_with fail
  refine (rof_at hd L n cap _ p x hR HN.out hV HX.out).mono ?_
  rintro e w3 ⟨rfl, hb⟩
  replace B := B_trans B hb
  replace hR := hR.below hb
  clear hb
  have T := Bk.new w3 32 x
  replace B := B_alloc B (.cells #[.int .i64 x.P, .int .i64 x.S, .int .i64 x.G] 32)
  replace hR := hR.below (B_alloc (Below.refl w3.heap.size w3) (.cells #[.int .i64 x.P, .int .i64 x.S, .int .i64 x.G] 32))
  go_wp2_with fail
  refine (cost_at hd L n cap _ p c hR HN.out hlen HC.out).mono ?_
  rintro e w4 ⟨rfl, hb⟩
  replace B := B_trans B hb
  replace hR := hR.below hb
  replace T := T.below hb
  clear hb
  obtain ⟨t0, t1, t2⟩ := T.cells
  go_wp2_with fail
  go_ret
  exact ⟨ret_bool (by simp only [B3.out]; simp [b1, b2]), B⟩
set_option maxHeartbeats 4000000 in
theorem better_inv (hd : Option Addr) (L : List Lk) (n cap : Nat) (p : Int) (w : World) (hR : Rd w hd L) (hn : L.length = n) (hlen : n ≤ 5864062014634) (hV : ¬ Pl.Vld L) :
    Calls Try.prog 6 #[.slice hd n cap, .int .i64 p] w fun e w' => e = .returned (.bool true) ∧ Below w.heap.size w w' := by
  have HN := Lib.hid hn
  clear hn
  have B := Below.refl w.heap.size w
  go_enter Try.func6, Try.ntmps6
  go_wp2_with fail
  refine (head_any _).mono ?_
  rintro e w1 ⟨rfl, hb⟩
  replace B := B_trans B hb
  replace hR := hR.below hb
  clear hb
  go_wp2_with fail
  refine (rvalid_ne _ hR HN.out hlen hV).mono ?_
  rintro e w2 ⟨rfl, hb⟩
  replace B := B_trans B hb
  replace hR := hR.below hb
  clear hb
  go_wp2_with fail
  go_ret
  exact ⟨ret_bool (by simp), B⟩
set_option maxHeartbeats 4000000 in
theorem better_bad0 (hd : Option Addr) (L : List Lk) (n cap : Nat) (p : Int) (w : World) (hR : Rd w hd L) (hn : L.length = n) (hlen : n ≤ 5864062014634) (hV : Pl.Vld L) (hp : p < 0) :
    Calls Try.prog 6 #[.slice hd n cap, .int .i64 p] w fun e w' => e = .returned (.bool true) ∧ Below w.heap.size w w' := by
  have HN := Lib.hid hn
  clear hn
  have B := Below.refl w.heap.size w
  go_enter Try.func6, Try.ntmps6
  go_wp2_with fail
  refine (head_any _).mono ?_
  rintro e w1 ⟨rfl, hb⟩
  replace B := B_trans B hb
  replace hR := hR.below hb
  clear hb
  go_wp2_with fail
  refine (rvalid_at _ hR HN.out hV).mono ?_
  rintro e w2 ⟨rfl, hb⟩
  replace B := B_trans B hb
  replace hR := hR.below hb
  clear hb
  go_wp2_with fail
  go_ret
  exact ⟨ret_bool (by simp), B⟩
set_option maxHeartbeats 4000000 in
theorem better_bad1 (hd : Option Addr) (L : List Lk) (n cap : Nat) (p : Int) (w : World) (hR : Rd w hd L) (hn : L.length = n) (hlen : n ≤ 5864062014634) (hV : Pl.Vld L) (hp0 : 0 ≤ p) (hp : 60 ≤ p) :
    Calls Try.prog 6 #[.slice hd n cap, .int .i64 p] w fun e w' => e = .returned (.bool true) ∧ Below w.heap.size w w' := by
  have HN := Lib.hid hn
  clear hn
  have B := Below.refl w.heap.size w
  go_enter Try.func6, Try.ntmps6
  go_wp2_with fail
  refine (head_any _).mono ?_
  rintro e w1 ⟨rfl, hb⟩
  replace B := B_trans B hb
  replace hR := hR.below hb
  clear hb
  go_wp2_with fail
  refine (rvalid_at _ hR HN.out hV).mono ?_
  rintro e w2 ⟨rfl, hb⟩
  replace B := B_trans B hb
  replace hR := hR.below hb
  clear hb
  go_wp2_with fail
  go_ret
  exact ⟨ret_bool (by simp), B⟩
set_option maxHeartbeats 4000000 in
set_option maxRecDepth 100000 in
theorem better_ok (hd : Option Addr) (L : List Lk) (n cap : Nat) (p : Int) (w : World) (hR : Rd w hd L) (hn : L.length = n) (hlen : n ≤ 5864062014634) (hcap : n ≤ cap) (hV : Pl.Vld L) (hp : 0 ≤ p ∧ p ≤ 59) :
    Calls Try.prog 6 #[.slice hd n cap, .int .i64 p] w fun e w' => e = .returned (.bool true) ∧ Below w.heap.size w w' := by
  have HN := Lib.hid hn
  clear hn
  have B := Below.refl w.heap.size w
  have hok := Pl.of_ok hV hp
  obtain ⟨x, hx⟩ : ∃ x, Pl.of L p = x := ⟨_, rfl⟩
  rw [hx] at hok
  obtain ⟨d1, d2⟩ := Pl.better hok
  obtain ⟨c, hc⟩ : ∃ c, Pl.cost1 x = c := ⟨_, rfl⟩
  obtain ⟨u, hu_⟩ : ∃ u, Pl.cost1 (Pl.cnts x true 1) = u := ⟨_, rfl⟩
  obtain ⟨v, hv_⟩ : ∃ v, Pl.cost1 (Pl.cnts x false 1) = v := ⟨_, rfl⟩
  rw [hc, hu_, hv_] at d2
  rw [hu_, hv_] at d1
  have hcost : Pl.cost L p = c := by rw [Pl.cost, if_pos ⟨hV, hp⟩, hx, hc]
  have HC := Lib.hid hcost
  clear hc hcost
  have cu_ : Pl.cost (Pl.aft L p true 1) p = u := by rw [Pl.aft_cost hV hp, hx]; exact hu_
  have Cu := Lib.hid cu_
  clear cu_ hu_
  have cv_ : Pl.cost (Pl.aft L p false 1) p = v := by rw [Pl.aft_cost hV hp, hx]; exact hv_
  have Cv := Lib.hid cv_
  clear cv_ hv_
  have d3 : ((x.S == 31) = true ∧ 0 ≤ 0) ∨ ((x.S == 31) = false ∧ u ≤ c ∧ c ≤ v) := by
    by_cases h : x.S = 31
    · exact .inl ⟨by simpa using h, by omega⟩
    · exact .inr ⟨by simpa using h, by omega, by omega⟩
  clear d2
  have HX := Lib.hid hx
  clear hx
  have Hp := Lib.hid hp
  obtain ⟨hp1, hp2⟩ := hp
  go_enter Try.func6, Try.ntmps6
  go_wp2_with fail
  refine (head_any _).mono ?_
  rintro e w1 ⟨rfl, hb⟩
  replace B := B_trans B hb
  replace hR := hR.below hb
  clear hb
  go_wp2_with fail
  refine (rvalid_at _ hR HN.out hV).mono ?_
  rintro e w2 ⟨rfl, hb⟩
  replace B := B_trans B hb
  replace hR := hR.below hb
  clear hb
  go_wp2_with fail
  refine (cost_at hd L n cap _ p c hR HN.out hlen HC.out).mono ?_
  rintro e w3 ⟨rfl, hb⟩
  replace B := B_trans B hb
  replace hR := hR.below hb
  clear hb
  go_wp2_with fail
  refine (after_at hd L _ n cap p true 1 1 _ hR HN.out hcap hV Hp.out (by omega) rfl rfl).mono ?_
  rintro e w4 ⟨hu, cu, rfl, qu, Ru, hb⟩
  obtain ⟨nu, eu⟩ : ∃ n, (Pl.aft L p true 1).length = n := ⟨_, rfl⟩
  rw [eu] at qu ⊢
  have Eu := Lib.hid eu
  clear eu
  replace B := B_trans B hb
  replace hR := hR.below hb
  clear hb
  go_wp2_with fail
  refine (cost_at hu (Pl.aft L p true 1) nu cu _ p u Ru Eu.out (by have := Pl.vld_len (Pl.aft_vld hV Hp.out true 1); have := Eu.out; omega) Cu.out).mono ?_
  rintro e w5 ⟨rfl, hb⟩
  replace B := B_trans B hb
  replace hR := hR.below hb
  replace Ru := Ru.below hb
  clear hb
  go_wp2_with fail
  refine (after_at hd L _ n cap p false 1 1 _ hR HN.out hcap hV Hp.out (by omega) rfl rfl).mono ?_
  rintro e w6 ⟨hv, cv, rfl, qv, Rv, hb⟩
  obtain ⟨nv, ev⟩ : ∃ n, (Pl.aft L p false 1).length = n := ⟨_, rfl⟩
  rw [ev] at qv ⊢
  have Ev := Lib.hid ev
  clear ev
  replace B := B_trans B hb
  replace hR := hR.below hb
  replace Ru := Ru.below hb
  clear hb
  go_wp2_with fail
  refine (cost_at hv (Pl.aft L p false 1) nv cv _ p v Rv Ev.out (by have := Pl.vld_len (Pl.aft_vld hV Hp.out false 1); have := Ev.out; omega) Cv.out).mono ?_
  rintro e w7 ⟨rfl, hb⟩
  replace B := B_trans B hb
  replace hR := hR.below hb
  replace Ru := Ru.below hb
  replace Rv := Rv.below hb
  clear hb
  go_wp2_with fail
  refine (rof_at hd L n cap _ p x hR HN.out hV HX.out).mono ?_
  rintro e w8 ⟨rfl, hb⟩
  replace B := B_trans B hb
  replace hR := hR.below hb
  replace Ru := Ru.below hb
  replace Rv := Rv.below hb
  clear hb
  have hfl := field1
  rcases d3 with ⟨d3, -⟩ | ⟨d3, d4, d5⟩
  all_goals
    go_wp2_with fail
    go_ret
    exact ⟨ret_bool (by simp <;> omega), B⟩

theorem bounds_law (hd : Option Addr) (L : List Lk) (n cap : Nat) (p : Int) (w : World) (hR : Rd w hd L) (hn : L.length = n) (hlen : n ≤ 5864062014634) (hcap : n ≤ cap) :
    Calls Try.prog 5 #[.slice hd n cap, .int .i64 p] w fun e w' => e = .returned (.bool true) ∧ Below w.heap.size w w' := by
  by_cases hV : Pl.Vld L
  · rcases (show (0 ≤ p ∧ p ≤ 59) ∨ p < 0 ∨ (0 ≤ p ∧ 60 ≤ p) by omega) with h | h | ⟨h1, h2⟩
    · exact bounds_ok hd L n cap p w hR hn hlen hcap hV h
    · exact bounds_bad0 hd L n cap p w hR hn hlen hV h
    · exact bounds_bad1 hd L n cap p w hR hn hlen hV h1 h2
  · exact bounds_inv hd L n cap p w hR hn hlen hV
theorem better_law (hd : Option Addr) (L : List Lk) (n cap : Nat) (p : Int) (w : World) (hR : Rd w hd L) (hn : L.length = n) (hlen : n ≤ 5864062014634) (hcap : n ≤ cap) :
    Calls Try.prog 6 #[.slice hd n cap, .int .i64 p] w fun e w' => e = .returned (.bool true) ∧ Below w.heap.size w w' := by
  by_cases hV : Pl.Vld L
  · rcases (show (0 ≤ p ∧ p ≤ 59) ∨ p < 0 ∨ (0 ≤ p ∧ 60 ≤ p) by omega) with h | h | ⟨h1, h2⟩
    · exact better_ok hd L n cap p w hR hn hlen hcap hV h
    · exact better_bad0 hd L n cap p w hR hn hlen hV h
    · exact better_bad1 hd L n cap p w hR hn hlen hV h1 h2
  · exact better_inv hd L n cap p w hR hn hlen hV
end Go.Proofs.Ytakkngdnpbgoiaa
