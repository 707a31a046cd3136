/-
  What a frame counts (add, counted), the reference's Of, and both costs. Conditions: none.
-/
import Derived.Test.YtakkngdnpbgoiaaFind
import Derived.BigRegion
namespace Go.Proofs.Ytakkngdnpbgoiaa
open Go.RowKit

/-- Block b is a link. -/
def Bk (W : World) (b : Nat) (t : TypeId) (x : Lk) : Prop := W.heap[b]? = some (.cells #[.int .i64 x.P, .int .i64 x.S, .int .i64 x.G] t (0, 0))
section
variable {W W' : World} {b n : Nat} {t : TypeId} {x : Lk}
theorem Bk.cells (h : Bk W b t x) : W.cell? ⟨b, 0, none⟩ = some (.int .i64 x.P) ∧ W.cell? ⟨b, 1, none⟩ = some (.int .i64 x.S) ∧ W.cell? ⟨b, 2, none⟩ = some (.int .i64 x.G) := by
  unfold Bk at h; simp [World.cell?, h]
theorem Bk.frozen (h : Bk W b t x) (i : Nat) : W.frozen? ⟨b, i, none⟩ = false := by unfold Bk at h; simp [World.frozen?, h]
theorem Bk.lt (h : Bk W b t x) : b < W.heap.size := (Array.getElem?_eq_some_iff.1 h).1
theorem Bk.below (h : Bk W b t x) (hb : Below W.heap.size W W') : Bk W' b t x := (hb.block b h.lt).trans h
theorem Bk.upto (h : Bk W b t x) (hb : Below n W W') (hn : b < n) : Bk W' b t x := (hb.block b hn).trans h
theorem Bk.drewN (h : Bk W b t x) (k : Nat) : Bk (W.drewN k) b t x := h
theorem Bk.drew (h : Bk W b t x) : Bk W.drew b t x := h
theorem Bk.set1 (h : Bk W b t x) (y : Int) : Bk (W.setCell ⟨b, 1, none⟩ (.int .i64 y)) b t ⟨x.P, y, x.G⟩ := by have := Joins.block_setCell (w := W) (i := 1) h (.int .i64 y); simpa [Bk] using this
theorem Bk.set2 (h : Bk W b t x) (y : Int) : Bk (W.setCell ⟨b, 2, none⟩ (.int .i64 y)) b t ⟨x.P, x.S, y⟩ := by have := Joins.block_setCell (w := W) (i := 2) h (.int .i64 y); simpa [Bk] using this
end
theorem Bk.new (w : World) (t : TypeId) (x : Lk) : Bk (w.alloc (.cells #[.int .i64 x.P, .int .i64 x.S, .int .i64 x.G] t)) w.heap.size t x := heap_alloc_new w _

set_option maxHeartbeats 4000000 in
theorem add_any (b : Nat) (x : Lk) (a : Bool) (w : World) (hT : Bk w b 42 x) (hx : Pl.Ok1 x) :
    Calls Try.prog 21 #[.pointer (some ⟨b, 0, none⟩), .bool a] w fun e w' => e = .returned (.tuple #[]) ∧ Bk w' b 42 (Pl.cnt x a) ∧ Below b w w' := by
  obtain ⟨c0, c1, c2⟩ := hT.cells
  have f1 := hT.frozen 1
  have f2 := hT.frozen 2
  have hbl := hT.lt
  obtain ⟨xP, xS, xG⟩ := x
  unfold Pl.Ok1 at hx
  simp only at hx c0 c1 c2
  obtain ⟨-, ⟨hS1, hS2⟩, hG1, hG2⟩ := hx
  have B0 := Below.refl b w
  rcases (show xS = 31 ∨ xS < 31 by omega) with rfl | hS3
  · rw [show Pl.cnt ⟨xP, 31, xG⟩ a = ⟨xP, 16, (if a then xG + 1 else xG) / 2⟩ from rfl]
    cases a
    · go_enter Try.func21, Try.ntmps21
      go_wp2_with fail
      go_region
      go_wp2_with fail
      go_end0
      exact ⟨rfl, (((hT.set1 32).set1 16).set2 (xG / 2)).drew, (((B0.setCell (Nat.le_refl _) _).setCell (Nat.le_refl _) _).setCell (Nat.le_refl _) _).drew⟩
    · go_enter Try.func21, Try.ntmps21
      go_wp2_with fail
      go_region
      go_wp2_with fail
      go_end0
      exact ⟨rfl, ((((hT.set1 32).set2 (xG + 1)).set1 16).set2 ((xG + 1) / 2)).drew, ((((B0.setCell (Nat.le_refl _) _).setCell (Nat.le_refl _) _).setCell (Nat.le_refl _) _).setCell (Nat.le_refl _) _).drew⟩
  · have hs : ¬ xS + 1 = 32 := by omega
    rw [show Pl.cnt ⟨xP, xS, xG⟩ a = ⟨xP, xS + 1, if a then xG + 1 else xG⟩ from if_neg hs]
    cases a
    · go_enter Try.func21, Try.ntmps21
      go_wp2_with fail
      go_end0
      exact ⟨rfl, hT.set1 _, B0.setCell (Nat.le_refl _) _⟩
    · go_enter Try.func21, Try.ntmps21
      go_wp2_with fail
      go_end0
      exact ⟨rfl, (hT.set1 _).set2 _, (B0.setCell (Nat.le_refl _) _).setCell (Nat.le_refl _) _⟩

set_option maxHeartbeats 4000000 in
theorem counted_any (x : Lk) (a : Bool) (w : World) (hx : Pl.Ok1 x) :
    Calls Try.prog 22 #[.agg #[.int .i64 x.P, .int .i64 x.S, .int .i64 x.G], .bool a] w fun e w' => e = .returned (.agg #[.int .i64 (Pl.cnt x a).P, .int .i64 (Pl.cnt x a).S, .int .i64 (Pl.cnt x a).G]) ∧ Below w.heap.size w w' := by
  obtain ⟨xP, xS, xG⟩ := x
  unfold Pl.Ok1 at hx
  simp only at hx
  obtain ⟨-, ⟨hS1, hS2⟩, hG1, hG2⟩ := hx
  rcases (show xS = 31 ∨ xS < 31 by omega) with rfl | hS3
  · rw [show Pl.cnt ⟨xP, 31, xG⟩ a = ⟨xP, 16, (if a then xG + 1 else xG) / 2⟩ from rfl]
    cases a
    · go_enter Try.func22, Try.ntmps22
      go_wp2_with fail
      refine bodyPost_ret (v := .agg #[.int .i64 xP, .int .i64 16, .int .i64 (xG / 2)]) (by simp [results, Try.results22, go_sem]) rfl ⟨rfl, ?_⟩
      repeat first | exact Below.refl _ _ | (with_reducible refine Below.setCell ?_ (by simp) _) | (with_reducible refine B_alloc ?_ _)
    · go_enter Try.func22, Try.ntmps22
      go_wp2_with fail
      refine bodyPost_ret (v := .agg #[.int .i64 xP, .int .i64 16, .int .i64 ((xG + 1) / 2)]) (by simp [results, Try.results22, go_sem]) rfl ⟨rfl, ?_⟩
      repeat first | exact Below.refl _ _ | (with_reducible refine Below.setCell ?_ (by simp) _) | (with_reducible refine B_alloc ?_ _)
  · have hs : ¬ xS + 1 = 32 := by omega
    rw [show Pl.cnt ⟨xP, xS, xG⟩ a = ⟨xP, xS + 1, if a then xG + 1 else xG⟩ from if_neg hs]
    cases a
    · go_enter Try.func22, Try.ntmps22
      go_wp2_with fail
      refine bodyPost_ret (v := .agg #[.int .i64 xP, .int .i64 (xS + 1), .int .i64 xG]) (by simp [results, Try.results22, go_sem]) rfl ⟨rfl, ?_⟩
      repeat first | exact Below.refl _ _ | (with_reducible refine Below.setCell ?_ (by simp) _) | (with_reducible refine B_alloc ?_ _)
    · go_enter Try.func22, Try.ntmps22
      go_wp2_with fail
      refine bodyPost_ret (v := .agg #[.int .i64 xP, .int .i64 (xS + 1), .int .i64 (xG + 1)]) (by simp [results, Try.results22, go_sem]) rfl ⟨rfl, ?_⟩
      repeat first | exact Below.refl _ _ | (with_reducible refine Below.setCell ?_ (by simp) _) | (with_reducible refine B_alloc ?_ _)

set_option maxHeartbeats 4000000 in
theorem of_any (hd : Option Addr) (L : List Lk) (cap : Nat) (w : World) (hR : Rd w hd L) (hV : Pl.Vld L) (p : Int) :
    Calls Try.prog 16 #[.slice hd L.length cap, .int .i64 p] w fun e w' => e = .returned (.agg #[.int .i64 (Pl.of L p).P, .int .i64 (Pl.of L p).S, .int .i64 (Pl.of L p).G]) ∧ Below w.heap.size w w' := by
  have hlen := Pl.vld_len hV
  obtain ⟨n, hn⟩ : ∃ n, L.length = n := ⟨_, rfl⟩
  obtain ⟨o, ho⟩ : ∃ o, Pl.of L p = o := ⟨_, rfl⟩
  rw [hn] at hlen ⊢
  rw [ho]
  have HN := Lib.hid hn
  have HO := Lib.hid ho
  have hV' := Lib.hid hV
  have B0 := B_alloc (Below.refl w.heap.size w) (.cells #[.int .i64 0, .int .i64 0, .int .i64 0] 32)
  have hR' := Lib.hid (hR.below B0)
  have T0 := Lib.hid (Bk.new w 32 ⟨0, 0, 0⟩)
  clear hn ho hV hR
  go_enter Try.func16, Try.ntmps16
  go_wp2_with fail
  go_loop [5] (fun i => ∃ k : Nat, k ≤ n ∧ i = .int .i64 (k : Nat) ∧ (∀ j, j < k → (Pl.g L j).P ≠ p)) (fun i => n - (intOf i).toNat)
  case atStart => exact ⟨0, by omega, rfl, fun j hj => by omega⟩
  case round =>
    obtain ⟨k, hk, rfl, hpre⟩ := hrel
    have hpre2 := Lib.hid hpre
    clear hpre
    by_cases hkn : k < n
    · obtain ⟨b, off, rfl, hb, hc⟩ := hR'.out (by have := HN.out; omega)
      have hcs := hc k (by have := HN.out; omega)
      obtain ⟨c0, c1, c2⟩ := hcs
      have hkk : (k : Int) < n := by omega
      generalize hgk : Pl.g L k = x at c0 c1 c2
      have HG := Lib.hid hgk
      clear hgk hc
      by_cases hxp : x.P = p
      · have hox : x = o := by rw [← HO.out, ← hxp, ← HG.out]; exact (Pl.of_at hV'.out (by have := HN.out; omega)).1.symm
        subst hox
        have hqb : (x.P == p) = true := by simpa using hxp
        clear hxp
        go_wp2_with fail
        refine bodyPost_ret (v := .agg #[.int .i64 x.P, .int .i64 x.S, .int .i64 x.G]) (by simp [results, Try.results16, go_sem]) rfl ⟨rfl, ?_⟩
        exact B_alloc (Below.refl _ _) _
      · have hqb : (x.P == p) = false := by simpa using hxp
        have hnext : Hid (∀ j, j < k + 1 → (Pl.g L j).P ≠ p) := fun j hj => by
          rcases Nat.lt_or_ge j k with h | h
          · exact hpre2.out j h
          · obtain rfl : j = k := by omega
            rw [HG.out]; exact hxp
        go_wp2_with fail
        go_round
        case rel => exact ⟨k + 1, by omega, by go_num, hnext.out⟩
        case measure => simp [intOf]; omega
    · obtain rfl : k = n := by omega
      have hox : (⟨p, 0, 0⟩ : Lk) = o := by rw [← HO.out]; exact (Pl.of_none fun i hi => hpre2.out i (by have := HN.out; omega)).symm
      subst hox
      go_wp2_with fail
      refine bodyPost_ret (v := .agg #[.int .i64 p, .int .i64 0, .int .i64 0]) (by simp [results, Try.results16, go_sem]) rfl ⟨rfl, ?_⟩
      exact B_alloc (Below.refl _ _) _

theorem valid_yes {hd : Option Addr} {L : List Lk} {cap : Nat} (w : World) (hR : Rd w hd L) (h : Pl.Vld L) :
    Calls Try.prog 18 #[.slice hd L.length cap] w fun e w' => e = .returned (.bool true) ∧ Below w.heap.size w w' := by
  have := valid_any hd L cap w hR (by have := Pl.vld_len h; omega); rwa [decide_eq_true h] at this
theorem valid_no {hd : Option Addr} {L : List Lk} {cap : Nat} (w : World) (hR : Rd w hd L) (hlen : L.length ≤ 5864062014634) (h : ¬ Pl.Vld L) :
    Calls Try.prog 18 #[.slice hd L.length cap] w fun e w' => e = .returned (.bool false) ∧ Below w.heap.size w w' := by
  have := valid_any hd L cap w hR hlen; rwa [decide_eq_false h] at this
theorem rvalid_yes {hd : Option Addr} {L : List Lk} {cap : Nat} (w : World) (hR : Rd w hd L) (h : Pl.Vld L) :
    Calls Try.prog 15 #[.slice hd L.length cap] w fun e w' => e = .returned (.bool true) ∧ Below w.heap.size w w' := by
  have := rvalid_any hd L cap w hR (by have := Pl.vld_len h; omega); rwa [decide_eq_true h] at this
theorem rvalid_no {hd : Option Addr} {L : List Lk} {cap : Nat} (w : World) (hR : Rd w hd L) (hlen : L.length ≤ 5864062014634) (h : ¬ Pl.Vld L) :
    Calls Try.prog 15 #[.slice hd L.length cap] w fun e w' => e = .returned (.bool false) ∧ Below w.heap.size w w' := by
  have := rvalid_any hd L cap w hR hlen; rwa [decide_eq_false h] at this

set_option maxHeartbeats 4000000 in
theorem cost_any (hd : Option Addr) (L : List Lk) (cap : Nat) (w : World) (hR : Rd w hd L) (hlen : L.length ≤ 5864062014634) (p : Int) :
    Calls Try.prog 13 #[.slice hd L.length cap, .int .i64 p] w fun e w' => e = .returned (.int .i64 (Pl.cost L p)) ∧ Below w.heap.size w w' := by
  by_cases hV : Pl.Vld L
  · by_cases hp : 0 ≤ p ∧ p ≤ 59
    · have hc : Pl.cost L p = Pl.cost1 (Pl.of L p) := if_pos ⟨hV, hp⟩
      have hok := Pl.of_ok hV hp
      obtain ⟨o, ho⟩ : ∃ o, Pl.of L p = o := ⟨_, rfl⟩
      rw [ho] at hc hok
      unfold Pl.Ok1 at hok
      obtain ⟨-, ⟨hS1, hS2⟩, hG1, hG2⟩ := hok
      rw [hc]
      have HO := Lib.hid ho
      clear hc ho
      unfold Pl.cost1
      have hq0 : 0 ≤ 128 * (o.S + 1) / (o.G + 1) := Int.ediv_nonneg (by omega) (by omega)
      by_cases hq : 128 * (o.S + 1) / (o.G + 1) < 4096
      · rw [show min 4096 (128 * (o.S + 1) / (o.G + 1)) = 128 * (o.S + 1) / (o.G + 1) by omega]
        skip
        go_enter Try.func13, Try.ntmps13
        go_wp2_with (first | (go_at_call 18; refine (valid_yes _ hR hV).mono ?_; rintro e w1 ⟨rfl, hb⟩) | (go_at_call 19; refine (peer_true _ _ hp).mono ?_; rintro e w2 ⟨rfl, rfl⟩) | (go_at_call 20; refine (find_any hd L cap _ (hR.below hb) hlen p).mono ?_; rintro e w3 ⟨rfl, hb3⟩; rw [HO.out]))
        go_ret
        exact ⟨rfl, by have := B_trans hb hb3; repeat first | (with_reducible exact this) | (with_reducible refine B_alloc ?_ _)⟩
      · rw [show min 4096 (128 * (o.S + 1) / (o.G + 1)) = 4096 by omega]
        skip
        go_enter Try.func13, Try.ntmps13
        go_wp2_with (first | (go_at_call 18; refine (valid_yes _ hR hV).mono ?_; rintro e w1 ⟨rfl, hb⟩) | (go_at_call 19; refine (peer_true _ _ hp).mono ?_; rintro e w2 ⟨rfl, rfl⟩) | (go_at_call 20; refine (find_any hd L cap _ (hR.below hb) hlen p).mono ?_; rintro e w3 ⟨rfl, hb3⟩; rw [HO.out]))
        go_ret
        exact ⟨rfl, by have := B_trans hb hb3; repeat first | (with_reducible exact this) | (with_reducible refine B_alloc ?_ _)⟩
    · rw [show Pl.cost L p = 0 from if_neg (fun h => hp h.2)]
      replace hp : p < 0 ∨ 59 < p := by omega
      go_enter Try.func13, Try.ntmps13
      go_wp2_with (first | (go_at_call 18; refine (valid_yes _ hR hV).mono ?_; rintro e w1 ⟨rfl, hb⟩) | (go_at_call 19; refine (peer_false _ _ hp).mono ?_; rintro e w2 ⟨rfl, rfl⟩))
      go_ret
      exact ⟨rfl, hb⟩
  · rw [show Pl.cost L p = 0 from if_neg (fun h => hV h.1)]
    go_enter Try.func13, Try.ntmps13
    go_wp2_with (first | (go_at_call 18; refine (valid_no _ hR hlen hV).mono ?_; rintro e w1 ⟨rfl, hb⟩))
    go_ret
    exact ⟨rfl, hb⟩
set_option maxHeartbeats 4000000 in
theorem rcost_any (hd : Option Addr) (L : List Lk) (cap : Nat) (w : World) (hR : Rd w hd L) (hlen : L.length ≤ 5864062014634) (p : Int) :
    Calls Try.prog 14 #[.slice hd L.length cap, .int .i64 p] w fun e w' => e = .returned (.int .i64 (Pl.cost L p)) ∧ Below w.heap.size w w' := by
  by_cases hV : Pl.Vld L
  · by_cases hp : 0 ≤ p ∧ p ≤ 59
    · have hc : Pl.cost L p = Pl.cost1 (Pl.of L p) := if_pos ⟨hV, hp⟩
      have hok := Pl.of_ok hV hp
      obtain ⟨o, ho⟩ : ∃ o, Pl.of L p = o := ⟨_, rfl⟩
      rw [ho] at hc hok
      unfold Pl.Ok1 at hok
      obtain ⟨-, ⟨hS1, hS2⟩, hG1, hG2⟩ := hok
      rw [hc]
      have HO := Lib.hid ho
      clear hc ho
      unfold Pl.cost1
      have hq0 : 0 ≤ 128 * (o.S + 1) / (o.G + 1) := Int.ediv_nonneg (by omega) (by omega)
      by_cases hq : 128 * (o.S + 1) / (o.G + 1) < 4096
      · rw [show min 4096 (128 * (o.S + 1) / (o.G + 1)) = 128 * (o.S + 1) / (o.G + 1) by omega]
        obtain ⟨hp1, hp2⟩ := hp
        go_enter Try.func14, Try.ntmps14
        go_wp2_with (first | (go_at_call 15; refine (rvalid_yes _ hR hV).mono ?_; rintro e w1 ⟨rfl, hb⟩) | (go_at_call 16; refine (of_any hd L cap _ (hR.below hb) hV p).mono ?_; rintro e w3 ⟨rfl, hb3⟩; rw [HO.out]))
        go_ret
        exact ⟨rfl, by have := B_trans hb hb3; repeat first | (with_reducible exact this) | (with_reducible refine B_alloc ?_ _)⟩
      · rw [show min 4096 (128 * (o.S + 1) / (o.G + 1)) = 4096 by omega]
        obtain ⟨hp1, hp2⟩ := hp
        go_enter Try.func14, Try.ntmps14
        go_wp2_with (first | (go_at_call 15; refine (rvalid_yes _ hR hV).mono ?_; rintro e w1 ⟨rfl, hb⟩) | (go_at_call 16; refine (of_any hd L cap _ (hR.below hb) hV p).mono ?_; rintro e w3 ⟨rfl, hb3⟩; rw [HO.out]))
        go_ret
        exact ⟨rfl, by have := B_trans hb hb3; repeat first | (with_reducible exact this) | (with_reducible refine B_alloc ?_ _)⟩
    · rw [show Pl.cost L p = 0 from if_neg (fun h => hp h.2)]
      rcases (show p < 0 ∨ (0 ≤ p ∧ 59 < p) by omega) with h1 | ⟨h1, h2⟩
      all_goals
        clear hp
        go_enter Try.func14, Try.ntmps14
        go_wp2_with (first | (go_at_call 15; refine (rvalid_yes _ hR hV).mono ?_; rintro e w1 ⟨rfl, hb⟩))
        go_ret
        exact ⟨rfl, hb⟩
  · rw [show Pl.cost L p = 0 from if_neg (fun h => hV h.1)]
    go_enter Try.func14, Try.ntmps14
    go_wp2_with (first | (go_at_call 15; refine (rvalid_no _ hR hlen hV).mono ?_; rintro e w1 ⟨rfl, hb⟩))
    go_ret
    exact ⟨rfl, hb⟩
end Go.Proofs.Ytakkngdnpbgoiaa
