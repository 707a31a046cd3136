/-
  Package link and its reference: the small tests, isValid and Valid: what they answer. Conditions: none.
-/
import Derived.Test.YtakkngdnpbgoiaaRows
import Derived.Test.YtakkngdnpbgoiaaPlain
import Derived.WalkKit
import Derived.WalkSpells
import Derived.WalkLawsBesides
import Derived.BigQuiet
import Derived.Deep.QuietTactic
import Derived.Lib.Hide
import Derived.Lib.SmallJoins
namespace Go.Proofs.Ytakkngdnpbgoiaa
open Go.RowKit

theorem ret_bool {a b : Bool} (h : a = b) : Ending.returned (.bool a) = .returned (.bool b) := by rw [h]
theorem ret_int {k : IntKind} {a b : Int} (h : a = b) : Ending.returned (.int k a) = .returned (.int k b) := by rw [h]
theorem B_alloc {w w1 : World} (h : Below w.heap.size w w1) (o : Obj) : Below w.heap.size w (w1.alloc o) := h.alloc h.size o
theorem B_trans {w w1 w2 : World} (h : Below w.heap.size w w1) (k : Below w1.heap.size w1 w2) : Below w.heap.size w w2 := h.trans (k.mono h.size)
theorem B_drewN {w w1 : World} (h : Below w.heap.size w w1) (n : Nat) : Below w.heap.size w (w1.drewN n) := h.trans (Joins.below_draws _ _ _)
theorem cell_lt {w : World} {p : Addr} {v : Value} (hc : w.cell? p = some v) : p.block < w.heap.size := by
  unfold World.cell? at hc
  cases ho : w.heap[p.block]? with
  | none => simp [ho] at hc
  | some x => exact (Array.getElem?_eq_some_iff.1 ho).1

/-- The links of a list, read out of memory. -/
def Rd (w : World) (hd : Option Addr) (L : List Lk) : Prop :=
  0 < L.length → ∃ b off, hd = some ⟨b, off, none⟩ ∧ b < w.heap.size ∧ ∀ i, i < L.length →
    w.cell? ⟨b, off + i * 3, none⟩ = some (.int .i64 (Pl.g L i).P) ∧ w.cell? ⟨b, off + i * 3 + 1, none⟩ = some (.int .i64 (Pl.g L i).S) ∧ w.cell? ⟨b, off + i * 3 + 2, none⟩ = some (.int .i64 (Pl.g L i).G)
theorem Rd.below {w w' : World} {hd : Option Addr} {L : List Lk} (h : Rd w hd L) (hb : Below w.heap.size w w') : Rd w' hd L := fun h0 => by
  obtain ⟨b, off, e, hlt, hc⟩ := h h0
  refine ⟨b, off, e, Nat.lt_of_lt_of_le hlt hb.size, fun i hi => ?_⟩
  obtain ⟨c0, c1, c2⟩ := hc i hi
  exact ⟨(hb.cell (p := ⟨b, _, none⟩) hlt).trans c0, (hb.cell (p := ⟨b, _, none⟩) hlt).trans c1, (hb.cell (p := ⟨b, _, none⟩) hlt).trans c2⟩

theorem in_true (n hi : Int) (w : World) (h : 0 ≤ n ∧ n ≤ hi) :
    Calls Try.prog 23 #[.int .i64 n, .int .i64 hi] w fun e w' => e = .returned (.bool true) ∧ w' = w := by
  obtain ⟨h1, h2⟩ := h
  go_enter Try.func23, Try.ntmps23
  go_wp2_with fail
  go_ret
  exact ⟨ret_bool (by simp), rfl⟩
theorem in_false (n hi : Int) (w : World) (h : n < 0 ∨ hi < n) :
    Calls Try.prog 23 #[.int .i64 n, .int .i64 hi] w fun e w' => e = .returned (.bool false) ∧ w' = w := by
  by_cases h1 : 0 ≤ n
  · have h2 : hi < n := by omega
    clear h
    go_enter Try.func23, Try.ntmps23
    go_wp2_with fail
    go_ret
    exact ⟨ret_bool (by simp; omega), rfl⟩
  · clear h
    go_enter Try.func23, Try.ntmps23
    go_wp2_with fail
    go_ret
    exact ⟨ret_bool (by simp; try omega), rfl⟩
theorem peer_true (n : Int) (w : World) (h : 0 ≤ n ∧ n ≤ 59) : Calls Try.prog 19 #[.int .i64 n] w fun e w' => e = .returned (.bool true) ∧ w' = w := by
  go_enter Try.func19, Try.ntmps19
  go_wp2_with (go_at_call 23; refine (in_true _ _ _ h).mono ?_; rintro e w1 ⟨rfl, rfl⟩)
  go_ret
  exact ⟨rfl, rfl⟩
theorem peer_false (n : Int) (w : World) (h : n < 0 ∨ 59 < n) : Calls Try.prog 19 #[.int .i64 n] w fun e w' => e = .returned (.bool false) ∧ w' = w := by
  go_enter Try.func19, Try.ntmps19
  go_wp2_with (go_at_call 23; refine (in_false _ _ _ h).mono ?_; rintro e w1 ⟨rfl, rfl⟩)
  go_ret
  exact ⟨rfl, rfl⟩

namespace Pl
theorem vld_no {L : List Lk} {k : Nat} (hk : k < L.length) (h : ¬ OkAt L k) : decide (Vld L) = false := decide_eq_false fun hv => h (hv k hk)
theorem vld_yes {L : List Lk} (h : ∀ i, i < L.length → OkAt L i) : decide (Vld L) = true := decide_eq_true h
end Pl

set_option maxHeartbeats 8000000 in
theorem valid_any (hd : Option Addr) (L : List Lk) (cap : Nat) (w : World) (hR : Rd w hd L) (hlen : L.length ≤ 5864062014634) :
    Calls Try.prog 18 #[.slice hd L.length cap] w fun e w' => e = .returned (.bool (decide (Pl.Vld L))) ∧ Below w.heap.size w w' := by
  obtain ⟨n, hn⟩ : ∃ n, L.length = n := ⟨_, rfl⟩
  rw [hn] at hlen ⊢
  have HN := Lib.hid hn
  have hR' := Lib.hid hR
  clear hn hR
  go_enter Try.func18, Try.ntmps18
  go_wp2_with fail
  go_loopw [7] (fun i wr => ∃ k : Nat, k ≤ n ∧ i = .int .i64 (k : Nat) ∧ (∀ j, j < k → Pl.OkAt L j) ∧ Below w.heap.size w wr)
    (fun i _ => n - (intOf i).toNat)
  case atStart => exact ⟨0, by omega, rfl, fun j hj => by omega, Below.refl _ _⟩
  case round =>
    obtain ⟨k, hk, rfl, hpre, hB⟩ := hrel
    by_cases hkn : k < n
    · obtain ⟨b, off, rfl, hb, hc⟩ := (hR'.out.below hB) (by have := HN.out; omega)
      have hcs := hc k (by have := HN.out; omega)
      obtain ⟨c0, c1, c2⟩ := hcs
      have hkk : (k : Int) < n := by omega
      generalize hgk : Pl.g L k = x at c0 c1 c2
      have HG := Lib.hid hgk
      clear hgk
      have hno : ∀ hh : ¬ Pl.OkAt L k, false = decide (Pl.Vld L) := fun hh => (Pl.vld_no (by have := HN.out; omega) hh).symm
      have hOk : Pl.OkAt L k ↔ Pl.Ok1 x ∧ (0 < k → (Pl.g L (k - 1)).P < x.P) := by unfold Pl.OkAt; rw [HG.out]
      obtain ⟨xP, xS, xG⟩ := x
      simp only at c0 c1 c2 hOk
      have HO := Lib.hid hOk
      have HNO := Lib.hid hno
      clear hOk hno
      have hP : (0 ≤ xP ∧ xP ≤ 59) ∨ (xP < 0 ∨ 59 < xP) := by omega
      have hS : (0 ≤ xS ∧ xS ≤ 31) ∨ (xS < 0 ∨ 31 < xS) := by omega
      have hG : (0 ≤ xG ∧ xG ≤ xS) ∨ (xG < 0 ∨ xS < xG) := by omega
      rcases hP with hP | hP
      rotate_left
      · clear hS hG hc
        go_wp2_with fail
        go_quiet (first | (go_at_call 19; exact Calls.quiet_of_same (peer_false _ _ hP)))
        go_wp2_with fail
        go_ret
        exact ⟨ret_bool (HNO.out (by rw [HO.out]; unfold Pl.Ok1; simp only; omega)), by repeat first | (with_reducible exact hB) | (with_reducible refine B_drewN ?_ _) | (with_reducible refine B_alloc ?_ _)⟩
      have hpre2 := Lib.hid hpre
      clear hpre
      rcases Nat.eq_zero_or_pos k with rfl | hk0
      · simp only [Nat.zero_mul, Nat.add_zero] at c0 c1 c2
        simp only [Int.natCast_zero] at hkk ⊢
        clear hc
        rcases hS with hS | hS
        rotate_left
        · clear hG
          go_wp2_with fail
          go_quiet (first | (go_at_call 19; exact Calls.quiet_of_same (peer_true _ _ hP)) | (go_at_call 23; exact Calls.quiet_of_same (in_false _ _ _ hS)))
          go_wp2_with fail
          go_ret
          exact ⟨ret_bool (HNO.out (by rw [HO.out]; unfold Pl.Ok1; simp only; omega)), by repeat first | (with_reducible exact hB) | (with_reducible refine B_drewN ?_ _) | (with_reducible refine B_alloc ?_ _)⟩
        rcases hG with hG | hG
        rotate_left
        · skip

          go_wp2_with fail
          go_quiet (first | (go_at_call 19; exact Calls.quiet_of_same (peer_true _ _ hP)) | (go_at_call 23; with_reducible exact Calls.quiet_of_same (in_true xS 31 _ hS)) | (go_at_call 23; exact Calls.quiet_of_same (in_false xG _ _ hG)))
          go_wp2_with fail
          go_ret
          exact ⟨ret_bool (HNO.out (by rw [HO.out]; unfold Pl.Ok1; simp only; omega)), by repeat first | (with_reducible exact hB) | (with_reducible refine B_drewN ?_ _) | (with_reducible refine B_alloc ?_ _)⟩
        have hok : Pl.OkAt L 0 := by rw [HO.out]; exact ⟨⟨hP, hS, hG⟩, fun h => by omega⟩
        have hnext : Hid (∀ j, j < 0 + 1 → Pl.OkAt L j) := fun j hj => by
          rcases Nat.lt_or_ge j 0 with h | h
          · exact hpre2.out j h
          · obtain rfl : j = 0 := by omega
            exact hok
        go_wp2_with fail
        go_quiet (first | (go_at_call 19; exact Calls.quiet_of_same (peer_true _ _ hP)) | (go_at_call 23; with_reducible exact Calls.quiet_of_same (in_true xS 31 _ hS)) | (go_at_call 23; exact Calls.quiet_of_same (in_true xG _ _ hG)))
        go_wp2_with fail
        go_roundw
        case rel => exact ⟨1, by omega, by go_num, hnext.out, by repeat first | (with_reducible exact hB) | (with_reducible refine B_drewN ?_ _) | (with_reducible refine B_alloc ?_ _)⟩
        all_goals first | (simp [intOf]; done) | (simp [intOf]; omega)
      · have hq := (hc (k - 1) (by have := HN.out; omega)).1
        clear hc
        generalize hgq : (Pl.g L (k - 1)).P = q at hq
        have HQ := Lib.hid hgq
        clear hgq
        have hk1 : (0 : Int) < k := by omega
        have hk2 : decide ((0 : Int) < k) = true := by simp; omega
        have hk3 : decide (0 < k) = true := by simp; omega
        have wk : IntKind.i64.wrap ((k : Int) - 1) = (k : Int) - 1 := by rw [IntKind.wrap_i64]; omega
        have w0 : (0 : Int) ≤ (k : Int) - 1 := by omega
        have w1 : (k : Int) - 1 < (n : Int) := by omega
        have tk : ((k : Int) - 1).toNat = k - 1 := by omega
        by_cases hlt : xP ≤ q
        · have hl2 : decide (xP ≤ q) = true := by simpa using hlt
          clear hS hG
          go_wp2_with fail
          go_quiet ((go_at_call 19; exact Calls.quiet_of_same (peer_true _ _ hP)))
          go_wp2_with fail
          go_ret
          exact ⟨ret_bool (HNO.out (by rw [HO.out, HQ.out]; unfold Pl.Ok1; simp only; omega)), by repeat first | (with_reducible exact hB) | (with_reducible refine B_drewN ?_ _) | (with_reducible refine B_alloc ?_ _)⟩
        have hl2 : decide (xP ≤ q) = false := by simpa using hlt
        rcases hS with hS | hS
        rotate_left
        · clear hG
          go_wp2_with fail
          go_quiet (first | (go_at_call 19; exact Calls.quiet_of_same (peer_true _ _ hP)) | (go_at_call 23; exact Calls.quiet_of_same (in_false _ _ _ hS)))
          go_wp2_with fail
          go_ret
          exact ⟨ret_bool (HNO.out (by rw [HO.out]; unfold Pl.Ok1; simp only; omega)), by repeat first | (with_reducible exact hB) | (with_reducible refine B_drewN ?_ _) | (with_reducible refine B_alloc ?_ _)⟩
        rcases hG with hG | hG
        rotate_left
        · skip

          go_wp2_with fail
          go_quiet (first | (go_at_call 19; exact Calls.quiet_of_same (peer_true _ _ hP)) | (go_at_call 23; with_reducible exact Calls.quiet_of_same (in_true xS 31 _ hS)) | (go_at_call 23; exact Calls.quiet_of_same (in_false xG _ _ hG)))
          go_wp2_with fail
          go_ret
          exact ⟨ret_bool (HNO.out (by rw [HO.out]; unfold Pl.Ok1; simp only; omega)), by repeat first | (with_reducible exact hB) | (with_reducible refine B_drewN ?_ _) | (with_reducible refine B_alloc ?_ _)⟩
        have hok : Pl.OkAt L k := by rw [HO.out]; exact ⟨⟨hP, hS, hG⟩, fun h => by rw [HQ.out]; omega⟩
        have hnext : Hid (∀ j, j < k + 1 → Pl.OkAt L j) := fun j hj => by
          rcases Nat.lt_or_ge j k with h | h
          · exact hpre2.out j h
          · obtain rfl : j = k := by omega
            exact hok
        go_wp2_with fail
        go_quiet (first | (go_at_call 19; exact Calls.quiet_of_same (peer_true _ _ hP)) | (go_at_call 23; with_reducible exact Calls.quiet_of_same (in_true xS 31 _ hS)) | (go_at_call 23; exact Calls.quiet_of_same (in_true xG _ _ hG)))
        go_wp2_with fail
        go_roundw
        case rel => exact ⟨k + 1, by omega, by go_num, hnext.out, by repeat first | (with_reducible exact hB) | (with_reducible refine B_drewN ?_ _) | (with_reducible refine B_alloc ?_ _)⟩
        all_goals first | (simp [intOf]; done) | (simp [intOf]; omega)
    · obtain rfl : k = n := by omega
      go_wp2_with fail
      go_ret
      exact ⟨ret_bool (Pl.vld_yes (by rw [HN.out]; exact hpre)).symm, hB⟩
end Go.Proofs.Ytakkngdnpbgoiaa
