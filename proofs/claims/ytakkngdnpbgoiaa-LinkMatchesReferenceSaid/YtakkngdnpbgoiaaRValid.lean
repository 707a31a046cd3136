/-
  The reference's Valid answers what isValid answers. Conditions: none.
-/
import Derived.Test.YtakkngdnpbgoiaaSmall
namespace Go.Proofs.Ytakkngdnpbgoiaa
open Go.RowKit

set_option maxHeartbeats 8000000 in
theorem rvalid_any (hd : Option Addr) (L : List Lk) (cap : Nat) (w : World) (hR : Rd w hd L) (hlen : L.length ≤ 5864062014634) :
    Calls Try.prog 15 #[.slice hd L.length cap] w fun e w' => e = .returned (.bool (decide (Pl.Vld L))) ∧ Below w.heap.size w w' := by
  obtain ⟨n, hn⟩ : ∃ n, L.length = n := ⟨_, rfl⟩
  rw [hn] at hlen ⊢
  have HN := Lib.hid hn
  have hR' := Lib.hid hR
  clear hn hR
  go_enter Try.func15, Try.ntmps15
  go_wp2_with fail
  go_loopw [3] (fun i wr => ∃ k : Nat, k ≤ n ∧ i = .int .i64 (k : Nat) ∧ (∀ j, j < k → Pl.OkAt L j) ∧ Below w.heap.size w wr)
    (fun i _ => n - (intOf i).toNat)
  case atStart => exact ⟨0, by omega, rfl, fun j hj => by omega, Below.refl _ _⟩
  case round =>
    obtain ⟨k, hk, rfl, hpre, hB⟩ := hrel
    by_cases hkn : k < n
    · obtain ⟨b, off, rfl, hb, hc⟩ := (hR'.out.below hB) (by have := HN.out; omega)
      have hcs := hc k (by have := HN.out; omega)
      obtain ⟨c0, c1, c2⟩ := hcs
      have hkk : (k : Int) < n := by omega
      generalize hgk : Pl.g L k = x at c0 c1 c2
      have HG := Lib.hid hgk
      clear hgk
      have hno : ∀ hh : ¬ Pl.OkAt L k, false = decide (Pl.Vld L) := fun hh => (Pl.vld_no (by have := HN.out; omega) hh).symm
      have hOk : Pl.OkAt L k ↔ Pl.Ok1 x ∧ (0 < k → (Pl.g L (k - 1)).P < x.P) := by unfold Pl.OkAt; rw [HG.out]
      obtain ⟨xP, xS, xG⟩ := x
      simp only at c0 c1 c2 hOk
      have HO := Lib.hid hOk
      have HNO := Lib.hid hno
      clear hOk hno
      have hpre2 := Lib.hid hpre
      clear hpre
      have hcs : xP < 0 ∨ (0 ≤ xP ∧ 59 < xP) ∨ (0 ≤ xP ∧ xP ≤ 59 ∧ xS < 0) ∨ (0 ≤ xP ∧ xP ≤ 59 ∧ 0 ≤ xS ∧ 31 < xS) ∨ (0 ≤ xP ∧ xP ≤ 59 ∧ 0 ≤ xS ∧ xS ≤ 31 ∧ xG < 0) ∨ (0 ≤ xP ∧ xP ≤ 59 ∧ 0 ≤ xS ∧ xS ≤ 31 ∧ 0 ≤ xG ∧ xS < xG) ∨ (0 ≤ xP ∧ xP ≤ 59 ∧ 0 ≤ xS ∧ xS ≤ 31 ∧ 0 ≤ xG ∧ xG ≤ xS) := by omega
      rcases hcs with h1 | ⟨h1, h2⟩ | ⟨h1, h2, h3⟩ | ⟨h1, h2, h3, h4⟩ | ⟨h1, h2, h3, h4, h5⟩ | ⟨h1, h2, h3, h4, h5, h6⟩ | ⟨h1, h2, h3, h4, h5, h6⟩
      iterate 6
        focus
          clear hc
          go_wp2_with fail
          go_ret
          exact ⟨ret_bool (HNO.out (by rw [HO.out]; unfold Pl.Ok1; simp only; omega)), by repeat first | (with_reducible exact hB) | (with_reducible refine B_drewN ?_ _) | (with_reducible refine B_alloc ?_ _)⟩
      rcases Nat.eq_zero_or_pos k with rfl | hk0
      · simp only [Nat.zero_mul, Nat.add_zero] at c0 c1 c2
        simp only [Int.natCast_zero] at hkk ⊢
        clear hc
        have hok : Pl.OkAt L 0 := by rw [HO.out]; exact ⟨⟨⟨h1, h2⟩, ⟨h3, h4⟩, h5, h6⟩, fun h => by omega⟩
        have hnext : Hid (∀ j, j < 0 + 1 → Pl.OkAt L j) := fun j hj => by
          rcases Nat.lt_or_ge j 0 with h | h
          · exact hpre2.out j h
          · obtain rfl : j = 0 := by omega
            exact hok
        go_wp2_with fail
        go_quiet (fail)
        go_wp2_with fail
        go_roundw
        case rel => exact ⟨1, by omega, by go_num, hnext.out, by repeat first | (with_reducible exact hB) | (with_reducible refine B_drewN ?_ _) | (with_reducible refine B_alloc ?_ _)⟩
        all_goals first | (simp [intOf]; done) | (simp [intOf]; omega)
      · have hq := (hc (k - 1) (by have := HN.out; omega)).1
        clear hc
        generalize hgq : (Pl.g L (k - 1)).P = q at hq
        have HQ := Lib.hid hgq
        clear hgq
        have hk1 : (0 : Int) < k := by omega
        have hk2 : decide ((0 : Int) < k) = true := by simp; omega
        have hk3 : decide (0 < k) = true := by simp; omega
        have wk : IntKind.i64.wrap ((k : Int) - 1) = (k : Int) - 1 := by rw [IntKind.wrap_i64]; omega
        have w0 : (0 : Int) ≤ (k : Int) - 1 := by omega
        have w1 : (k : Int) - 1 < (n : Int) := by omega
        have tk : ((k : Int) - 1).toNat = k - 1 := by omega
        by_cases hlt : xP ≤ q
        · have hl2 : decide (xP ≤ q) = true := by simpa using hlt
          go_wp2_with fail
          go_quiet (fail)
          go_wp2_with fail
          go_ret
          exact ⟨ret_bool (HNO.out (by rw [HO.out, HQ.out]; unfold Pl.Ok1; simp only; omega)), by repeat first | (with_reducible exact hB) | (with_reducible refine B_drewN ?_ _) | (with_reducible refine B_alloc ?_ _)⟩
        · have hl2 : decide (xP ≤ q) = false := by simpa using hlt
          have hok : Pl.OkAt L k := by rw [HO.out]; exact ⟨⟨⟨h1, h2⟩, ⟨h3, h4⟩, h5, h6⟩, fun h => by rw [HQ.out]; omega⟩
          have hnext : Hid (∀ j, j < k + 1 → Pl.OkAt L j) := fun j hj => by
            rcases Nat.lt_or_ge j k with h | h
            · exact hpre2.out j h
            · obtain rfl : j = k := by omega
              exact hok
          go_wp2_with fail
          go_quiet (fail)
          go_wp2_with fail
          go_roundw
          case rel => exact ⟨k + 1, by omega, by go_num, hnext.out, by repeat first | (with_reducible exact hB) | (with_reducible refine B_drewN ?_ _) | (with_reducible refine B_alloc ?_ _)⟩
          all_goals first | (simp [intOf]; done) | (simp [intOf]; omega)
    · obtain rfl : k = n := by omega
      go_wp2_with fail
      go_ret
      exact ⟨ret_bool (Pl.vld_yes (by rw [HN.out]; exact hpre)).symm, hB⟩
end Go.Proofs.Ytakkngdnpbgoiaa
