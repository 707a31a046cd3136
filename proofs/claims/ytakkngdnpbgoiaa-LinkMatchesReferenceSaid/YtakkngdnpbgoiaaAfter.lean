/-
  The reference's Same of equal lists, and slotmeshlaw19.after of a valid list. Conditions: none.
-/
import Derived.Test.YtakkngdnpbgoiaaCount
import Derived.Test.YtakkngdnpbgoiaaPlain2
import Derived.Laws.StructEq
namespace Go.Proofs.Ytakkngdnpbgoiaa
open Go.RowKit

set_option maxHeartbeats 4000000 in
theorem same_eq (hd hd2 : Option Addr) (L : List Lk) (cap cap2 : Nat) (w : World) (hR : Rd w hd L) (hR2 : Rd w hd2 L) (hlen : L.length ≤ 5864062014634) :
    Calls Try.prog 12 #[.slice hd L.length cap, .slice hd2 L.length cap2] w fun e w' => e = .returned (.bool true) ∧ Below w.heap.size w w' := by
  obtain ⟨n, hn⟩ : ∃ n, L.length = n := ⟨_, rfl⟩
  rw [hn] at hlen ⊢
  have HN := Lib.hid hn
  have hR' := Lib.hid hR
  have hR2' := Lib.hid hR2
  clear hn hR hR2
  go_enter Try.func12, Try.ntmps12
  go_wp2_with fail
  go_loopw [5] (fun i wr => ∃ k : Nat, k ≤ n ∧ i = .int .i64 (k : Nat) ∧ Below w.heap.size w wr) (fun i _ => n - (intOf i).toNat)
  case atStart => exact ⟨0, by omega, rfl, Below.refl _ _⟩
  case round =>
    obtain ⟨k, hk, rfl, hB⟩ := hrel
    by_cases hkn : k < n
    · obtain ⟨b, off, rfl, hb, hc⟩ := (hR'.out.below hB) (by have := HN.out; omega)
      obtain ⟨b2, off2, rfl, hb2, hc2⟩ := (hR2'.out.below hB) (by have := HN.out; omega)
      obtain ⟨c0, c1, c2⟩ := hc k (by have := HN.out; omega)
      obtain ⟨d0, d1, d2⟩ := hc2 k (by have := HN.out; omega)
      clear hc hc2
      generalize Pl.g L k = x at c0 c1 c2 d0 d1 d2
      have hkk : (k : Int) < n := by omega
      go_wp2_with fail
      go_quiet (fail)
      go_wp2_with fail
      go_roundw
      case rel => exact ⟨k + 1, by omega, by go_num, B_drewN hB _⟩
      all_goals first | (simp [intOf]; done) | (simp [intOf]; omega)
    · obtain rfl : k = n := by omega
      go_wp2_with fail
      go_ret
      exact ⟨ret_bool (by simp), hB⟩

def Aft (w : World) (R : List Lk) (e : Ending) (w' : World) : Prop :=
  ∃ hd' cap', e = .returned (.slice hd' R.length cap') ∧ R.length ≤ cap' ∧ Rd w' hd' R ∧ Below w.heap.size w w'

set_option maxHeartbeats 4000000 in
theorem after_any (hd : Option Addr) (L : List Lk) (cap : Nat) (p : Int) (a : Bool) (N : Nat) (w : World) (hR : Rd w hd L) (hcap : L.length ≤ cap) (hV : Pl.Vld L) (hp : 0 ≤ p ∧ p ≤ 59) (hN : N ≤ 200) :
    Calls Try.prog 17 #[.slice hd L.length cap, .int .i64 p, .bool a, .int .i64 (N : Nat)] w (Aft w (Pl.aft L p a N)) := by
  have hRc := Lib.hid (And.intro hR (And.intro hcap hV))
  obtain ⟨n, hn⟩ : ∃ n, L.length = n := ⟨_, rfl⟩
  rw [hn]
  have HN := Lib.hid hn
  clear hn hR hcap hV
  go_enter Try.func17, Try.ntmps17
  go_wp2_with fail
  go_loopw [0, 9] (fun v i wr => ∃ (k : Nat) (hd' : Option Addr) (cap' n' : Nat), k ≤ N ∧ i = .int .i64 (k : Nat) ∧ v = .slice hd' n' cap' ∧ Hid ((Pl.aft L p a k).length = n' ∧ n' ≤ cap' ∧ Rd wr hd' (Pl.aft L p a k)) ∧ Below w.heap.size w wr) (fun _ i _ => N - (intOf i).toNat)
  case atStart => exact ⟨0, hd, cap, n, by omega, rfl, rfl, ⟨HN.out, by have := hRc.out.2.1; have := HN.out; omega, hRc.out.1⟩, Below.refl _ _⟩
  case round =>
    obtain ⟨k, hd', cap', n', hk, rfl, rfl, HK, hB⟩ := hrel
    by_cases hkn : k < N
    · have hkk : (k : Int) < N := by omega
      have hk100 : decide ((k : Int) < 200) = true := by simp; omega
      have hcall := Lib.hid (fun W (h : Rd W hd' (Pl.aft L p a k)) => count_ok hd' (Pl.aft L p a k) cap' p a W h (by have := HK.out.1; have := HK.out.2.1; omega) (Pl.aft_vld hRc.out.2.2 hp a k) hp)
      rw [HK.out.1] at hcall
      go_wp2_with fail
      refine (hcall.out _ HK.out.2.2).mono ?_
      rintro e w1 ⟨hd2, cap2, rfl, hc2, hR2, hb⟩
      obtain ⟨n2, hn2⟩ : ∃ n2, (Pl.count (Pl.aft L p a k) p a).length = n2 := ⟨_, rfl⟩
      rw [hn2] at hc2 ⊢
      have HK2 : Hid ((Pl.aft L p a (k + 1)).length = n2 ∧ n2 ≤ cap2 ∧ Rd w1 hd2 (Pl.aft L p a (k + 1))) := ⟨hn2, hc2, hR2⟩
      clear hn2 hR2
      go_wp2_with fail
      go_roundw
      case rel => exact ⟨k + 1, hd2, cap2, n2, by omega, by go_num, rfl, HK2, B_trans hB hb⟩
      all_goals first | (simp [intOf]; done) | (simp [intOf]; omega)
    · obtain rfl : k = N := by omega
      go_wp2_with fail
      go_ret
      exact ⟨hd', cap', by rw [HK.out.1]; rfl, by have := HK.out.1; have := HK.out.2.1; omega, HK.out.2.2, hB⟩
end Go.Proofs.Ytakkngdnpbgoiaa
