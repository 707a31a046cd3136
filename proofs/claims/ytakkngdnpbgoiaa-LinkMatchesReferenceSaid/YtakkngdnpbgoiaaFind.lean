/-
  Package link: where a peer stands (first, find). Conditions: none.
-/
import Derived.Test.YtakkngdnpbgoiaaRValid
import Derived.RegionTactic
import Derived.ChangeAlike
namespace Go.Proofs.Ytakkngdnpbgoiaa
open Go.RowKit

theorem has_any (p xP xS xG : Int) (pb : Nat) (w : World) (hp : w.cell? ⟨pb, 0, none⟩ = some (.int .i64 p)) :
    Calls Try.prog 25 #[.agg #[.int .i64 xP, .int .i64 xS, .int .i64 xG], .pointer (some ⟨pb, 0, none⟩)] w fun e w' => e = .returned (.bool (decide (p ≤ xP))) ∧ Below w.heap.size w w' := by
  have hpb := cell_lt hp
  have hp2 := (World.cell?_alloc_lt w (.cells #[.int .i64 xP, .int .i64 xS, .int .i64 xG] 32) ⟨pb, 0, none⟩ hpb).trans hp
  go_enter Try.func25, Try.ntmps25
  go_wp2_with fail
  go_ret
  exact ⟨rfl, B_alloc (Below.refl _ _) _⟩

set_option maxHeartbeats 4000000 in
theorem first_any (hd : Option Addr) (L : List Lk) (cap : Nat) (w : World) (hR : Rd w hd L) (hlen : L.length ≤ 5864062014634) (pb : Nat) (p : Int) (hp : w.cell? ⟨pb, 0, none⟩ = some (.int .i64 p)) :
    Calls Try.prog 24 #[.slice hd L.length cap, .func (.func 25) #[] #[.pointer (some ⟨pb, 0, none⟩)]] w fun e w' => e = .returned (.int .i64 (Pl.fnd L p : Nat)) ∧ Below w.heap.size w w' := by
  obtain ⟨n, hn⟩ : ∃ n, L.length = n := ⟨_, rfl⟩
  rw [hn] at hlen ⊢
  have HN := Lib.hid hn
  have hR' := Lib.hid hR
  have hpb := cell_lt hp
  have HP := Lib.hid hp
  clear hn hR hp
  go_enter Try.func24, Try.ntmps24
  go_wp2_with fail
  go_loopw [9] (fun i wr => ∃ k : Nat, k ≤ n ∧ i = .int .i64 (k : Nat) ∧ (∀ j, j < k → (Pl.g L j).P < p) ∧ Below w.heap.size w wr)
    (fun i _ => n - (intOf i).toNat)
  case atStart => exact ⟨0, by omega, rfl, fun j hj => by omega, Below.refl _ _⟩
  case round =>
    obtain ⟨k, hk, rfl, hpre, hB⟩ := hrel
    have hpre2 := Lib.hid hpre
    clear hpre
    by_cases hkn : k < n
    · obtain ⟨b, off, rfl, hb, hc⟩ := (hR'.out.below hB) (by have := HN.out; omega)
      have hcs := hc k (by have := HN.out; omega)
      obtain ⟨c0, c1, c2⟩ := hcs
      have hkk : (k : Int) < n := by omega
      generalize hgk : Pl.g L k = x at c0 c1 c2
      have HG := Lib.hid hgk
      clear hgk hc
      obtain ⟨xP, xS, xG⟩ := x
      simp only at c0 c1 c2
      have hpc := (hB.cell hpb).trans HP.out
      have hpw : pb < wr.heap.size := Nat.lt_of_lt_of_le hpb hB.size
      have hw2 := (World.cell?_alloc_lt wr (.cells #[.int .i64 xP, .int .i64 xS, .int .i64 xG] 32) ⟨pb, 0, none⟩ hpw).trans hpc
      have HW := Lib.hid hw2
      clear hw2
      go_wp2_with fail
      refine (has_any p xP xS xG pb _ HW.out).mono ?_
      rintro e w1 ⟨rfl, hb1⟩
      replace hB := B_trans (B_alloc hB _) hb1
      by_cases hpx : p ≤ xP
      · have hd : decide (p ≤ xP) = true := by simpa using hpx
        go_wp2_with fail
        go_ret
        exact ⟨ret_int (by rw [Pl.fnd_of (k := k) (by have := HN.out; omega) hpre2.out (fun _ => by rw [HG.out]; exact hpx)]), hB⟩
      · have hd : decide (p ≤ xP) = false := by simpa using hpx
        have hnext : Hid (∀ j, j < k + 1 → (Pl.g L j).P < p) := fun j hj => by
          rcases Nat.lt_or_ge j k with h | h
          · exact hpre2.out j h
          · obtain rfl : j = k := by omega
            rw [HG.out]; simp only; omega
        go_wp2_with fail
        go_roundw
        case rel => exact ⟨k + 1, by omega, by go_num, hnext.out, hB⟩
        all_goals first | (simp [intOf]; done) | (simp [intOf]; omega)
    · obtain rfl : k = n := by omega
      go_wp2_with fail
      go_ret
      exact ⟨ret_int (by rw [Pl.fnd_of (Nat.le_of_eq HN.out.symm) hpre2.out (by have := HN.out; omega)]), hB⟩

def lv (x : Lk) : Value := .agg #[.int .i64 x.P, .int .i64 x.S, .int .i64 x.G]

set_option maxHeartbeats 4000000 in
theorem find_any (hd : Option Addr) (L : List Lk) (cap : Nat) (w : World) (hR : Rd w hd L) (hlen : L.length ≤ 5864062014634) (p : Int) :
    Calls Try.prog 20 #[.slice hd L.length cap, .int .i64 p] w fun e w' => e = .returned (.tuple #[.int .i64 (Pl.fnd L p : Nat), .agg #[.int .i64 (Pl.of L p).P, .int .i64 (Pl.of L p).S, .int .i64 (Pl.of L p).G]]) ∧ Below w.heap.size w w' := by
  have B0 := B_alloc (B_alloc (Below.refl w.heap.size w) (.cells #[.int .i64 p] 3)) (.cells #[.int .i64 0, .int .i64 0, .int .i64 0] 32)
  have hp0 : ((w.alloc (.cells #[.int .i64 p] 3)).alloc (.cells #[.int .i64 0, .int .i64 0, .int .i64 0] 32)).cell? ⟨w.heap.size, 0, none⟩ = some (.int .i64 p) := by
    rw [World.cell?_alloc_lt _ _ _ (by simp), World.cell?_alloc_mark]; rfl
  have hz1 := heap_alloc_new (w.alloc (.cells #[.int .i64 p] 3)) (.cells #[.int .i64 0, .int .i64 0, .int .i64 0] 32)
  rw [World.size_alloc] at hz1
  have HP0 := Lib.hid hp0
  have HB0 := Lib.hid B0
  have hR0 := Lib.hid (hR.below B0)
  have HZ1 := Lib.hid hz1
  obtain ⟨n, hn⟩ : ∃ n, L.length = n := ⟨_, rfl⟩
  obtain ⟨m, hm⟩ : ∃ m, Pl.fnd L p = m := ⟨_, rfl⟩
  have hof : Pl.of L p = if m < n ∧ (Pl.g L m).P = p then Pl.g L m else ⟨p, 0, 0⟩ := by rw [Pl.of, hm, hn]
  have hmn : m ≤ n := by rw [← hm, ← hn]; exact Pl.fnd_le L p
  have hfi := first_any hd L cap
  rw [hn] at hlen hfi ⊢
  have HF := Lib.hid hfi
  have HN := Lib.hid hn
  have HM := Lib.hid hm
  have HOF := Lib.hid hof
  clear hp0 B0 hz1 hn hm hof hfi
  rw [HM.out]
  obtain ⟨o, ho⟩ : ∃ o, Pl.of L p = o := ⟨_, rfl⟩
  rw [ho]
  have HO := Lib.hid ho
  clear ho
  go_enter Try.func20, Try.ntmps20
  go_wp2_with fail
  refine (HF.out _ hR0.out hlen w.heap.size p HP0.out).mono ?_
  rintro e w1 ⟨rfl, hb1⟩
  rw [HM.out]
  have hpc := (hb1.cell (cell_lt HP0.out)).trans HP0.out
  have hbl : w1.heap[w.heap.size + 1]? = some (.cells #[.int .i64 0, .int .i64 0, .int .i64 0] 32 (0, 0)) := (hb1.block _ (by simp)).trans HZ1.out
  have z0 : w1.cell? ⟨w.heap.size + 1, 0, none⟩ = some (.int .i64 0) := by simp [World.cell?, hbl]
  have z1 : w1.cell? ⟨w.heap.size + 1, 1, none⟩ = some (.int .i64 0) := by simp [World.cell?, hbl]
  have z2 : w1.cell? ⟨w.heap.size + 1, 2, none⟩ = some (.int .i64 0) := by simp [World.cell?, hbl]
  have g0 : w1.frozen? ⟨w.heap.size + 1, 0, none⟩ = false := by simp [World.frozen?, hbl]
  have g1 : w1.frozen? ⟨w.heap.size + 1, 1, none⟩ = false := by simp [World.frozen?, hbl]
  have g2 : w1.frozen? ⟨w.heap.size + 1, 2, none⟩ = false := by simp [World.frozen?, hbl]
  have hR1 := Lib.hid (hR0.out.below hb1)
  have B1 := B_trans HB0.out hb1
  clear hbl hb1 HB0 hR0 HP0 HZ1 HF
  by_cases hlt : m < n
  · obtain ⟨b, off, rfl, hb, hc⟩ := hR1.out (by have := HN.out; omega)
    obtain ⟨c0, c1, c2⟩ := hc m (by have := HN.out; omega)
    have hkk : (m : Int) < n := by omega
    have hk2 : decide ((m : Int) < n) = true := by simpa using hkk
    have hk3 : decide (m < n) = true := by simpa using hlt
    clear hc
    by_cases hq : (Pl.g L m).P = p
    · have hox : Pl.g L m = o := by rw [← HO.out, HOF.out, if_pos ⟨hlt, hq⟩]
      rw [hox] at c0 c1 c2 hq
      have hqb : (o.P == p) = true := by simpa using hq
      clear hox hq
      go_wp2_with fail
      go_quiet (fail)
      go_wp2_with fail
      go_region
      go_wp2_with fail
      refine bodyPost_ret (v := .tuple #[.int .i64 (m : Nat), .agg #[.int .i64 o.P, .int .i64 o.S, .int .i64 o.G]]) (by simp [results, Try.results20, go_sem, z0, z1, z2]) rfl ⟨rfl, ?_⟩
      exact (((B_drewN B1 _).setCell (Nat.le_succ _) _).setCell (Nat.le_succ _) _).setCell (Nat.le_succ _) _
    · have hox : (⟨p, 0, 0⟩ : Lk) = o := by rw [← HO.out, HOF.out, if_neg (fun h => hq h.2)]
      generalize (Pl.g L m).P = q at c0 hq
      have hqb : (q == p) = false := by simpa using hq
      subst hox
      clear hq
      go_wp2_with fail
      go_quiet (fail)
      go_wp2_with fail
      go_region
      go_wp2_with fail
      refine bodyPost_ret (v := .tuple #[.int .i64 (m : Nat), .agg #[.int .i64 p, .int .i64 0, .int .i64 0]]) (by simp [results, Try.results20, go_sem, z0, z1, z2]) rfl ⟨rfl, ?_⟩
      exact (((B_drewN B1 _).setCell (Nat.le_succ _) _).setCell (Nat.le_succ _) _).setCell (Nat.le_succ _) _
  · have hox : (⟨p, 0, 0⟩ : Lk) = o := by rw [← HO.out, HOF.out, if_neg (fun h => hlt h.1)]
    obtain rfl : m = n := by omega
    have hk2 : decide ((m : Int) < m) = false := by simp
    have hk3 : decide (m < m) = false := by simp
    subst hox
    go_wp2_with fail
    go_quiet (fail)
    go_wp2_with fail
    go_region
    go_wp2_with fail
    refine bodyPost_ret (v := .tuple #[.int .i64 (m : Nat), .agg #[.int .i64 p, .int .i64 0, .int .i64 0]]) (by simp [results, Try.results20, go_sem, z0, z1, z2]) rfl ⟨rfl, ?_⟩
    exact (((B_drewN B1 _).setCell (Nat.le_succ _) _).setCell (Nat.le_succ _) _).setCell (Nat.le_succ _) _
end Go.Proofs.Ytakkngdnpbgoiaa
