/-
  The fixed examples of the laws of links (head) are true. Conditions: none.
-/
import Derived.Test.YtakkngdnpbgoiaaAfter
namespace Go.Proofs.Ytakkngdnpbgoiaa
open Go.RowKit

theorem after_at (hd : Option Addr) (L R : List Lk) (len cap : Nat) (p : Int) (a : Bool) (N : Nat) (Ni : Int) (w : World) (hR : Rd w hd L) (hl : L.length = len) (hcap : len ≤ cap) (hV : Pl.Vld L) (hp : 0 ≤ p ∧ p ≤ 59) (hN : N ≤ 200) (hNi : Ni = (N : Nat)) (h : Pl.aft L p a N = R) :
    Calls Try.prog 17 #[.slice hd len cap, .int .i64 p, .bool a, .int .i64 Ni] w (Aft w R) := by
  subst hl h hNi; exact after_any hd L cap p a N w hR hcap hV hp hN
theorem cost_at (hd : Option Addr) (L : List Lk) (len cap : Nat) (w : World) (p r : Int) (hR : Rd w hd L) (hl : L.length = len) (hlen : len ≤ 5864062014634) (h : Pl.cost L p = r) :
    Calls Try.prog 13 #[.slice hd len cap, .int .i64 p] w fun e w' => e = .returned (.int .i64 r) ∧ Below w.heap.size w w' := by
  subst hl h; exact cost_any hd L cap w hR hlen p
theorem same_at (hd hd2 : Option Addr) (L : List Lk) (len cap cap2 : Nat) (w : World) (hR : Rd w hd L) (hR2 : Rd w hd2 L) (hl : L.length = len) (hlen : len ≤ 5864062014634) :
    Calls Try.prog 12 #[.slice hd len cap, .slice hd2 len cap2] w fun e w' => e = .returned (.bool true) ∧ Below w.heap.size w w' := by
  subst hl; exact same_eq hd hd2 L cap cap2 w hR hR2 hlen
theorem rd_nil (w : World) (hd : Option Addr) : Rd w hd [] := fun h => by simp at h
theorem rd_one (w : World) (x : Lk) : Rd (w.alloc (.cells #[.int .i64 x.P, .int .i64 x.S, .int .i64 x.G] 32)) (some ⟨w.heap.size, 0, none⟩) [x] := fun _ => by
  refine ⟨w.heap.size, 0, rfl, by simp, fun i hi => ?_⟩
  obtain rfl : i = 0 := by simpa using hi
  have h := (Bk.new w 32 x).cells
  exact h
theorem vnil : Pl.Vld [] := fun i hi => by simp at hi
def A1 : List Lk := [⟨5, 1, 0⟩]
def B1 : List Lk := [⟨5, 2, 1⟩]
def C0 : List Lk := [⟨5, 31, 31⟩]
def C1 : List Lk := [⟨5, 16, 15⟩]
def D1 : List Lk := [⟨5, 31, 0⟩]
theorem eA : Pl.aft [] 5 false 1 = A1 := by decide +kernel
theorem eB : Pl.aft A1 5 true 1 = B1 := by decide +kernel
theorem eC0 : Pl.aft [] 5 true 31 = C0 := by decide +kernel
theorem eC1 : Pl.aft C0 5 false 1 = C1 := by decide +kernel
theorem eD : Pl.aft [] 5 false 31 = D1 := by decide +kernel
theorem vA : Pl.Vld A1 := by decide +kernel
theorem vC : Pl.Vld C0 := by decide +kernel

set_option maxHeartbeats 4000000 in
theorem head_any (w : World) : Calls Try.prog 9 #[] w fun e w' => e = .returned (.bool true) ∧ Below w.heap.size w w' := by
  go_enter Try.func9, Try.ntmps9
  have B := Below.refl w.heap.size w
  go_wp2_with fail
  refine (after_at none [] A1 0 0 5 false 1 1 _ (rd_nil _ _) rfl (by omega) vnil (by omega) (by omega) rfl eA).mono ?_
  rintro e w1 ⟨ha, ca, rfl, qa, Ra, hb⟩
  rw [show A1.length = 1 from rfl] at qa ⊢
  replace B := B_trans B hb
  clear hb
  go_wp2_with fail
  refine (after_at ha A1 B1 1 ca 5 true 1 1 _ Ra rfl qa vA (by omega) (by omega) rfl eB).mono ?_
  rintro e w2 ⟨hb', cb, rfl, qb, Rb, hb⟩
  rw [show B1.length = 1 from rfl] at qb ⊢
  replace B := B_trans B hb
  replace Ra := Ra.below hb
  clear hb
  go_wp2_with fail
  refine (after_at none [] C0 0 0 5 true 31 31 _ (rd_nil _ _) rfl (by omega) vnil (by omega) (by omega) rfl eC0).mono ?_
  rintro e w3 ⟨hc0, cc0, rfl, qc0, Rc0, hb⟩
  rw [show C0.length = 1 from rfl] at qc0 ⊢
  replace B := B_trans B hb
  replace Ra := Ra.below hb
  replace Rb := Rb.below hb
  clear hb
  go_wp2_with fail
  refine (after_at hc0 C0 C1 1 cc0 5 false 1 1 _ Rc0 rfl qc0 vC (by omega) (by omega) rfl eC1).mono ?_
  rintro e w4 ⟨hc, cc, rfl, qc, Rc, hb⟩
  rw [show C1.length = 1 from rfl] at qc ⊢
  replace B := B_trans B hb
  replace Ra := Ra.below hb
  replace Rb := Rb.below hb
  replace Rc0 := Rc0.below hb
  clear hb
  go_wp2_with fail
  refine (after_at none [] D1 0 0 5 false 31 31 _ (rd_nil _ _) rfl (by omega) vnil (by omega) (by omega) rfl eD).mono ?_
  rintro e w5 ⟨hd, cd, rfl, qd, Rd_, hb⟩
  rw [show D1.length = 1 from rfl] at qd ⊢
  replace B := B_trans B hb
  replace Ra := Ra.below hb
  replace Rb := Rb.below hb
  replace Rc0 := Rc0.below hb
  replace Rc := Rc.below hb
  clear hb
  go_wp2_with fail
  refine (count_bad none [] 0 60 true _ (rd_nil _ _) (by simp) (by rintro ⟨_, _, h⟩; omega)).mono ?_
  rintro e w6 ⟨rfl, hb⟩
  replace B := B_trans B hb
  replace Ra := Ra.below hb
  replace Rb := Rb.below hb
  replace Rc0 := Rc0.below hb
  replace Rc := Rc.below hb
  replace Rd_ := Rd_.below hb
  clear hb
  go_wp2_with fail
  refine (cost_at none [] 0 0 _ 5 128 (rd_nil _ _) rfl (by omega) (by decide +kernel)).mono ?_
  rintro e w7 ⟨rfl, hb⟩
  replace B := B_trans B hb
  replace Ra := Ra.below hb
  replace Rb := Rb.below hb
  replace Rc0 := Rc0.below hb
  replace Rc := Rc.below hb
  replace Rd_ := Rd_.below hb
  clear hb
  go_wp2_with fail
  refine (cost_at ha A1 1 ca _ 5 256 Ra rfl (by omega) (by decide +kernel)).mono ?_
  rintro e w8 ⟨rfl, hb⟩
  replace B := B_trans B hb
  replace Ra := Ra.below hb
  replace Rb := Rb.below hb
  replace Rc0 := Rc0.below hb
  replace Rc := Rc.below hb
  replace Rd_ := Rd_.below hb
  clear hb
  go_wp2_with fail
  refine (cost_at hb' B1 1 cb _ 5 192 Rb rfl (by omega) (by decide +kernel)).mono ?_
  rintro e w9 ⟨rfl, hb⟩
  replace B := B_trans B hb
  replace Ra := Ra.below hb
  replace Rb := Rb.below hb
  replace Rc0 := Rc0.below hb
  replace Rc := Rc.below hb
  replace Rd_ := Rd_.below hb
  clear hb
  go_wp2_with fail
  refine (cost_at hc C1 1 cc _ 5 136 Rc rfl (by omega) (by decide +kernel)).mono ?_
  rintro e w10 ⟨rfl, hb⟩
  replace B := B_trans B hb
  replace Ra := Ra.below hb
  replace Rb := Rb.below hb
  replace Rc0 := Rc0.below hb
  replace Rc := Rc.below hb
  replace Rd_ := Rd_.below hb
  clear hb
  go_wp2_with fail
  refine (cost_at hd D1 1 cd _ 5 4096 Rd_ rfl (by omega) (by decide +kernel)).mono ?_
  rintro e w11 ⟨rfl, hb⟩
  replace B := B_trans B hb
  replace Ra := Ra.below hb
  replace Rb := Rb.below hb
  replace Rc0 := Rc0.below hb
  replace Rc := Rc.below hb
  replace Rd_ := Rd_.below hb
  clear hb
  go_wp2_with fail
  have hx := rd_one w11 (⟨5, 2, 1⟩ : Lk)
  have hbx := B_alloc (Below.refl w11.heap.size w11) (.cells #[.int .i64 ((⟨5, 2, 1⟩ : Lk)).P, .int .i64 ((⟨5, 2, 1⟩ : Lk)).S, .int .i64 ((⟨5, 2, 1⟩ : Lk)).G] 32)
  replace Ra := Ra.below hbx
  replace Rb := Rb.below hbx
  replace Rc0 := Rc0.below hbx
  replace Rc := Rc.below hbx
  replace Rd_ := Rd_.below hbx
  replace B := B_trans B hbx
  refine (same_at _ _ B1 1 cb 1 _ Rb hx rfl (by omega)).mono ?_
  rintro e w12 ⟨rfl, hb⟩
  replace B := B_trans B hb
  replace Ra := Ra.below hb
  replace Rb := Rb.below hb
  replace Rc0 := Rc0.below hb
  replace Rc := Rc.below hb
  replace Rd_ := Rd_.below hb
  clear hb
  go_wp2_with fail
  clear hx hbx
  have hx := rd_one w12 (⟨5, 16, 15⟩ : Lk)
  have hbx := B_alloc (Below.refl w12.heap.size w12) (.cells #[.int .i64 ((⟨5, 16, 15⟩ : Lk)).P, .int .i64 ((⟨5, 16, 15⟩ : Lk)).S, .int .i64 ((⟨5, 16, 15⟩ : Lk)).G] 32)
  replace Ra := Ra.below hbx
  replace Rb := Rb.below hbx
  replace Rc0 := Rc0.below hbx
  replace Rc := Rc.below hbx
  replace Rd_ := Rd_.below hbx
  replace B := B_trans B hbx
  refine (same_at _ _ C1 1 cc 1 _ Rc hx rfl (by omega)).mono ?_
  rintro e w13 ⟨rfl, hb⟩
  replace B := B_trans B hb
  replace Ra := Ra.below hb
  replace Rb := Rb.below hb
  replace Rc0 := Rc0.below hb
  replace Rc := Rc.below hb
  replace Rd_ := Rd_.below hb
  clear hb
  go_wp2_with fail
  refine (cost_at none [] 0 0 _ 60 0 (rd_nil _ _) rfl (by omega) (by decide +kernel)).mono ?_
  rintro e w14 ⟨rfl, hb⟩
  replace B := B_trans B hb
  replace Ra := Ra.below hb
  replace Rb := Rb.below hb
  replace Rc0 := Rc0.below hb
  replace Rc := Rc.below hb
  replace Rd_ := Rd_.below hb
  clear hb
  go_wp2_with fail
  go_ret
  exact ⟨ret_bool (by simp), B⟩
end Go.Proofs.Ytakkngdnpbgoiaa
