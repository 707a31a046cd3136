/-
  The law TopOnceAccepted: it returns true. Conditions: none.
-/
import Derived.Test.YtffdcnjddoakbaaTopWords
namespace Go.Proofs.Ytffdcnjddoakbaa
open Go.RowKit

set_option maxHeartbeats 4000000 in
theorem top_many (hd : Option Addr) (n cap : Nat) (fst : Int) (w : World) (hn : 100 < n) (hlen : n ≤ 1000000000000000) :
    Calls Try.prog 3 #[.int .u32 fst, .slice hd n cap] w fun e w' => e = .returned (.bool true) ∧ Below w.heap.size w w' := by
  go_enter Try.func3, Try.ntmps3
  go_wp2_with fail
  refine (once_any _).mono ?_
  rintro e w1 ⟨rfl, hb⟩
  go_wp2_with fail
  go_ret
  exact ⟨ret_bool (by simp), hb⟩

set_option maxHeartbeats 16000000 in
set_option maxRecDepth 100000 in
theorem top_few (hd : Option Addr) (Z : List Aw) (n cap : Nat) (fst : Int) (w : World) (hR : Ra w hd Z) (hn : Z.length = n) (h100 : n ≤ 100) (hf0 : 0 ≤ fst) (hf1 : fst < 4294967296) :
    Calls Try.prog 3 #[.int .u32 fst, .slice hd n cap] w fun e w' => e = .returned (.bool true) ∧ Below w.heap.size w w' := by
  obtain ⟨i1, hi31, hz0, hz1, hz2⟩ := info_parts info31
  have HI := Lib.hid hi31
  have HZ := Lib.hid (And.intro hz0 (And.intro hz1 hz2))
  have HN := Lib.hid hn
  have HR := Lib.hid hR
  clear hi31 hz0 hz1 hz2 hn hR
  have m4 := mk4
  have hq0 : 0 ≤ fst % 500000000 := by omega
  have hq1 : fst % 500000000 < 500000000 := by omega
  go_enter Try.func3, Try.ntmps3
  go_wp2_with fail
  refine (once_any _).mono ?_
  rintro e w1 ⟨rfl, hb⟩
  have k1 := rw_new w1 [⟨0, 0⟩, ⟨0, 0⟩, ⟨0, 0⟩, ⟨0, 0⟩]
  have B := B_alloc hb (.cells #[.int .i64 0, .int .u64 0, .int .i64 0, .int .u64 0, .int .i64 0, .int .u64 0, .int .i64 0, .int .u64 0] 49)
  clear hb
  go_wp2_with fail
  have h0 : Stt w (w1.alloc (.cells #[.int .i64 0, .int .u64 0, .int .i64 0, .int .u64 0, .int .i64 0, .int .u64 0, .int .i64 0, .int .u64 0] 49)) 0 (fst % 500000000) w1.heap.size none 0 0 [⟨0, 0⟩, ⟨0, 0⟩, ⟨0, 0⟩, ⟨0, 0⟩] [] := by
    refine ⟨hq0, by omega, ⟨rfl, fun i hi => ?_⟩, k1, rfl, World.ownsRow_nil _ _ _ _, fun x hx => by simp at hx, Nat.le_refl _, (fun j hj => by cases hj), B⟩
    rcases (show i = 0 ∨ i = 1 ∨ i = 2 ∨ i = 3 by omega) with rfl | rfl | rfl | rfl <;> exact Pl.wok_zero (by omega)
  clear k1 B m4
  go_loopw [5, 6, 7, 8, 9] (fun u a l s i wr => ∃ (k : Nat) (A : Int) (g cp : Nat) (hs : Option Addr) (m cs : Nat) (L : List Wn) (S : List Fr), k ≤ n ∧ i = .int .i64 (k : Nat) ∧ u = .bool true ∧ a = .int .i64 A ∧ l = .slice (some ⟨g, 0, none⟩) 4 cp ∧ s = .slice hs m cs ∧ Stt w wr k A g hs m cs L S)
    (fun _ _ _ _ i _ => n - (intOf i).toNat)
  case atStart => exact ⟨0, _, _, 4, none, 0, 0, _, _, by omega, rfl, rfl, rfl, rfl, rfl, h0⟩
  case round =>
    clear h0 hq0 hq1 hf0 hf1
    obtain ⟨k, A, g, cp, hs, m, cs, L, S, hk, rfl, rfl, rfl, rfl, rfl, hSt⟩ := hrel
    by_cases hkn : k < n
    · have hkk : (k : Int) < n := by omega
      have HSt := Lib.hid hSt
      obtain ⟨ab, ao, rfl, hab, hac⟩ := (HR.out.below hSt.bel) (by have := HN.out; omega)
      obtain ⟨c0, c1, c2, c3, c4, hok⟩ := hac k (by have := HN.out; omega)
      obtain ⟨x, hx⟩ : ∃ x, ga Z k = x := ⟨_, rfl⟩
      rw [hx] at c0 c1 c2 c3 c4 hok
      clear hx hac hSt
      obtain ⟨⟨w0, w255⟩, ⟨f0, f255⟩, ⟨q0, q255⟩, ⟨o0, o255⟩⟩ := hok
      have a0 := HSt.out.lo
      have a1 : A ≤ 500025600 := by have := HSt.out.hi; omega
      have hm := HSt.out.few
      have T0 := Ab.new wr x
      have B0 := (B_alloc (Below.refl wr.heap.size wr) (.cells #[.int .u8 x.W, .int .u8 x.F, .bool x.G, .int .u8 x.H, .int .u8 x.O] 28))

      obtain ⟨A1, hA1⟩ : ∃ A1, A1 = A + (1 + x.W) := ⟨_, rfl⟩
      have HA1 := Lib.hid hA1
      have aw : IntKind.i64.wrap (A + IntKind.i64.wrap (1 + x.W)) = A1 := by rw [hA1, IntKind.wrap_i64, IntKind.wrap_i64]; omega
      have aw2 : IntKind.i64.wrap (A + (1 + x.W)) = A1 := by rw [hA1, IntKind.wrap_i64]; omega
      have b0 : 0 ≤ A1 := by omega
      have b1 : A1 < 1000000000 := by omega
      have fq0 : 0 ≤ x.F % 4 := by omega
      have HQ : A1 ≤ 1000000000 := Int.le_of_lt b1
      clear hA1
      by_cases hold : x.G = true ∧ 0 < m
      · obtain ⟨hG, hm0⟩ := hold
        have hGG := hG
        rw [hG] at c2
        have hmm : (0 : Int) < m := by omega
        obtain ⟨j, hj⟩ : ∃ j : Nat, x.H % (m : Int) = j := ⟨(x.H % (m : Int)).toNat, by have := Int.emod_nonneg x.H (show (m : Int) ≠ 0 by omega); omega⟩
        have hjm : j < m := by have := Int.emod_lt_of_pos x.H hmm; omega
        have hown := HSt.out.own
        obtain ⟨gs, rfl, hsr⟩ : ∃ gs, hs = some ⟨gs, 0, none⟩ ∧ gs < wr.heap.size := by
          rcases hown.2 with ⟨_, h1⟩ | ⟨gs, cap, cur, h1, _, h2, _⟩
          · omega
          · injection h1 with h1 _ _
            exact ⟨gs, h1, (Array.getElem?_eq_some_iff.1 h2).1⟩
        obtain ⟨z, hz⟩ : ∃ z, gf S j = z := ⟨_, rfl⟩
        have hzA : z.A ≤ A := by rw [← hz]; exact HSt.out.old _ (gf_mem (by rw [HSt.out.len]; exact hjm))
        have HSC := Lib.hid (show wr.cell? ⟨gs, j * 6, none⟩ = some (.int .i64 z.K) ∧ wr.cell? ⟨gs, j * 6 + 1, none⟩ = some (.int .i64 z.F) ∧ wr.cell? ⟨gs, j * 6 + 2, none⟩ = some (.int .i64 z.T) ∧ wr.cell? ⟨gs, j * 6 + 3, none⟩ = some (.int .i64 z.A) ∧ wr.cell? ⟨gs, j * 6 + 4, none⟩ = some (.int .i64 z.Y) ∧ wr.cell? ⟨gs, j * 6 + 5, none⟩ = some (.slice none 0 0) by
          obtain ⟨e0, e1, e2, e3, e4, e5⟩ := cf_at S j (by rw [HSt.out.len]; exact hjm)
          rw [hz] at e0 e1 e2 e3 e4
          exact ⟨(hown.cellAt _ (by omega)).trans e0, (hown.cellAt _ (by omega)).trans e1, (hown.cellAt _ (by omega)).trans e2, (hown.cellAt _ (by omega)).trans e3, (hown.cellAt _ (by omega)).trans e4, (hown.cellAt _ (by omega)).trans e5⟩)
        have hzn : z.A ≠ A1 := by have := HA1.out; omega
        have HZN := Lib.hid hzn
        have HJ := Lib.hid hj
        clear hown hz hzA hzn hj
        obtain ⟨oq, hoq⟩ : ∃ oq : Nat, x.O % 4 = oq := ⟨(x.O % 4).toNat, by omega⟩
        have hoq4 : oq < 4 := by omega
        have HOQ := Lib.hid hoq
        clear hoq
        go_wp2_with fail
        rw [hGG] at T0 B0
        obtain ⟨W0, hW0⟩ : ∃ W0, W0 = wr.alloc (.cells #[.int .u8 x.W, .int .u8 x.F, .bool true, .int .u8 x.H, .int .u8 x.O] 28) := ⟨_, rfl⟩
        rw [← hW0] at T0 B0 ⊢
        clear hW0
        obtain ⟨e, he⟩ : ∃ e, A1 / 2000 = e := ⟨_, rfl⟩
        have HE := Lib.hid he
        have he0 : 0 ≤ e := by omega
        have he1 : e ≤ 1000000 := by omega
        obtain ⟨fq, hfq⟩ : ∃ fq : Nat, x.F % 4 = fq := ⟨(x.F % 4).toNat, by omega⟩
        have HFQ := Lib.hid hfq
        have hfq4 : fq < 4 := by omega
        have hxb := T0.lt
        have HT0 := Lib.hid T0
        have d1 := T0.cells.2.1
        have HD := Lib.hid d1
        have hS0 := Lib.hid (Sx.of (w1 := W0) (W := W0.drew) d1 (Below.refl _ _).drew)
        have hS1 := Lib.hid (Sx.of (w1 := W0) (W := (W0.alloc (.cells #[.int .i64 0, .int .i64 0, .int .i64 0, .int .i64 0, .int .i64 0, .slice none 0 0] 31)).drew) d1 (B_alloc (Below.refl _ _) _).drew)
        have hZ0 := Lib.hid (show Fb (W0.alloc (.cells #[.int .i64 0, .int .i64 0, .int .i64 0, .int .i64 0, .int .i64 0, .slice none 0 0] 31)).drew W0.heap.size ⟨0, 0, 0, 0, 0⟩ from Fb.new W0 ⟨0, 0, 0, 0, 0⟩)
        clear he hfq T0 d1
        go_region_held3 (fun W => W.cell? ⟨wr.heap.size, 1, none⟩ = some (.int .u8 x.F) ∧ Below W0.heap.size W0 W)
          (first | (with_reducible assumption) | (with_reducible exact hS0.out) | (with_reducible exact hS1.out) | (with_reducible exact hK.out) | (with_reducible exact Sx.alloc HD.out hK.out _) | ((with_reducible refine Sx.put HD.out hK.out ?_); first | (with_reducible exact Nat.le_refl _) | (with_reducible assumption)))
          (first
            | (go_at_call 6; refine (root_to A1 e _ b0 HQ HE.out).mono ?_; rintro e' wA ⟨rfl, hb'⟩; have hK := Lib.hid (Sx.call HD.out (by with_reducible assumption) hb'); have hsz := hK.out.2.size; first | have hz := Lib.hid (Fb.below hZ0.out hb') | have hz := Lib.hid (Fb.new wA ⟨0, 0, 0, 0, 0⟩))
            | (go_at_call 5; refine (seal_to 1 ((IntKind.i64.wrap x.F).tmod 4) (-1) A1 e _ b0 HQ HE.out).mono ?_; rintro e' wB ⟨rfl, hb'⟩; have hK := Lib.hid (Sx.call HD.out (by with_reducible assumption) hb'); try (have hy := Fb.below hz.out hb'; obtain ⟨y0, y1, y2, y3, y4, y5⟩ := hy.cells; have u0 := hy.frozen 0; have u1 := hy.frozen 1; have u2 := hy.frozen 2; have u3 := hy.frozen 3; have u4 := hy.frozen 4; have u5 := hy.frozen 5; have hyl := hy.lt; have HY := Lib.hid hy; clear hy)))
        · have hfb := Fb.new wB ⟨1, (IntKind.i64.wrap x.F).tmod 4, -1, A1, e + 1⟩
          have hb2 : Below W0.heap.size W0 _ := (by with_reducible assumption : Sx W0 wr.heap.size x.F _).2
          obtain ⟨W2, hW2⟩ : ∃ W2, W2 = wB.alloc (.cells #[.int .i64 1, .int .i64 ((IntKind.i64.wrap x.F).tmod 4), .int .i64 (-1), .int .i64 A1, .int .i64 (e + 1), .slice none 0 0] 31) := ⟨_, rfl⟩
          replace hfb : Fb W2 wB.heap.size ⟨1, (IntKind.i64.wrap x.F).tmod 4, -1, A1, e + 1⟩ := by rw [hW2]; exact hfb
          rw [← hW2] at hb2 ⊢
          clear hW2
          have hpb : wr.heap.size < wB.heap.size := Nat.lt_of_lt_of_le hxb hK.out.2.size
          obtain ⟨p, hp⟩ : ∃ p, p = wB.heap.size := ⟨_, rfl⟩
          rw [← hp] at hfb hpb ⊢
          clear hp
          have hfq2 : (IntKind.i64.wrap x.F).tmod 4 = (fq : Int) := by rw [IntKind.wrap_i64, show (x.F + 9223372036854775808) % 18446744073709551616 - 9223372036854775808 = x.F by omega, Int.tmod_eq_emod_of_nonneg f0]; exact HFQ.out
          rw [hfq2] at hfb ⊢
          clear hfq2
          have BW : Below wr.heap.size wr W2 := B_trans B0 hb2
          have hxa := HT0.out.below hb2
          clear hb2
          have e1000 : 0 ≤ x.H := q0
          obtain ⟨s0, s1, s2, s3, s4, s5⟩ := HSC.out
          replace s0 := cell_below BW s0
          replace s1 := cell_below BW s1
          replace s2 := cell_below BW s2
          replace s3 := cell_below BW s3
          replace s4 := cell_below BW s4
          replace s5 := cell_below BW s5
          obtain ⟨a0', a1', a2', a3', a4', a5'⟩ := hfb.cells
          have z0 := hfb.frozen 0
          have z1 := hfb.frozen 1
          have z2 := hfb.frozen 2
          have z3 := hfb.frozen 3
          have z4 := hfb.frozen 4
          have z5 := hfb.frozen 5
          obtain ⟨-, -, -, x3, x4⟩ := hxa.cells
          have hj := HJ.out
          have hjj : (j : Int) < (m : Int) := by omega
          have HP := Lib.hid (hfb.put z)
          have HXA := Lib.hid (hxa.upto (below_putF (Below.refl (wr.heap.size + 1) W2) hpb z) (Nat.lt_succ_self _))
          have HBW := Lib.hid (below_putF BW (Nat.le_of_lt hpb) z)
          clear hfb hxa BW
          go_wp2_with fail
          obtain ⟨W3, hW3⟩ : ∃ W3, W3 = putF W2 p z := ⟨_, rfl⟩
          rw [← hW3] at HP HXA HBW
          unfold putF at hW3
          rw [← hW3]
          clear hW3 hj hjj e1000 a0' a1' a2' a3' a4' a5' z0 z1 z2 z3 z4 z5 s0 s1 s2 s3 s4 s5 x3 x4
          obtain ⟨wo, rfl⟩ : ∃ wo : World, wo = wr := ⟨_, rfl⟩
          go_loopw [7, 14, 15] (fun l c i wq => ∃ q : Nat, q ≤ oq + 1 ∧ i = .int .i64 (q : Nat) ∧ c = .int .i64 0 ∧ l = .slice (some ⟨g, 0, none⟩) 4 cp ∧ Below W3.heap.size W3 wq) (fun _ _ i _ => oq + 1 - (intOf i).toNat)
          case atStart => exact ⟨0, by omega, rfl, rfl, rfl, Below.refl _ _⟩
          case round =>
            obtain ⟨q, hq, rfl, rfl, rfl, hB⟩ := hrel
            have x4 := (HXA.out.below hB).cells.2.2.2.2
            have hoq := HOQ.out
            by_cases hqo : q ≤ oq
            · have hqq : (q : Int) ≤ (oq : Int) := by omega
              have k4 := HP.out.below hB
              have HF := Lib.hid k4
              have HB := Lib.hid hB
              have hS0 := Lib.hid (Sf.of (w1 := wr) (W := wr.drew) k4 (Below.refl _ _).drew)
              clear k4 hB
              go_wp2_with fail
              go_region_held3 (fun W => W.cell? ⟨p, 0, none⟩ = some (.int .i64 z.K) ∧ W.cell? ⟨p, 1, none⟩ = some (.int .i64 z.F) ∧ W.cell? ⟨p, 2, none⟩ = some (.int .i64 z.T) ∧ W.cell? ⟨p, 3, none⟩ = some (.int .i64 z.A) ∧ W.cell? ⟨p, 4, none⟩ = some (.int .i64 z.Y) ∧ W.cell? ⟨p, 5, none⟩ = some (.slice none 0 0) ∧ Below wr.heap.size wr W)
                (first | (with_reducible assumption) | (with_reducible exact hS0.out) | (with_reducible exact hK.out))
                (first
                  | (go_at_call 6; refine (root_to A1 e _ b0 HQ HE.out).mono ?_; rintro e' wA ⟨rfl, hb'⟩; have hK := Lib.hid (Sf.call HF.out (by with_reducible assumption) hb'))
                  | (go_at_call 7; refine (acc_old_to _ z.K z.F z.T z.A z.Y A1 e _ b0 HQ HZN.out HE.out).mono ?_; rintro e' wB ⟨rfl, hb'⟩; have hK := Lib.hid (Sf.call HF.out (by with_reducible assumption) hb')))
              have hB2 := B_trans HB.out hK.out.bel
              clear HF HB hS0 hK
              go_wp2_with fail
              go_roundw
              case rel => exact ⟨q + 1, by omega, by go_num, rfl, rfl, hB2⟩
              all_goals first | (simp [intOf]; done) | (simp [intOf]; omega)
            · have hqq : ¬ (q : Int) ≤ (oq : Int) := by omega
              obtain rfl : q = oq + 1 := by omega
              go_wp2_with fail
              go_roundw
              case rel => exact ⟨k + 1, A1, g, cp, some ⟨gs, 0, none⟩, m, cs, L, S, by omega, by go_num, rfl, rfl, rfl, rfl, HSt.out.old_step w0 w255 HA1.out (B_trans HBW.out hB)⟩
              all_goals first | (simp [intOf]; done) | (simp [intOf]; omega)
        · have hfb := HY.out.put ⟨1, (IntKind.i64.wrap x.F).tmod 4, -1, A1, e + 1⟩
          have hb2 : Below W0.heap.size W0 _ := (by with_reducible assumption : Sx W0 wr.heap.size x.F _).2
          obtain ⟨W2, hW2⟩ : ∃ W2, W2 = putF wB wA.heap.size ⟨1, (IntKind.i64.wrap x.F).tmod 4, -1, A1, e + 1⟩ := ⟨_, rfl⟩
          rw [← hW2] at hfb
          unfold putF at hW2
          simp only at hW2
          rw [← hW2] at hb2 ⊢
          clear hW2
          have hpb : wr.heap.size < wA.heap.size := by first | exact hxb | exact Nat.lt_of_lt_of_le hxb hsz
          obtain ⟨p, hp⟩ : ∃ p, p = wA.heap.size := ⟨_, rfl⟩
          rw [← hp] at hfb hpb ⊢
          clear hp y0 y1 y2 y3 y4 y5 u0 u1 u2 u3 u4 u5 hyl HY
          have hfq2 : (IntKind.i64.wrap x.F).tmod 4 = (fq : Int) := by rw [IntKind.wrap_i64, show (x.F + 9223372036854775808) % 18446744073709551616 - 9223372036854775808 = x.F by omega, Int.tmod_eq_emod_of_nonneg f0]; exact HFQ.out
          rw [hfq2] at hfb ⊢
          clear hfq2
          have BW : Below wr.heap.size wr W2 := B_trans B0 hb2
          have hxa := HT0.out.below hb2
          clear hb2
          have e1000 : 0 ≤ x.H := q0
          obtain ⟨s0, s1, s2, s3, s4, s5⟩ := HSC.out
          replace s0 := cell_below BW s0
          replace s1 := cell_below BW s1
          replace s2 := cell_below BW s2
          replace s3 := cell_below BW s3
          replace s4 := cell_below BW s4
          replace s5 := cell_below BW s5
          obtain ⟨a0', a1', a2', a3', a4', a5'⟩ := hfb.cells
          have z0 := hfb.frozen 0
          have z1 := hfb.frozen 1
          have z2 := hfb.frozen 2
          have z3 := hfb.frozen 3
          have z4 := hfb.frozen 4
          have z5 := hfb.frozen 5
          obtain ⟨-, -, -, x3, x4⟩ := hxa.cells
          have hj := HJ.out
          have hjj : (j : Int) < (m : Int) := by omega
          have HP := Lib.hid (hfb.put z)
          have HXA := Lib.hid (hxa.upto (below_putF (Below.refl (wr.heap.size + 1) W2) hpb z) (Nat.lt_succ_self _))
          have HBW := Lib.hid (below_putF BW (Nat.le_of_lt hpb) z)
          clear hfb hxa BW
          go_wp2_with fail
          obtain ⟨W3, hW3⟩ : ∃ W3, W3 = putF W2 p z := ⟨_, rfl⟩
          rw [← hW3] at HP HXA HBW
          unfold putF at hW3
          rw [← hW3]
          clear hW3 hj hjj e1000 a0' a1' a2' a3' a4' a5' z0 z1 z2 z3 z4 z5 s0 s1 s2 s3 s4 s5 x3 x4
          obtain ⟨wo, rfl⟩ : ∃ wo : World, wo = wr := ⟨_, rfl⟩
          go_loopw [7, 14, 15] (fun l c i wq => ∃ q : Nat, q ≤ oq + 1 ∧ i = .int .i64 (q : Nat) ∧ c = .int .i64 0 ∧ l = .slice (some ⟨g, 0, none⟩) 4 cp ∧ Below W3.heap.size W3 wq) (fun _ _ i _ => oq + 1 - (intOf i).toNat)
          case atStart => exact ⟨0, by omega, rfl, rfl, rfl, Below.refl _ _⟩
          case round =>
            obtain ⟨q, hq, rfl, rfl, rfl, hB⟩ := hrel
            have x4 := (HXA.out.below hB).cells.2.2.2.2
            have hoq := HOQ.out
            by_cases hqo : q ≤ oq
            · have hqq : (q : Int) ≤ (oq : Int) := by omega
              have k4 := HP.out.below hB
              have HF := Lib.hid k4
              have HB := Lib.hid hB
              have hS0 := Lib.hid (Sf.of (w1 := wr) (W := wr.drew) k4 (Below.refl _ _).drew)
              clear k4 hB
              go_wp2_with fail
              go_region_held3 (fun W => W.cell? ⟨p, 0, none⟩ = some (.int .i64 z.K) ∧ W.cell? ⟨p, 1, none⟩ = some (.int .i64 z.F) ∧ W.cell? ⟨p, 2, none⟩ = some (.int .i64 z.T) ∧ W.cell? ⟨p, 3, none⟩ = some (.int .i64 z.A) ∧ W.cell? ⟨p, 4, none⟩ = some (.int .i64 z.Y) ∧ W.cell? ⟨p, 5, none⟩ = some (.slice none 0 0) ∧ Below wr.heap.size wr W)
                (first | (with_reducible assumption) | (with_reducible exact hS0.out) | (with_reducible exact hK.out))
                (first
                  | (go_at_call 6; refine (root_to A1 e _ b0 HQ HE.out).mono ?_; rintro e' wA ⟨rfl, hb'⟩; have hK := Lib.hid (Sf.call HF.out (by with_reducible assumption) hb'))
                  | (go_at_call 7; refine (acc_old_to _ z.K z.F z.T z.A z.Y A1 e _ b0 HQ HZN.out HE.out).mono ?_; rintro e' wB ⟨rfl, hb'⟩; have hK := Lib.hid (Sf.call HF.out (by with_reducible assumption) hb')))
              have hB2 := B_trans HB.out hK.out.bel
              clear HF HB hS0 hK
              go_wp2_with fail
              go_roundw
              case rel => exact ⟨q + 1, by omega, by go_num, rfl, rfl, hB2⟩
              all_goals first | (simp [intOf]; done) | (simp [intOf]; omega)
            · have hqq : ¬ (q : Int) ≤ (oq : Int) := by omega
              obtain rfl : q = oq + 1 := by omega
              go_wp2_with fail
              go_roundw
              case rel => exact ⟨k + 1, A1, g, cp, some ⟨gs, 0, none⟩, m, cs, L, S, by omega, by go_num, rfl, rfl, rfl, rfl, HSt.out.old_step w0 w255 HA1.out (B_trans HBW.out hB)⟩
              all_goals first | (simp [intOf]; done) | (simp [intOf]; omega)
        · have hfb := HY.out.put ⟨1, (IntKind.i64.wrap x.F).tmod 4, -1, A1, e + 1⟩
          have hb2 : Below W0.heap.size W0 _ := (by with_reducible assumption : Sx W0 wr.heap.size x.F _).2
          obtain ⟨W2, hW2⟩ : ∃ W2, W2 = putF wB W0.heap.size ⟨1, (IntKind.i64.wrap x.F).tmod 4, -1, A1, e + 1⟩ := ⟨_, rfl⟩
          rw [← hW2] at hfb
          unfold putF at hW2
          simp only at hW2
          rw [← hW2] at hb2 ⊢
          clear hW2
          have hpb : wr.heap.size < W0.heap.size := by first | exact hxb | exact Nat.lt_of_lt_of_le hxb hsz
          obtain ⟨p, hp⟩ : ∃ p, p = W0.heap.size := ⟨_, rfl⟩
          rw [← hp] at hfb hpb ⊢
          clear hp y0 y1 y2 y3 y4 y5 u0 u1 u2 u3 u4 u5 hyl HY
          have hfq2 : (IntKind.i64.wrap x.F).tmod 4 = (fq : Int) := by rw [IntKind.wrap_i64, show (x.F + 9223372036854775808) % 18446744073709551616 - 9223372036854775808 = x.F by omega, Int.tmod_eq_emod_of_nonneg f0]; exact HFQ.out
          rw [hfq2] at hfb ⊢
          clear hfq2
          have BW : Below wr.heap.size wr W2 := B_trans B0 hb2
          have hxa := HT0.out.below hb2
          clear hb2
          have e1000 : 0 ≤ x.H := q0
          obtain ⟨s0, s1, s2, s3, s4, s5⟩ := HSC.out
          replace s0 := cell_below BW s0
          replace s1 := cell_below BW s1
          replace s2 := cell_below BW s2
          replace s3 := cell_below BW s3
          replace s4 := cell_below BW s4
          replace s5 := cell_below BW s5
          obtain ⟨a0', a1', a2', a3', a4', a5'⟩ := hfb.cells
          have z0 := hfb.frozen 0
          have z1 := hfb.frozen 1
          have z2 := hfb.frozen 2
          have z3 := hfb.frozen 3
          have z4 := hfb.frozen 4
          have z5 := hfb.frozen 5
          obtain ⟨-, -, -, x3, x4⟩ := hxa.cells
          have hj := HJ.out
          have hjj : (j : Int) < (m : Int) := by omega
          have HP := Lib.hid (hfb.put z)
          have HXA := Lib.hid (hxa.upto (below_putF (Below.refl (wr.heap.size + 1) W2) hpb z) (Nat.lt_succ_self _))
          have HBW := Lib.hid (below_putF BW (Nat.le_of_lt hpb) z)
          clear hfb hxa BW
          go_wp2_with fail
          obtain ⟨W3, hW3⟩ : ∃ W3, W3 = putF W2 p z := ⟨_, rfl⟩
          rw [← hW3] at HP HXA HBW
          unfold putF at hW3
          rw [← hW3]
          clear hW3 hj hjj e1000 a0' a1' a2' a3' a4' a5' z0 z1 z2 z3 z4 z5 s0 s1 s2 s3 s4 s5 x3 x4
          obtain ⟨wo, rfl⟩ : ∃ wo : World, wo = wr := ⟨_, rfl⟩
          go_loopw [7, 14, 15] (fun l c i wq => ∃ q : Nat, q ≤ oq + 1 ∧ i = .int .i64 (q : Nat) ∧ c = .int .i64 0 ∧ l = .slice (some ⟨g, 0, none⟩) 4 cp ∧ Below W3.heap.size W3 wq) (fun _ _ i _ => oq + 1 - (intOf i).toNat)
          case atStart => exact ⟨0, by omega, rfl, rfl, rfl, Below.refl _ _⟩
          case round =>
            obtain ⟨q, hq, rfl, rfl, rfl, hB⟩ := hrel
            have x4 := (HXA.out.below hB).cells.2.2.2.2
            have hoq := HOQ.out
            by_cases hqo : q ≤ oq
            · have hqq : (q : Int) ≤ (oq : Int) := by omega
              have k4 := HP.out.below hB
              have HF := Lib.hid k4
              have HB := Lib.hid hB
              have hS0 := Lib.hid (Sf.of (w1 := wr) (W := wr.drew) k4 (Below.refl _ _).drew)
              clear k4 hB
              go_wp2_with fail
              go_region_held3 (fun W => W.cell? ⟨p, 0, none⟩ = some (.int .i64 z.K) ∧ W.cell? ⟨p, 1, none⟩ = some (.int .i64 z.F) ∧ W.cell? ⟨p, 2, none⟩ = some (.int .i64 z.T) ∧ W.cell? ⟨p, 3, none⟩ = some (.int .i64 z.A) ∧ W.cell? ⟨p, 4, none⟩ = some (.int .i64 z.Y) ∧ W.cell? ⟨p, 5, none⟩ = some (.slice none 0 0) ∧ Below wr.heap.size wr W)
                (first | (with_reducible assumption) | (with_reducible exact hS0.out) | (with_reducible exact hK.out))
                (first
                  | (go_at_call 6; refine (root_to A1 e _ b0 HQ HE.out).mono ?_; rintro e' wA ⟨rfl, hb'⟩; have hK := Lib.hid (Sf.call HF.out (by with_reducible assumption) hb'))
                  | (go_at_call 7; refine (acc_old_to _ z.K z.F z.T z.A z.Y A1 e _ b0 HQ HZN.out HE.out).mono ?_; rintro e' wB ⟨rfl, hb'⟩; have hK := Lib.hid (Sf.call HF.out (by with_reducible assumption) hb')))
              have hB2 := B_trans HB.out hK.out.bel
              clear HF HB hS0 hK
              go_wp2_with fail
              go_roundw
              case rel => exact ⟨q + 1, by omega, by go_num, rfl, rfl, hB2⟩
              all_goals first | (simp [intOf]; done) | (simp [intOf]; omega)
            · have hqq : ¬ (q : Int) ≤ (oq : Int) := by omega
              obtain rfl : q = oq + 1 := by omega
              go_wp2_with fail
              go_roundw
              case rel => exact ⟨k + 1, A1, g, cp, some ⟨gs, 0, none⟩, m, cs, L, S, by omega, by go_num, rfl, rfl, rfl, rfl, HSt.out.old_step w0 w255 HA1.out (B_trans HBW.out hB)⟩
              all_goals first | (simp [intOf]; done) | (simp [intOf]; omega)
      · rcases (show x.G = false ∨ (x.G = true ∧ m = 0) by cases hg : x.G; exact .inl rfl; exact .inr ⟨rfl, by apply Classical.byContradiction; intro h; exact hold ⟨hg, by omega⟩⟩) with hG | ⟨hG, hm0⟩
        · have hGG := hG
          rw [hG] at c2
          clear hold
          obtain ⟨oq, hoq⟩ : ∃ oq : Nat, x.O % 4 = oq := ⟨(x.O % 4).toNat, by omega⟩
          have hoq4 : oq < 4 := by omega
          have HOQ := Lib.hid hoq
          clear hoq
          go_wp2_with fail
          rw [hGG] at T0 B0
          obtain ⟨W0, hW0⟩ : ∃ W0, W0 = wr.alloc (.cells #[.int .u8 x.W, .int .u8 x.F, .bool false, .int .u8 x.H, .int .u8 x.O] 28) := ⟨_, rfl⟩
          rw [← hW0] at T0 B0 ⊢
          clear hW0
          obtain ⟨e, he⟩ : ∃ e, A1 / 2000 = e := ⟨_, rfl⟩
          have HE := Lib.hid he
          have he0 : 0 ≤ e := by omega
          have he1 : e ≤ 1000000 := by omega
          obtain ⟨fq, hfq⟩ : ∃ fq : Nat, x.F % 4 = fq := ⟨(x.F % 4).toNat, by omega⟩
          have HFQ := Lib.hid hfq
          have hfq4 : fq < 4 := by omega
          have hxb := T0.lt
          have HT0 := Lib.hid T0
          have d1 := T0.cells.2.1
          have HD := Lib.hid d1
          have hS0 := Lib.hid (Sx.of (w1 := W0) (W := W0.drew) d1 (Below.refl _ _).drew)
          have hS1 := Lib.hid (Sx.of (w1 := W0) (W := (W0.alloc (.cells #[.int .i64 0, .int .i64 0, .int .i64 0, .int .i64 0, .int .i64 0, .slice none 0 0] 31)).drew) d1 (B_alloc (Below.refl _ _) _).drew)
          have hZ0 := Lib.hid (show Fb (W0.alloc (.cells #[.int .i64 0, .int .i64 0, .int .i64 0, .int .i64 0, .int .i64 0, .slice none 0 0] 31)).drew W0.heap.size ⟨0, 0, 0, 0, 0⟩ from Fb.new W0 ⟨0, 0, 0, 0, 0⟩)
          clear he hfq T0 d1
          go_region_held3 (fun W => W.cell? ⟨wr.heap.size, 1, none⟩ = some (.int .u8 x.F) ∧ Below W0.heap.size W0 W)
            (first | (with_reducible assumption) | (with_reducible exact hS0.out) | (with_reducible exact hS1.out) | (with_reducible exact hK.out) | (with_reducible exact Sx.alloc HD.out hK.out _) | ((with_reducible refine Sx.put HD.out hK.out ?_); first | (with_reducible exact Nat.le_refl _) | (with_reducible assumption)))
            (first
              | (go_at_call 6; refine (root_to A1 e _ b0 HQ HE.out).mono ?_; rintro e' wA ⟨rfl, hb'⟩; have hK := Lib.hid (Sx.call HD.out (by with_reducible assumption) hb'); have hsz := hK.out.2.size; first | have hz := Lib.hid (Fb.below hZ0.out hb') | have hz := Lib.hid (Fb.new wA ⟨0, 0, 0, 0, 0⟩))
              | (go_at_call 5; refine (seal_to 1 ((IntKind.i64.wrap x.F).tmod 4) (-1) A1 e _ b0 HQ HE.out).mono ?_; rintro e' wB ⟨rfl, hb'⟩; have hK := Lib.hid (Sx.call HD.out (by with_reducible assumption) hb'); try (have hy := Fb.below hz.out hb'; obtain ⟨y0, y1, y2, y3, y4, y5⟩ := hy.cells; have u0 := hy.frozen 0; have u1 := hy.frozen 1; have u2 := hy.frozen 2; have u3 := hy.frozen 3; have u4 := hy.frozen 4; have u5 := hy.frozen 5; have hyl := hy.lt; have HY := Lib.hid hy; clear hy)))
          · have hfb := Fb.new wB ⟨1, (IntKind.i64.wrap x.F).tmod 4, -1, A1, e + 1⟩
            have hb2 : Below W0.heap.size W0 _ := (by with_reducible assumption : Sx W0 wr.heap.size x.F _).2
            obtain ⟨W2, hW2⟩ : ∃ W2, W2 = wB.alloc (.cells #[.int .i64 1, .int .i64 ((IntKind.i64.wrap x.F).tmod 4), .int .i64 (-1), .int .i64 A1, .int .i64 (e + 1), .slice none 0 0] 31) := ⟨_, rfl⟩
            replace hfb : Fb W2 wB.heap.size ⟨1, (IntKind.i64.wrap x.F).tmod 4, -1, A1, e + 1⟩ := by rw [hW2]; exact hfb
            rw [← hW2] at hb2 ⊢
            clear hW2
            have hpb : wr.heap.size < wB.heap.size := Nat.lt_of_lt_of_le hxb hK.out.2.size
            obtain ⟨p, hp⟩ : ∃ p, p = wB.heap.size := ⟨_, rfl⟩
            rw [← hp] at hfb hpb ⊢
            clear hp
            have hfq2 : (IntKind.i64.wrap x.F).tmod 4 = (fq : Int) := by rw [IntKind.wrap_i64, show (x.F + 9223372036854775808) % 18446744073709551616 - 9223372036854775808 = x.F by omega, Int.tmod_eq_emod_of_nonneg f0]; exact HFQ.out
            rw [hfq2] at hfb ⊢
            clear hfq2
            have BW : Below wr.heap.size wr W2 := B_trans B0 hb2
            have hxa := HT0.out.below hb2
            clear hb2
            obtain ⟨a0', a1', a2', a3', a4', a5'⟩ := hfb.cells
            have HOWN := Lib.hid (own_below HSt.out.own (BW.trans ((Below.refl wr.heap.size W2).alloc BW.size (.cells #[.int .i64 1, .int .i64 (fq : Nat), .int .i64 (-1), .int .i64 A1, .int .i64 (e + 1), .slice none 0 0] 31))))
            have HFN := Lib.hid (show Fb (W2.alloc (.cells #[.int .i64 1, .int .i64 (fq : Nat), .int .i64 (-1), .int .i64 A1, .int .i64 (e + 1), .slice none 0 0] 31)) W2.heap.size ⟨1, (fq : Nat), -1, A1, e + 1⟩ from Fb.new W2 ⟨1, (fq : Nat), -1, A1, e + 1⟩)
            have HFP := Lib.hid (hfb.below (B_alloc (Below.refl _ _) (.cells #[.int .i64 1, .int .i64 (fq : Nat), .int .i64 (-1), .int .i64 A1, .int .i64 (e + 1), .slice none 0 0] 31)))
            have HXA := Lib.hid (hxa.below (B_alloc (Below.refl _ _) (.cells #[.int .i64 1, .int .i64 (fq : Nat), .int .i64 (-1), .int .i64 A1, .int .i64 (e + 1), .slice none 0 0] 31)))
            have HBW := Lib.hid (B_alloc BW (.cells #[.int .i64 1, .int .i64 (fq : Nat), .int .i64 (-1), .int .i64 A1, .int .i64 (e + 1), .slice none 0 0] 31))
            have HSZ := Lib.hid (Nat.le_trans HSt.out.bel.size HBW.out.size)
            have hm1 : m ≤ 1000 := by omega
            have HPB := Lib.hid hpb
            clear hfb hxa BW hpb
            go_wp2_with (first
              | (at_builtin; refine wpList_appF (i0 := i1) HI.out HZ.out.1 HZ.out.2.1 HZ.out.2.2 rfl (.tmp 74) (.tmp 76) rfl w.heap.size S m HSt.out.len (.slice hs m cs) rfl HOWN.out W2.heap.size ⟨1, (fq : Nat), -1, A1, e + 1⟩ rfl HFN.out hm1 HSZ.out ?_; intro hd2 cs2 W3 ho hg hbl; have HM := Lib.hid (HSt.out.mid HFP.out HXA.out (Nat.le_of_lt HPB.out) (Nat.le_refl _) HBW.out ho hg hbl); clear ho hg hbl))
            clear HOWN HFN HFP HXA HBW HSZ a0' a1' a2' a3' a4' a5'
            have hw := HSt.out.wins.2 fq hfq4
            obtain ⟨⟨t, b⟩, htb⟩ : ∃ z : Wn, gw L fq = z := ⟨_, rfl⟩
            rw [htb] at hw
            obtain ⟨B', hn1, hn2, hwok, hB64⟩ := Pl.wok_new hw (show A + 1 < A1 + 1 by have := HA1.out; omega) (by omega)
            have HTB := Lib.hid htb
            have HN1 := Lib.hid hn1
            have HN2 := Lib.hid hn2
            have HWOK := Lib.hid hwok
            have HB64 := Lib.hid (And.intro hw.2.1 hB64)
            clear htb hn1 hn2 hwok hw hB64
            obtain ⟨wo, rfl⟩ : ∃ wo : World, wo = wr := ⟨_, rfl⟩
            go_loopw [7, 14, 15] (fun l c i wq => ∃ (q c' g' cp' : Nat) (L' : List Wn), q ≤ oq + 1 ∧ i = .int .i64 (q : Nat) ∧ c = .int .i64 (c' : Nat) ∧ l = .slice (some ⟨g', 0, none⟩) 4 cp' ∧ Hid (Rw wq g' L' ∧ ((q = 0 ∧ c' = 0 ∧ L' = L) ∨ (0 < q ∧ c' = 1 ∧ L' = L.set fq ⟨A1 + 1, B'⟩ ∧ W3.heap.size ≤ g'))) ∧ Below W3.heap.size W3 wq) (fun _ _ i _ => oq + 1 - (intOf i).toNat)
            case atStart => exact ⟨0, 0, g, cp, L, by omega, rfl, rfl, rfl, ⟨HM.out.rw_, .inl ⟨rfl, rfl, rfl⟩⟩, Below.refl _ _⟩
            case round =>
              obtain ⟨q, c', g', cp', L', hq, rfl, rfl, rfl, HL', hB⟩ := hrel
              have x4 := (HM.out.ab.below hB).cells.2.2.2.2
              have hoq := HOQ.out
              by_cases hqo : q ≤ oq
              · have hqq : (q : Int) ≤ (oq : Int) := by omega
                have k4 := HM.out.fb.below hB
                have HF := Lib.hid k4
                have HB := Lib.hid hB
                have hS0 := Lib.hid (Sf.of (w1 := wr) (W := wr.drew) k4 (Below.refl _ _).drew)
                have HR' := Lib.hid (fun W (h : Below wr.heap.size wr W) => HL'.out.1.below h)
                clear k4 hB
                rcases Nat.eq_zero_or_pos q with hq0 | hq0
                · obtain ⟨-, hc, hL⟩ : q = 0 ∧ c' = 0 ∧ L' = L := by rcases HL'.out.2 with h | h; exact h; omega
                  subst hc hL hq0
                  simp only [Int.natCast_zero] at *
                  clear hqo hqq
                  go_wp2_with fail
                  go_region_held3 (fun W => W.cell? ⟨p, 0, none⟩ = some (.int .i64 1) ∧ W.cell? ⟨p, 1, none⟩ = some (.int .i64 (fq : Nat)) ∧ W.cell? ⟨p, 2, none⟩ = some (.int .i64 (-1)) ∧ W.cell? ⟨p, 3, none⟩ = some (.int .i64 A1) ∧ W.cell? ⟨p, 4, none⟩ = some (.int .i64 (e + 1)) ∧ W.cell? ⟨p, 5, none⟩ = some (.slice none 0 0) ∧ Below wr.heap.size wr W)
                    (first | (with_reducible assumption) | (with_reducible exact hS0.out) | (with_reducible exact hK.out))
                    (first
                      | (go_at_call 6; refine (root_to A1 e _ b0 HQ HE.out).mono ?_; rintro e' wA ⟨rfl, hb'⟩; have hK := Lib.hid (Sf.call HF.out (by with_reducible assumption) hb'))
                      | (go_at_call 7; refine (acc_new_to g' L' fq cp' 1 (-1) A1 (fq : Nat) t e b B' _ (HR'.out _ hK.out.bel) HSt.out.wins.1 hfq4 rfl HTB.out HB64.out.1 b0 b1 HE.out HN1.out).mono ?_; rintro e' wB ⟨g3, cp3, rfl, hr3, hg3, hb'⟩; have hKr := hK; have hK := Lib.hid (Sf.call HF.out (by with_reducible assumption) hb')))
                  have hB2 := B_trans HB.out hK.out.bel
                  have HL3 := Lib.hid (And.intro hr3 (show W3.heap.size ≤ g3 by have h1 := HB.out.size; have h2 := hKr.out.bel.size; omega))
                  clear HF HB hS0 hK hKr hr3 hg3
                  go_wp2_with fail
                  go_roundw
                  case rel => exact ⟨0 + 1, 1, g3, cp3, _, by omega, by go_num, rfl, rfl, ⟨HL3.out.1, .inr ⟨by omega, rfl, rfl, HL3.out.2⟩⟩, hB2⟩
                  all_goals first | (simp [intOf]; done) | (simp [intOf]; omega)
                · obtain ⟨-, hc, hL, hg'⟩ : 0 < q ∧ c' = 1 ∧ L' = L.set fq ⟨A1 + 1, B'⟩ ∧ W3.heap.size ≤ g' := by rcases HL'.out.2 with h | h; omega; exact h
                  subst hc
                  have HLE := Lib.hid (And.intro hL hg')
                  clear hL hg'
                  go_wp2_with fail
                  go_region_held3 (fun W => W.cell? ⟨p, 0, none⟩ = some (.int .i64 1) ∧ W.cell? ⟨p, 1, none⟩ = some (.int .i64 (fq : Nat)) ∧ W.cell? ⟨p, 2, none⟩ = some (.int .i64 (-1)) ∧ W.cell? ⟨p, 3, none⟩ = some (.int .i64 A1) ∧ W.cell? ⟨p, 4, none⟩ = some (.int .i64 (e + 1)) ∧ W.cell? ⟨p, 5, none⟩ = some (.slice none 0 0) ∧ Below wr.heap.size wr W)
                    (first | (with_reducible assumption) | (with_reducible exact hS0.out) | (with_reducible exact hK.out))
                    (first
                      | (go_at_call 6; refine (root_to A1 e _ b0 HQ HE.out).mono ?_; rintro e' wA ⟨rfl, hb'⟩; have hK := Lib.hid (Sf.call HF.out (by with_reducible assumption) hb'))
                      | (go_at_call 7; refine (acc_ref_to g' L' fq cp' 1 (-1) A1 (fq : Nat) (A1 + 1) e B' _ (HR'.out _ hK.out.bel) (by rw [HLE.out.1, List.length_set]; exact HSt.out.wins.1) hfq4 rfl (by rw [HLE.out.1]; exact Pl.gw_set (by rw [HSt.out.wins.1]; exact hfq4)) HB64.out.2 b0 b1 HE.out HN2.out).mono ?_; rintro e' wB ⟨rfl, hb'⟩; have hK := Lib.hid (Sf.call HF.out (by with_reducible assumption) hb')))
                  have hB2 := B_trans HB.out hK.out.bel
                  have HL3 := Lib.hid (HR'.out _ hK.out.bel)
                  clear HF HB hS0 hK
                  go_wp2_with fail
                  go_roundw
                  case rel => exact ⟨q + 1, 1, g', cp', _, by omega, by go_num, rfl, rfl, ⟨HL3.out, .inr ⟨by omega, rfl, HLE.out.1, HLE.out.2⟩⟩, hB2⟩
                  all_goals first | (simp [intOf]; done) | (simp [intOf]; omega)
              · have hqq : ¬ (q : Int) ≤ (oq : Int) := by omega
                obtain rfl : q = oq + 1 := by omega
                obtain ⟨-, hc, hL, hg'⟩ : 0 < oq + 1 ∧ c' = 1 ∧ L' = L.set fq ⟨A1 + 1, B'⟩ ∧ W3.heap.size ≤ g' := by rcases HL'.out.2 with h | h; omega; exact h
                subst hc
                have HLE := Lib.hid (And.intro hL hg')
                clear hL hg'
                go_wp2_with fail
                go_roundw
                case rel => exact ⟨k + 1, A1, g', cp', hd2, m + 1, cs2, L.set fq ⟨A1 + 1, B'⟩, S ++ [⟨1, (fq : Nat), -1, A1, e + 1⟩], by omega, by go_num, rfl, rfl, rfl, rfl, Mid.new_step HSt.out w0 w255 HA1.out HM.out rfl HWOK.out (by rw [← HLE.out.1]; exact HL'.out.1) HLE.out.2 hB⟩
                all_goals first | (simp [intOf]; done) | (simp [intOf]; omega)
          · have hfb := HY.out.put ⟨1, (IntKind.i64.wrap x.F).tmod 4, -1, A1, e + 1⟩
            have hb2 : Below W0.heap.size W0 _ := (by with_reducible assumption : Sx W0 wr.heap.size x.F _).2
            obtain ⟨W2, hW2⟩ : ∃ W2, W2 = putF wB wA.heap.size ⟨1, (IntKind.i64.wrap x.F).tmod 4, -1, A1, e + 1⟩ := ⟨_, rfl⟩
            rw [← hW2] at hfb
            unfold putF at hW2
            simp only at hW2
            rw [← hW2] at hb2 ⊢
            clear hW2
            have hpb : wr.heap.size < wA.heap.size := by first | exact hxb | exact Nat.lt_of_lt_of_le hxb hsz
            obtain ⟨p, hp⟩ : ∃ p, p = wA.heap.size := ⟨_, rfl⟩
            rw [← hp] at hfb hpb ⊢
            clear hp y0 y1 y2 y3 y4 y5 u0 u1 u2 u3 u4 u5 hyl HY
            have hfq2 : (IntKind.i64.wrap x.F).tmod 4 = (fq : Int) := by rw [IntKind.wrap_i64, show (x.F + 9223372036854775808) % 18446744073709551616 - 9223372036854775808 = x.F by omega, Int.tmod_eq_emod_of_nonneg f0]; exact HFQ.out
            rw [hfq2] at hfb ⊢
            clear hfq2
            have BW : Below wr.heap.size wr W2 := B_trans B0 hb2
            have hxa := HT0.out.below hb2
            clear hb2
            obtain ⟨a0', a1', a2', a3', a4', a5'⟩ := hfb.cells
            have HOWN := Lib.hid (own_below HSt.out.own (BW.trans ((Below.refl wr.heap.size W2).alloc BW.size (.cells #[.int .i64 1, .int .i64 (fq : Nat), .int .i64 (-1), .int .i64 A1, .int .i64 (e + 1), .slice none 0 0] 31))))
            have HFN := Lib.hid (show Fb (W2.alloc (.cells #[.int .i64 1, .int .i64 (fq : Nat), .int .i64 (-1), .int .i64 A1, .int .i64 (e + 1), .slice none 0 0] 31)) W2.heap.size ⟨1, (fq : Nat), -1, A1, e + 1⟩ from Fb.new W2 ⟨1, (fq : Nat), -1, A1, e + 1⟩)
            have HFP := Lib.hid (hfb.below (B_alloc (Below.refl _ _) (.cells #[.int .i64 1, .int .i64 (fq : Nat), .int .i64 (-1), .int .i64 A1, .int .i64 (e + 1), .slice none 0 0] 31)))
            have HXA := Lib.hid (hxa.below (B_alloc (Below.refl _ _) (.cells #[.int .i64 1, .int .i64 (fq : Nat), .int .i64 (-1), .int .i64 A1, .int .i64 (e + 1), .slice none 0 0] 31)))
            have HBW := Lib.hid (B_alloc BW (.cells #[.int .i64 1, .int .i64 (fq : Nat), .int .i64 (-1), .int .i64 A1, .int .i64 (e + 1), .slice none 0 0] 31))
            have HSZ := Lib.hid (Nat.le_trans HSt.out.bel.size HBW.out.size)
            have hm1 : m ≤ 1000 := by omega
            have HPB := Lib.hid hpb
            clear hfb hxa BW hpb
            go_wp2_with (first
              | (at_builtin; refine wpList_appF (i0 := i1) HI.out HZ.out.1 HZ.out.2.1 HZ.out.2.2 rfl (.tmp 74) (.tmp 76) rfl w.heap.size S m HSt.out.len (.slice hs m cs) rfl HOWN.out W2.heap.size ⟨1, (fq : Nat), -1, A1, e + 1⟩ rfl HFN.out hm1 HSZ.out ?_; intro hd2 cs2 W3 ho hg hbl; have HM := Lib.hid (HSt.out.mid HFP.out HXA.out (Nat.le_of_lt HPB.out) (Nat.le_refl _) HBW.out ho hg hbl); clear ho hg hbl))
            clear HOWN HFN HFP HXA HBW HSZ a0' a1' a2' a3' a4' a5'
            have hw := HSt.out.wins.2 fq hfq4
            obtain ⟨⟨t, b⟩, htb⟩ : ∃ z : Wn, gw L fq = z := ⟨_, rfl⟩
            rw [htb] at hw
            obtain ⟨B', hn1, hn2, hwok, hB64⟩ := Pl.wok_new hw (show A + 1 < A1 + 1 by have := HA1.out; omega) (by omega)
            have HTB := Lib.hid htb
            have HN1 := Lib.hid hn1
            have HN2 := Lib.hid hn2
            have HWOK := Lib.hid hwok
            have HB64 := Lib.hid (And.intro hw.2.1 hB64)
            clear htb hn1 hn2 hwok hw hB64
            obtain ⟨wo, rfl⟩ : ∃ wo : World, wo = wr := ⟨_, rfl⟩
            go_loopw [7, 14, 15] (fun l c i wq => ∃ (q c' g' cp' : Nat) (L' : List Wn), q ≤ oq + 1 ∧ i = .int .i64 (q : Nat) ∧ c = .int .i64 (c' : Nat) ∧ l = .slice (some ⟨g', 0, none⟩) 4 cp' ∧ Hid (Rw wq g' L' ∧ ((q = 0 ∧ c' = 0 ∧ L' = L) ∨ (0 < q ∧ c' = 1 ∧ L' = L.set fq ⟨A1 + 1, B'⟩ ∧ W3.heap.size ≤ g'))) ∧ Below W3.heap.size W3 wq) (fun _ _ i _ => oq + 1 - (intOf i).toNat)
            case atStart => exact ⟨0, 0, g, cp, L, by omega, rfl, rfl, rfl, ⟨HM.out.rw_, .inl ⟨rfl, rfl, rfl⟩⟩, Below.refl _ _⟩
            case round =>
              obtain ⟨q, c', g', cp', L', hq, rfl, rfl, rfl, HL', hB⟩ := hrel
              have x4 := (HM.out.ab.below hB).cells.2.2.2.2
              have hoq := HOQ.out
              by_cases hqo : q ≤ oq
              · have hqq : (q : Int) ≤ (oq : Int) := by omega
                have k4 := HM.out.fb.below hB
                have HF := Lib.hid k4
                have HB := Lib.hid hB
                have hS0 := Lib.hid (Sf.of (w1 := wr) (W := wr.drew) k4 (Below.refl _ _).drew)
                have HR' := Lib.hid (fun W (h : Below wr.heap.size wr W) => HL'.out.1.below h)
                clear k4 hB
                rcases Nat.eq_zero_or_pos q with hq0 | hq0
                · obtain ⟨-, hc, hL⟩ : q = 0 ∧ c' = 0 ∧ L' = L := by rcases HL'.out.2 with h | h; exact h; omega
                  subst hc hL hq0
                  simp only [Int.natCast_zero] at *
                  clear hqo hqq
                  go_wp2_with fail
                  go_region_held3 (fun W => W.cell? ⟨p, 0, none⟩ = some (.int .i64 1) ∧ W.cell? ⟨p, 1, none⟩ = some (.int .i64 (fq : Nat)) ∧ W.cell? ⟨p, 2, none⟩ = some (.int .i64 (-1)) ∧ W.cell? ⟨p, 3, none⟩ = some (.int .i64 A1) ∧ W.cell? ⟨p, 4, none⟩ = some (.int .i64 (e + 1)) ∧ W.cell? ⟨p, 5, none⟩ = some (.slice none 0 0) ∧ Below wr.heap.size wr W)
                    (first | (with_reducible assumption) | (with_reducible exact hS0.out) | (with_reducible exact hK.out))
                    (first
                      | (go_at_call 6; refine (root_to A1 e _ b0 HQ HE.out).mono ?_; rintro e' wA ⟨rfl, hb'⟩; have hK := Lib.hid (Sf.call HF.out (by with_reducible assumption) hb'))
                      | (go_at_call 7; refine (acc_new_to g' L' fq cp' 1 (-1) A1 (fq : Nat) t e b B' _ (HR'.out _ hK.out.bel) HSt.out.wins.1 hfq4 rfl HTB.out HB64.out.1 b0 b1 HE.out HN1.out).mono ?_; rintro e' wB ⟨g3, cp3, rfl, hr3, hg3, hb'⟩; have hKr := hK; have hK := Lib.hid (Sf.call HF.out (by with_reducible assumption) hb')))
                  have hB2 := B_trans HB.out hK.out.bel
                  have HL3 := Lib.hid (And.intro hr3 (show W3.heap.size ≤ g3 by have h1 := HB.out.size; have h2 := hKr.out.bel.size; omega))
                  clear HF HB hS0 hK hKr hr3 hg3
                  go_wp2_with fail
                  go_roundw
                  case rel => exact ⟨0 + 1, 1, g3, cp3, _, by omega, by go_num, rfl, rfl, ⟨HL3.out.1, .inr ⟨by omega, rfl, rfl, HL3.out.2⟩⟩, hB2⟩
                  all_goals first | (simp [intOf]; done) | (simp [intOf]; omega)
                · obtain ⟨-, hc, hL, hg'⟩ : 0 < q ∧ c' = 1 ∧ L' = L.set fq ⟨A1 + 1, B'⟩ ∧ W3.heap.size ≤ g' := by rcases HL'.out.2 with h | h; omega; exact h
                  subst hc
                  have HLE := Lib.hid (And.intro hL hg')
                  clear hL hg'
                  go_wp2_with fail
                  go_region_held3 (fun W => W.cell? ⟨p, 0, none⟩ = some (.int .i64 1) ∧ W.cell? ⟨p, 1, none⟩ = some (.int .i64 (fq : Nat)) ∧ W.cell? ⟨p, 2, none⟩ = some (.int .i64 (-1)) ∧ W.cell? ⟨p, 3, none⟩ = some (.int .i64 A1) ∧ W.cell? ⟨p, 4, none⟩ = some (.int .i64 (e + 1)) ∧ W.cell? ⟨p, 5, none⟩ = some (.slice none 0 0) ∧ Below wr.heap.size wr W)
                    (first | (with_reducible assumption) | (with_reducible exact hS0.out) | (with_reducible exact hK.out))
                    (first
                      | (go_at_call 6; refine (root_to A1 e _ b0 HQ HE.out).mono ?_; rintro e' wA ⟨rfl, hb'⟩; have hK := Lib.hid (Sf.call HF.out (by with_reducible assumption) hb'))
                      | (go_at_call 7; refine (acc_ref_to g' L' fq cp' 1 (-1) A1 (fq : Nat) (A1 + 1) e B' _ (HR'.out _ hK.out.bel) (by rw [HLE.out.1, List.length_set]; exact HSt.out.wins.1) hfq4 rfl (by rw [HLE.out.1]; exact Pl.gw_set (by rw [HSt.out.wins.1]; exact hfq4)) HB64.out.2 b0 b1 HE.out HN2.out).mono ?_; rintro e' wB ⟨rfl, hb'⟩; have hK := Lib.hid (Sf.call HF.out (by with_reducible assumption) hb')))
                  have hB2 := B_trans HB.out hK.out.bel
                  have HL3 := Lib.hid (HR'.out _ hK.out.bel)
                  clear HF HB hS0 hK
                  go_wp2_with fail
                  go_roundw
                  case rel => exact ⟨q + 1, 1, g', cp', _, by omega, by go_num, rfl, rfl, ⟨HL3.out, .inr ⟨by omega, rfl, HLE.out.1, HLE.out.2⟩⟩, hB2⟩
                  all_goals first | (simp [intOf]; done) | (simp [intOf]; omega)
              · have hqq : ¬ (q : Int) ≤ (oq : Int) := by omega
                obtain rfl : q = oq + 1 := by omega
                obtain ⟨-, hc, hL, hg'⟩ : 0 < oq + 1 ∧ c' = 1 ∧ L' = L.set fq ⟨A1 + 1, B'⟩ ∧ W3.heap.size ≤ g' := by rcases HL'.out.2 with h | h; omega; exact h
                subst hc
                have HLE := Lib.hid (And.intro hL hg')
                clear hL hg'
                go_wp2_with fail
                go_roundw
                case rel => exact ⟨k + 1, A1, g', cp', hd2, m + 1, cs2, L.set fq ⟨A1 + 1, B'⟩, S ++ [⟨1, (fq : Nat), -1, A1, e + 1⟩], by omega, by go_num, rfl, rfl, rfl, rfl, Mid.new_step HSt.out w0 w255 HA1.out HM.out rfl HWOK.out (by rw [← HLE.out.1]; exact HL'.out.1) HLE.out.2 hB⟩
                all_goals first | (simp [intOf]; done) | (simp [intOf]; omega)
          · have hfb := HY.out.put ⟨1, (IntKind.i64.wrap x.F).tmod 4, -1, A1, e + 1⟩
            have hb2 : Below W0.heap.size W0 _ := (by with_reducible assumption : Sx W0 wr.heap.size x.F _).2
            obtain ⟨W2, hW2⟩ : ∃ W2, W2 = putF wB W0.heap.size ⟨1, (IntKind.i64.wrap x.F).tmod 4, -1, A1, e + 1⟩ := ⟨_, rfl⟩
            rw [← hW2] at hfb
            unfold putF at hW2
            simp only at hW2
            rw [← hW2] at hb2 ⊢
            clear hW2
            have hpb : wr.heap.size < W0.heap.size := by first | exact hxb | exact Nat.lt_of_lt_of_le hxb hsz
            obtain ⟨p, hp⟩ : ∃ p, p = W0.heap.size := ⟨_, rfl⟩
            rw [← hp] at hfb hpb ⊢
            clear hp y0 y1 y2 y3 y4 y5 u0 u1 u2 u3 u4 u5 hyl HY
            have hfq2 : (IntKind.i64.wrap x.F).tmod 4 = (fq : Int) := by rw [IntKind.wrap_i64, show (x.F + 9223372036854775808) % 18446744073709551616 - 9223372036854775808 = x.F by omega, Int.tmod_eq_emod_of_nonneg f0]; exact HFQ.out
            rw [hfq2] at hfb ⊢
            clear hfq2
            have BW : Below wr.heap.size wr W2 := B_trans B0 hb2
            have hxa := HT0.out.below hb2
            clear hb2
            obtain ⟨a0', a1', a2', a3', a4', a5'⟩ := hfb.cells
            have HOWN := Lib.hid (own_below HSt.out.own (BW.trans ((Below.refl wr.heap.size W2).alloc BW.size (.cells #[.int .i64 1, .int .i64 (fq : Nat), .int .i64 (-1), .int .i64 A1, .int .i64 (e + 1), .slice none 0 0] 31))))
            have HFN := Lib.hid (show Fb (W2.alloc (.cells #[.int .i64 1, .int .i64 (fq : Nat), .int .i64 (-1), .int .i64 A1, .int .i64 (e + 1), .slice none 0 0] 31)) W2.heap.size ⟨1, (fq : Nat), -1, A1, e + 1⟩ from Fb.new W2 ⟨1, (fq : Nat), -1, A1, e + 1⟩)
            have HFP := Lib.hid (hfb.below (B_alloc (Below.refl _ _) (.cells #[.int .i64 1, .int .i64 (fq : Nat), .int .i64 (-1), .int .i64 A1, .int .i64 (e + 1), .slice none 0 0] 31)))
            have HXA := Lib.hid (hxa.below (B_alloc (Below.refl _ _) (.cells #[.int .i64 1, .int .i64 (fq : Nat), .int .i64 (-1), .int .i64 A1, .int .i64 (e + 1), .slice none 0 0] 31)))
            have HBW := Lib.hid (B_alloc BW (.cells #[.int .i64 1, .int .i64 (fq : Nat), .int .i64 (-1), .int .i64 A1, .int .i64 (e + 1), .slice none 0 0] 31))
            have HSZ := Lib.hid (Nat.le_trans HSt.out.bel.size HBW.out.size)
            have hm1 : m ≤ 1000 := by omega
            have HPB := Lib.hid hpb
            clear hfb hxa BW hpb
            go_wp2_with (first
              | (at_builtin; refine wpList_appF (i0 := i1) HI.out HZ.out.1 HZ.out.2.1 HZ.out.2.2 rfl (.tmp 74) (.tmp 76) rfl w.heap.size S m HSt.out.len (.slice hs m cs) rfl HOWN.out W2.heap.size ⟨1, (fq : Nat), -1, A1, e + 1⟩ rfl HFN.out hm1 HSZ.out ?_; intro hd2 cs2 W3 ho hg hbl; have HM := Lib.hid (HSt.out.mid HFP.out HXA.out (Nat.le_of_lt HPB.out) (Nat.le_refl _) HBW.out ho hg hbl); clear ho hg hbl))
            clear HOWN HFN HFP HXA HBW HSZ a0' a1' a2' a3' a4' a5'
            have hw := HSt.out.wins.2 fq hfq4
            obtain ⟨⟨t, b⟩, htb⟩ : ∃ z : Wn, gw L fq = z := ⟨_, rfl⟩
            rw [htb] at hw
            obtain ⟨B', hn1, hn2, hwok, hB64⟩ := Pl.wok_new hw (show A + 1 < A1 + 1 by have := HA1.out; omega) (by omega)
            have HTB := Lib.hid htb
            have HN1 := Lib.hid hn1
            have HN2 := Lib.hid hn2
            have HWOK := Lib.hid hwok
            have HB64 := Lib.hid (And.intro hw.2.1 hB64)
            clear htb hn1 hn2 hwok hw hB64
            obtain ⟨wo, rfl⟩ : ∃ wo : World, wo = wr := ⟨_, rfl⟩
            go_loopw [7, 14, 15] (fun l c i wq => ∃ (q c' g' cp' : Nat) (L' : List Wn), q ≤ oq + 1 ∧ i = .int .i64 (q : Nat) ∧ c = .int .i64 (c' : Nat) ∧ l = .slice (some ⟨g', 0, none⟩) 4 cp' ∧ Hid (Rw wq g' L' ∧ ((q = 0 ∧ c' = 0 ∧ L' = L) ∨ (0 < q ∧ c' = 1 ∧ L' = L.set fq ⟨A1 + 1, B'⟩ ∧ W3.heap.size ≤ g'))) ∧ Below W3.heap.size W3 wq) (fun _ _ i _ => oq + 1 - (intOf i).toNat)
            case atStart => exact ⟨0, 0, g, cp, L, by omega, rfl, rfl, rfl, ⟨HM.out.rw_, .inl ⟨rfl, rfl, rfl⟩⟩, Below.refl _ _⟩
            case round =>
              obtain ⟨q, c', g', cp', L', hq, rfl, rfl, rfl, HL', hB⟩ := hrel
              have x4 := (HM.out.ab.below hB).cells.2.2.2.2
              have hoq := HOQ.out
              by_cases hqo : q ≤ oq
              · have hqq : (q : Int) ≤ (oq : Int) := by omega
                have k4 := HM.out.fb.below hB
                have HF := Lib.hid k4
                have HB := Lib.hid hB
                have hS0 := Lib.hid (Sf.of (w1 := wr) (W := wr.drew) k4 (Below.refl _ _).drew)
                have HR' := Lib.hid (fun W (h : Below wr.heap.size wr W) => HL'.out.1.below h)
                clear k4 hB
                rcases Nat.eq_zero_or_pos q with hq0 | hq0
                · obtain ⟨-, hc, hL⟩ : q = 0 ∧ c' = 0 ∧ L' = L := by rcases HL'.out.2 with h | h; exact h; omega
                  subst hc hL hq0
                  simp only [Int.natCast_zero] at *
                  clear hqo hqq
                  go_wp2_with fail
                  go_region_held3 (fun W => W.cell? ⟨p, 0, none⟩ = some (.int .i64 1) ∧ W.cell? ⟨p, 1, none⟩ = some (.int .i64 (fq : Nat)) ∧ W.cell? ⟨p, 2, none⟩ = some (.int .i64 (-1)) ∧ W.cell? ⟨p, 3, none⟩ = some (.int .i64 A1) ∧ W.cell? ⟨p, 4, none⟩ = some (.int .i64 (e + 1)) ∧ W.cell? ⟨p, 5, none⟩ = some (.slice none 0 0) ∧ Below wr.heap.size wr W)
                    (first | (with_reducible assumption) | (with_reducible exact hS0.out) | (with_reducible exact hK.out))
                    (first
                      | (go_at_call 6; refine (root_to A1 e _ b0 HQ HE.out).mono ?_; rintro e' wA ⟨rfl, hb'⟩; have hK := Lib.hid (Sf.call HF.out (by with_reducible assumption) hb'))
                      | (go_at_call 7; refine (acc_new_to g' L' fq cp' 1 (-1) A1 (fq : Nat) t e b B' _ (HR'.out _ hK.out.bel) HSt.out.wins.1 hfq4 rfl HTB.out HB64.out.1 b0 b1 HE.out HN1.out).mono ?_; rintro e' wB ⟨g3, cp3, rfl, hr3, hg3, hb'⟩; have hKr := hK; have hK := Lib.hid (Sf.call HF.out (by with_reducible assumption) hb')))
                  have hB2 := B_trans HB.out hK.out.bel
                  have HL3 := Lib.hid (And.intro hr3 (show W3.heap.size ≤ g3 by have h1 := HB.out.size; have h2 := hKr.out.bel.size; omega))
                  clear HF HB hS0 hK hKr hr3 hg3
                  go_wp2_with fail
                  go_roundw
                  case rel => exact ⟨0 + 1, 1, g3, cp3, _, by omega, by go_num, rfl, rfl, ⟨HL3.out.1, .inr ⟨by omega, rfl, rfl, HL3.out.2⟩⟩, hB2⟩
                  all_goals first | (simp [intOf]; done) | (simp [intOf]; omega)
                · obtain ⟨-, hc, hL, hg'⟩ : 0 < q ∧ c' = 1 ∧ L' = L.set fq ⟨A1 + 1, B'⟩ ∧ W3.heap.size ≤ g' := by rcases HL'.out.2 with h | h; omega; exact h
                  subst hc
                  have HLE := Lib.hid (And.intro hL hg')
                  clear hL hg'
                  go_wp2_with fail
                  go_region_held3 (fun W => W.cell? ⟨p, 0, none⟩ = some (.int .i64 1) ∧ W.cell? ⟨p, 1, none⟩ = some (.int .i64 (fq : Nat)) ∧ W.cell? ⟨p, 2, none⟩ = some (.int .i64 (-1)) ∧ W.cell? ⟨p, 3, none⟩ = some (.int .i64 A1) ∧ W.cell? ⟨p, 4, none⟩ = some (.int .i64 (e + 1)) ∧ W.cell? ⟨p, 5, none⟩ = some (.slice none 0 0) ∧ Below wr.heap.size wr W)
                    (first | (with_reducible assumption) | (with_reducible exact hS0.out) | (with_reducible exact hK.out))
                    (first
                      | (go_at_call 6; refine (root_to A1 e _ b0 HQ HE.out).mono ?_; rintro e' wA ⟨rfl, hb'⟩; have hK := Lib.hid (Sf.call HF.out (by with_reducible assumption) hb'))
                      | (go_at_call 7; refine (acc_ref_to g' L' fq cp' 1 (-1) A1 (fq : Nat) (A1 + 1) e B' _ (HR'.out _ hK.out.bel) (by rw [HLE.out.1, List.length_set]; exact HSt.out.wins.1) hfq4 rfl (by rw [HLE.out.1]; exact Pl.gw_set (by rw [HSt.out.wins.1]; exact hfq4)) HB64.out.2 b0 b1 HE.out HN2.out).mono ?_; rintro e' wB ⟨rfl, hb'⟩; have hK := Lib.hid (Sf.call HF.out (by with_reducible assumption) hb')))
                  have hB2 := B_trans HB.out hK.out.bel
                  have HL3 := Lib.hid (HR'.out _ hK.out.bel)
                  clear HF HB hS0 hK
                  go_wp2_with fail
                  go_roundw
                  case rel => exact ⟨q + 1, 1, g', cp', _, by omega, by go_num, rfl, rfl, ⟨HL3.out, .inr ⟨by omega, rfl, HLE.out.1, HLE.out.2⟩⟩, hB2⟩
                  all_goals first | (simp [intOf]; done) | (simp [intOf]; omega)
              · have hqq : ¬ (q : Int) ≤ (oq : Int) := by omega
                obtain rfl : q = oq + 1 := by omega
                obtain ⟨-, hc, hL, hg'⟩ : 0 < oq + 1 ∧ c' = 1 ∧ L' = L.set fq ⟨A1 + 1, B'⟩ ∧ W3.heap.size ≤ g' := by rcases HL'.out.2 with h | h; omega; exact h
                subst hc
                have HLE := Lib.hid (And.intro hL hg')
                clear hL hg'
                go_wp2_with fail
                go_roundw
                case rel => exact ⟨k + 1, A1, g', cp', hd2, m + 1, cs2, L.set fq ⟨A1 + 1, B'⟩, S ++ [⟨1, (fq : Nat), -1, A1, e + 1⟩], by omega, by go_num, rfl, rfl, rfl, rfl, Mid.new_step HSt.out w0 w255 HA1.out HM.out rfl HWOK.out (by rw [← HLE.out.1]; exact HL'.out.1) HLE.out.2 hB⟩
                all_goals first | (simp [intOf]; done) | (simp [intOf]; omega)
        · have hGG := hG
          rw [hG] at c2
          clear hold
          have hmd1 : decide ((0 : Int) < (m : Int)) = false := by simp [hm0]
          have hmd2 : decide (0 < m) = false := by simp [hm0]
          clear hm0
          obtain ⟨oq, hoq⟩ : ∃ oq : Nat, x.O % 4 = oq := ⟨(x.O % 4).toNat, by omega⟩
          have hoq4 : oq < 4 := by omega
          have HOQ := Lib.hid hoq
          clear hoq
          go_wp2_with fail
          rw [hGG] at T0 B0
          obtain ⟨W0, hW0⟩ : ∃ W0, W0 = wr.alloc (.cells #[.int .u8 x.W, .int .u8 x.F, .bool true, .int .u8 x.H, .int .u8 x.O] 28) := ⟨_, rfl⟩
          rw [← hW0] at T0 B0 ⊢
          clear hW0
          obtain ⟨e, he⟩ : ∃ e, A1 / 2000 = e := ⟨_, rfl⟩
          have HE := Lib.hid he
          have he0 : 0 ≤ e := by omega
          have he1 : e ≤ 1000000 := by omega
          obtain ⟨fq, hfq⟩ : ∃ fq : Nat, x.F % 4 = fq := ⟨(x.F % 4).toNat, by omega⟩
          have HFQ := Lib.hid hfq
          have hfq4 : fq < 4 := by omega
          have hxb := T0.lt
          have HT0 := Lib.hid T0
          have d1 := T0.cells.2.1
          have HD := Lib.hid d1
          have hS0 := Lib.hid (Sx.of (w1 := W0) (W := W0.drew) d1 (Below.refl _ _).drew)
          have hS1 := Lib.hid (Sx.of (w1 := W0) (W := (W0.alloc (.cells #[.int .i64 0, .int .i64 0, .int .i64 0, .int .i64 0, .int .i64 0, .slice none 0 0] 31)).drew) d1 (B_alloc (Below.refl _ _) _).drew)
          have hZ0 := Lib.hid (show Fb (W0.alloc (.cells #[.int .i64 0, .int .i64 0, .int .i64 0, .int .i64 0, .int .i64 0, .slice none 0 0] 31)).drew W0.heap.size ⟨0, 0, 0, 0, 0⟩ from Fb.new W0 ⟨0, 0, 0, 0, 0⟩)
          clear he hfq T0 d1
          go_region_held3 (fun W => W.cell? ⟨wr.heap.size, 1, none⟩ = some (.int .u8 x.F) ∧ Below W0.heap.size W0 W)
            (first | (with_reducible assumption) | (with_reducible exact hS0.out) | (with_reducible exact hS1.out) | (with_reducible exact hK.out) | (with_reducible exact Sx.alloc HD.out hK.out _) | ((with_reducible refine Sx.put HD.out hK.out ?_); first | (with_reducible exact Nat.le_refl _) | (with_reducible assumption)))
            (first
              | (go_at_call 6; refine (root_to A1 e _ b0 HQ HE.out).mono ?_; rintro e' wA ⟨rfl, hb'⟩; have hK := Lib.hid (Sx.call HD.out (by with_reducible assumption) hb'); have hsz := hK.out.2.size; first | have hz := Lib.hid (Fb.below hZ0.out hb') | have hz := Lib.hid (Fb.new wA ⟨0, 0, 0, 0, 0⟩))
              | (go_at_call 5; refine (seal_to 1 ((IntKind.i64.wrap x.F).tmod 4) (-1) A1 e _ b0 HQ HE.out).mono ?_; rintro e' wB ⟨rfl, hb'⟩; have hK := Lib.hid (Sx.call HD.out (by with_reducible assumption) hb'); try (have hy := Fb.below hz.out hb'; obtain ⟨y0, y1, y2, y3, y4, y5⟩ := hy.cells; have u0 := hy.frozen 0; have u1 := hy.frozen 1; have u2 := hy.frozen 2; have u3 := hy.frozen 3; have u4 := hy.frozen 4; have u5 := hy.frozen 5; have hyl := hy.lt; have HY := Lib.hid hy; clear hy)))
          · have hfb := Fb.new wB ⟨1, (IntKind.i64.wrap x.F).tmod 4, -1, A1, e + 1⟩
            have hb2 : Below W0.heap.size W0 _ := (by with_reducible assumption : Sx W0 wr.heap.size x.F _).2
            obtain ⟨W2, hW2⟩ : ∃ W2, W2 = wB.alloc (.cells #[.int .i64 1, .int .i64 ((IntKind.i64.wrap x.F).tmod 4), .int .i64 (-1), .int .i64 A1, .int .i64 (e + 1), .slice none 0 0] 31) := ⟨_, rfl⟩
            replace hfb : Fb W2 wB.heap.size ⟨1, (IntKind.i64.wrap x.F).tmod 4, -1, A1, e + 1⟩ := by rw [hW2]; exact hfb
            rw [← hW2] at hb2 ⊢
            clear hW2
            have hpb : wr.heap.size < wB.heap.size := Nat.lt_of_lt_of_le hxb hK.out.2.size
            obtain ⟨p, hp⟩ : ∃ p, p = wB.heap.size := ⟨_, rfl⟩
            rw [← hp] at hfb hpb ⊢
            clear hp
            have hfq2 : (IntKind.i64.wrap x.F).tmod 4 = (fq : Int) := by rw [IntKind.wrap_i64, show (x.F + 9223372036854775808) % 18446744073709551616 - 9223372036854775808 = x.F by omega, Int.tmod_eq_emod_of_nonneg f0]; exact HFQ.out
            rw [hfq2] at hfb ⊢
            clear hfq2
            have BW : Below wr.heap.size wr W2 := B_trans B0 hb2
            have hxa := HT0.out.below hb2
            clear hb2
            obtain ⟨a0', a1', a2', a3', a4', a5'⟩ := hfb.cells
            have HOWN := Lib.hid (own_below HSt.out.own (BW.trans ((Below.refl wr.heap.size W2).alloc BW.size (.cells #[.int .i64 1, .int .i64 (fq : Nat), .int .i64 (-1), .int .i64 A1, .int .i64 (e + 1), .slice none 0 0] 31))))
            have HFN := Lib.hid (show Fb (W2.alloc (.cells #[.int .i64 1, .int .i64 (fq : Nat), .int .i64 (-1), .int .i64 A1, .int .i64 (e + 1), .slice none 0 0] 31)) W2.heap.size ⟨1, (fq : Nat), -1, A1, e + 1⟩ from Fb.new W2 ⟨1, (fq : Nat), -1, A1, e + 1⟩)
            have HFP := Lib.hid (hfb.below (B_alloc (Below.refl _ _) (.cells #[.int .i64 1, .int .i64 (fq : Nat), .int .i64 (-1), .int .i64 A1, .int .i64 (e + 1), .slice none 0 0] 31)))
            have HXA := Lib.hid (hxa.below (B_alloc (Below.refl _ _) (.cells #[.int .i64 1, .int .i64 (fq : Nat), .int .i64 (-1), .int .i64 A1, .int .i64 (e + 1), .slice none 0 0] 31)))
            have HBW := Lib.hid (B_alloc BW (.cells #[.int .i64 1, .int .i64 (fq : Nat), .int .i64 (-1), .int .i64 A1, .int .i64 (e + 1), .slice none 0 0] 31))
            have HSZ := Lib.hid (Nat.le_trans HSt.out.bel.size HBW.out.size)
            have hm1 : m ≤ 1000 := by omega
            have HPB := Lib.hid hpb
            clear hfb hxa BW hpb
            go_wp2_with (first
              | (at_builtin; refine wpList_appF (i0 := i1) HI.out HZ.out.1 HZ.out.2.1 HZ.out.2.2 rfl (.tmp 74) (.tmp 76) rfl w.heap.size S m HSt.out.len (.slice hs m cs) rfl HOWN.out W2.heap.size ⟨1, (fq : Nat), -1, A1, e + 1⟩ rfl HFN.out hm1 HSZ.out ?_; intro hd2 cs2 W3 ho hg hbl; have HM := Lib.hid (HSt.out.mid HFP.out HXA.out (Nat.le_of_lt HPB.out) (Nat.le_refl _) HBW.out ho hg hbl); clear ho hg hbl))
            clear HOWN HFN HFP HXA HBW HSZ a0' a1' a2' a3' a4' a5'
            have hw := HSt.out.wins.2 fq hfq4
            obtain ⟨⟨t, b⟩, htb⟩ : ∃ z : Wn, gw L fq = z := ⟨_, rfl⟩
            rw [htb] at hw
            obtain ⟨B', hn1, hn2, hwok, hB64⟩ := Pl.wok_new hw (show A + 1 < A1 + 1 by have := HA1.out; omega) (by omega)
            have HTB := Lib.hid htb
            have HN1 := Lib.hid hn1
            have HN2 := Lib.hid hn2
            have HWOK := Lib.hid hwok
            have HB64 := Lib.hid (And.intro hw.2.1 hB64)
            clear htb hn1 hn2 hwok hw hB64
            obtain ⟨wo, rfl⟩ : ∃ wo : World, wo = wr := ⟨_, rfl⟩
            go_loopw [7, 14, 15] (fun l c i wq => ∃ (q c' g' cp' : Nat) (L' : List Wn), q ≤ oq + 1 ∧ i = .int .i64 (q : Nat) ∧ c = .int .i64 (c' : Nat) ∧ l = .slice (some ⟨g', 0, none⟩) 4 cp' ∧ Hid (Rw wq g' L' ∧ ((q = 0 ∧ c' = 0 ∧ L' = L) ∨ (0 < q ∧ c' = 1 ∧ L' = L.set fq ⟨A1 + 1, B'⟩ ∧ W3.heap.size ≤ g'))) ∧ Below W3.heap.size W3 wq) (fun _ _ i _ => oq + 1 - (intOf i).toNat)
            case atStart => exact ⟨0, 0, g, cp, L, by omega, rfl, rfl, rfl, ⟨HM.out.rw_, .inl ⟨rfl, rfl, rfl⟩⟩, Below.refl _ _⟩
            case round =>
              obtain ⟨q, c', g', cp', L', hq, rfl, rfl, rfl, HL', hB⟩ := hrel
              have x4 := (HM.out.ab.below hB).cells.2.2.2.2
              have hoq := HOQ.out
              by_cases hqo : q ≤ oq
              · have hqq : (q : Int) ≤ (oq : Int) := by omega
                have k4 := HM.out.fb.below hB
                have HF := Lib.hid k4
                have HB := Lib.hid hB
                have hS0 := Lib.hid (Sf.of (w1 := wr) (W := wr.drew) k4 (Below.refl _ _).drew)
                have HR' := Lib.hid (fun W (h : Below wr.heap.size wr W) => HL'.out.1.below h)
                clear k4 hB
                rcases Nat.eq_zero_or_pos q with hq0 | hq0
                · obtain ⟨-, hc, hL⟩ : q = 0 ∧ c' = 0 ∧ L' = L := by rcases HL'.out.2 with h | h; exact h; omega
                  subst hc hL hq0
                  simp only [Int.natCast_zero] at *
                  clear hqo hqq
                  go_wp2_with fail
                  go_region_held3 (fun W => W.cell? ⟨p, 0, none⟩ = some (.int .i64 1) ∧ W.cell? ⟨p, 1, none⟩ = some (.int .i64 (fq : Nat)) ∧ W.cell? ⟨p, 2, none⟩ = some (.int .i64 (-1)) ∧ W.cell? ⟨p, 3, none⟩ = some (.int .i64 A1) ∧ W.cell? ⟨p, 4, none⟩ = some (.int .i64 (e + 1)) ∧ W.cell? ⟨p, 5, none⟩ = some (.slice none 0 0) ∧ Below wr.heap.size wr W)
                    (first | (with_reducible assumption) | (with_reducible exact hS0.out) | (with_reducible exact hK.out))
                    (first
                      | (go_at_call 6; refine (root_to A1 e _ b0 HQ HE.out).mono ?_; rintro e' wA ⟨rfl, hb'⟩; have hK := Lib.hid (Sf.call HF.out (by with_reducible assumption) hb'))
                      | (go_at_call 7; refine (acc_new_to g' L' fq cp' 1 (-1) A1 (fq : Nat) t e b B' _ (HR'.out _ hK.out.bel) HSt.out.wins.1 hfq4 rfl HTB.out HB64.out.1 b0 b1 HE.out HN1.out).mono ?_; rintro e' wB ⟨g3, cp3, rfl, hr3, hg3, hb'⟩; have hKr := hK; have hK := Lib.hid (Sf.call HF.out (by with_reducible assumption) hb')))
                  have hB2 := B_trans HB.out hK.out.bel
                  have HL3 := Lib.hid (And.intro hr3 (show W3.heap.size ≤ g3 by have h1 := HB.out.size; have h2 := hKr.out.bel.size; omega))
                  clear HF HB hS0 hK hKr hr3 hg3
                  go_wp2_with fail
                  go_roundw
                  case rel => exact ⟨0 + 1, 1, g3, cp3, _, by omega, by go_num, rfl, rfl, ⟨HL3.out.1, .inr ⟨by omega, rfl, rfl, HL3.out.2⟩⟩, hB2⟩
                  all_goals first | (simp [intOf]; done) | (simp [intOf]; omega)
                · obtain ⟨-, hc, hL, hg'⟩ : 0 < q ∧ c' = 1 ∧ L' = L.set fq ⟨A1 + 1, B'⟩ ∧ W3.heap.size ≤ g' := by rcases HL'.out.2 with h | h; omega; exact h
                  subst hc
                  have HLE := Lib.hid (And.intro hL hg')
                  clear hL hg'
                  go_wp2_with fail
                  go_region_held3 (fun W => W.cell? ⟨p, 0, none⟩ = some (.int .i64 1) ∧ W.cell? ⟨p, 1, none⟩ = some (.int .i64 (fq : Nat)) ∧ W.cell? ⟨p, 2, none⟩ = some (.int .i64 (-1)) ∧ W.cell? ⟨p, 3, none⟩ = some (.int .i64 A1) ∧ W.cell? ⟨p, 4, none⟩ = some (.int .i64 (e + 1)) ∧ W.cell? ⟨p, 5, none⟩ = some (.slice none 0 0) ∧ Below wr.heap.size wr W)
                    (first | (with_reducible assumption) | (with_reducible exact hS0.out) | (with_reducible exact hK.out))
                    (first
                      | (go_at_call 6; refine (root_to A1 e _ b0 HQ HE.out).mono ?_; rintro e' wA ⟨rfl, hb'⟩; have hK := Lib.hid (Sf.call HF.out (by with_reducible assumption) hb'))
                      | (go_at_call 7; refine (acc_ref_to g' L' fq cp' 1 (-1) A1 (fq : Nat) (A1 + 1) e B' _ (HR'.out _ hK.out.bel) (by rw [HLE.out.1, List.length_set]; exact HSt.out.wins.1) hfq4 rfl (by rw [HLE.out.1]; exact Pl.gw_set (by rw [HSt.out.wins.1]; exact hfq4)) HB64.out.2 b0 b1 HE.out HN2.out).mono ?_; rintro e' wB ⟨rfl, hb'⟩; have hK := Lib.hid (Sf.call HF.out (by with_reducible assumption) hb')))
                  have hB2 := B_trans HB.out hK.out.bel
                  have HL3 := Lib.hid (HR'.out _ hK.out.bel)
                  clear HF HB hS0 hK
                  go_wp2_with fail
                  go_roundw
                  case rel => exact ⟨q + 1, 1, g', cp', _, by omega, by go_num, rfl, rfl, ⟨HL3.out, .inr ⟨by omega, rfl, HLE.out.1, HLE.out.2⟩⟩, hB2⟩
                  all_goals first | (simp [intOf]; done) | (simp [intOf]; omega)
              · have hqq : ¬ (q : Int) ≤ (oq : Int) := by omega
                obtain rfl : q = oq + 1 := by omega
                obtain ⟨-, hc, hL, hg'⟩ : 0 < oq + 1 ∧ c' = 1 ∧ L' = L.set fq ⟨A1 + 1, B'⟩ ∧ W3.heap.size ≤ g' := by rcases HL'.out.2 with h | h; omega; exact h
                subst hc
                have HLE := Lib.hid (And.intro hL hg')
                clear hL hg'
                go_wp2_with fail
                go_roundw
                case rel => exact ⟨k + 1, A1, g', cp', hd2, m + 1, cs2, L.set fq ⟨A1 + 1, B'⟩, S ++ [⟨1, (fq : Nat), -1, A1, e + 1⟩], by omega, by go_num, rfl, rfl, rfl, rfl, Mid.new_step HSt.out w0 w255 HA1.out HM.out rfl HWOK.out (by rw [← HLE.out.1]; exact HL'.out.1) HLE.out.2 hB⟩
                all_goals first | (simp [intOf]; done) | (simp [intOf]; omega)
          · have hfb := HY.out.put ⟨1, (IntKind.i64.wrap x.F).tmod 4, -1, A1, e + 1⟩
            have hb2 : Below W0.heap.size W0 _ := (by with_reducible assumption : Sx W0 wr.heap.size x.F _).2
            obtain ⟨W2, hW2⟩ : ∃ W2, W2 = putF wB wA.heap.size ⟨1, (IntKind.i64.wrap x.F).tmod 4, -1, A1, e + 1⟩ := ⟨_, rfl⟩
            rw [← hW2] at hfb
            unfold putF at hW2
            simp only at hW2
            rw [← hW2] at hb2 ⊢
            clear hW2
            have hpb : wr.heap.size < wA.heap.size := by first | exact hxb | exact Nat.lt_of_lt_of_le hxb hsz
            obtain ⟨p, hp⟩ : ∃ p, p = wA.heap.size := ⟨_, rfl⟩
            rw [← hp] at hfb hpb ⊢
            clear hp y0 y1 y2 y3 y4 y5 u0 u1 u2 u3 u4 u5 hyl HY
            have hfq2 : (IntKind.i64.wrap x.F).tmod 4 = (fq : Int) := by rw [IntKind.wrap_i64, show (x.F + 9223372036854775808) % 18446744073709551616 - 9223372036854775808 = x.F by omega, Int.tmod_eq_emod_of_nonneg f0]; exact HFQ.out
            rw [hfq2] at hfb ⊢
            clear hfq2
            have BW : Below wr.heap.size wr W2 := B_trans B0 hb2
            have hxa := HT0.out.below hb2
            clear hb2
            obtain ⟨a0', a1', a2', a3', a4', a5'⟩ := hfb.cells
            have HOWN := Lib.hid (own_below HSt.out.own (BW.trans ((Below.refl wr.heap.size W2).alloc BW.size (.cells #[.int .i64 1, .int .i64 (fq : Nat), .int .i64 (-1), .int .i64 A1, .int .i64 (e + 1), .slice none 0 0] 31))))
            have HFN := Lib.hid (show Fb (W2.alloc (.cells #[.int .i64 1, .int .i64 (fq : Nat), .int .i64 (-1), .int .i64 A1, .int .i64 (e + 1), .slice none 0 0] 31)) W2.heap.size ⟨1, (fq : Nat), -1, A1, e + 1⟩ from Fb.new W2 ⟨1, (fq : Nat), -1, A1, e + 1⟩)
            have HFP := Lib.hid (hfb.below (B_alloc (Below.refl _ _) (.cells #[.int .i64 1, .int .i64 (fq : Nat), .int .i64 (-1), .int .i64 A1, .int .i64 (e + 1), .slice none 0 0] 31)))
            have HXA := Lib.hid (hxa.below (B_alloc (Below.refl _ _) (.cells #[.int .i64 1, .int .i64 (fq : Nat), .int .i64 (-1), .int .i64 A1, .int .i64 (e + 1), .slice none 0 0] 31)))
            have HBW := Lib.hid (B_alloc BW (.cells #[.int .i64 1, .int .i64 (fq : Nat), .int .i64 (-1), .int .i64 A1, .int .i64 (e + 1), .slice none 0 0] 31))
            have HSZ := Lib.hid (Nat.le_trans HSt.out.bel.size HBW.out.size)
            have hm1 : m ≤ 1000 := by omega
            have HPB := Lib.hid hpb
            clear hfb hxa BW hpb
            go_wp2_with (first
              | (at_builtin; refine wpList_appF (i0 := i1) HI.out HZ.out.1 HZ.out.2.1 HZ.out.2.2 rfl (.tmp 74) (.tmp 76) rfl w.heap.size S m HSt.out.len (.slice hs m cs) rfl HOWN.out W2.heap.size ⟨1, (fq : Nat), -1, A1, e + 1⟩ rfl HFN.out hm1 HSZ.out ?_; intro hd2 cs2 W3 ho hg hbl; have HM := Lib.hid (HSt.out.mid HFP.out HXA.out (Nat.le_of_lt HPB.out) (Nat.le_refl _) HBW.out ho hg hbl); clear ho hg hbl))
            clear HOWN HFN HFP HXA HBW HSZ a0' a1' a2' a3' a4' a5'
            have hw := HSt.out.wins.2 fq hfq4
            obtain ⟨⟨t, b⟩, htb⟩ : ∃ z : Wn, gw L fq = z := ⟨_, rfl⟩
            rw [htb] at hw
            obtain ⟨B', hn1, hn2, hwok, hB64⟩ := Pl.wok_new hw (show A + 1 < A1 + 1 by have := HA1.out; omega) (by omega)
            have HTB := Lib.hid htb
            have HN1 := Lib.hid hn1
            have HN2 := Lib.hid hn2
            have HWOK := Lib.hid hwok
            have HB64 := Lib.hid (And.intro hw.2.1 hB64)
            clear htb hn1 hn2 hwok hw hB64
            obtain ⟨wo, rfl⟩ : ∃ wo : World, wo = wr := ⟨_, rfl⟩
            go_loopw [7, 14, 15] (fun l c i wq => ∃ (q c' g' cp' : Nat) (L' : List Wn), q ≤ oq + 1 ∧ i = .int .i64 (q : Nat) ∧ c = .int .i64 (c' : Nat) ∧ l = .slice (some ⟨g', 0, none⟩) 4 cp' ∧ Hid (Rw wq g' L' ∧ ((q = 0 ∧ c' = 0 ∧ L' = L) ∨ (0 < q ∧ c' = 1 ∧ L' = L.set fq ⟨A1 + 1, B'⟩ ∧ W3.heap.size ≤ g'))) ∧ Below W3.heap.size W3 wq) (fun _ _ i _ => oq + 1 - (intOf i).toNat)
            case atStart => exact ⟨0, 0, g, cp, L, by omega, rfl, rfl, rfl, ⟨HM.out.rw_, .inl ⟨rfl, rfl, rfl⟩⟩, Below.refl _ _⟩
            case round =>
              obtain ⟨q, c', g', cp', L', hq, rfl, rfl, rfl, HL', hB⟩ := hrel
              have x4 := (HM.out.ab.below hB).cells.2.2.2.2
              have hoq := HOQ.out
              by_cases hqo : q ≤ oq
              · have hqq : (q : Int) ≤ (oq : Int) := by omega
                have k4 := HM.out.fb.below hB
                have HF := Lib.hid k4
                have HB := Lib.hid hB
                have hS0 := Lib.hid (Sf.of (w1 := wr) (W := wr.drew) k4 (Below.refl _ _).drew)
                have HR' := Lib.hid (fun W (h : Below wr.heap.size wr W) => HL'.out.1.below h)
                clear k4 hB
                rcases Nat.eq_zero_or_pos q with hq0 | hq0
                · obtain ⟨-, hc, hL⟩ : q = 0 ∧ c' = 0 ∧ L' = L := by rcases HL'.out.2 with h | h; exact h; omega
                  subst hc hL hq0
                  simp only [Int.natCast_zero] at *
                  clear hqo hqq
                  go_wp2_with fail
                  go_region_held3 (fun W => W.cell? ⟨p, 0, none⟩ = some (.int .i64 1) ∧ W.cell? ⟨p, 1, none⟩ = some (.int .i64 (fq : Nat)) ∧ W.cell? ⟨p, 2, none⟩ = some (.int .i64 (-1)) ∧ W.cell? ⟨p, 3, none⟩ = some (.int .i64 A1) ∧ W.cell? ⟨p, 4, none⟩ = some (.int .i64 (e + 1)) ∧ W.cell? ⟨p, 5, none⟩ = some (.slice none 0 0) ∧ Below wr.heap.size wr W)
                    (first | (with_reducible assumption) | (with_reducible exact hS0.out) | (with_reducible exact hK.out))
                    (first
                      | (go_at_call 6; refine (root_to A1 e _ b0 HQ HE.out).mono ?_; rintro e' wA ⟨rfl, hb'⟩; have hK := Lib.hid (Sf.call HF.out (by with_reducible assumption) hb'))
                      | (go_at_call 7; refine (acc_new_to g' L' fq cp' 1 (-1) A1 (fq : Nat) t e b B' _ (HR'.out _ hK.out.bel) HSt.out.wins.1 hfq4 rfl HTB.out HB64.out.1 b0 b1 HE.out HN1.out).mono ?_; rintro e' wB ⟨g3, cp3, rfl, hr3, hg3, hb'⟩; have hKr := hK; have hK := Lib.hid (Sf.call HF.out (by with_reducible assumption) hb')))
                  have hB2 := B_trans HB.out hK.out.bel
                  have HL3 := Lib.hid (And.intro hr3 (show W3.heap.size ≤ g3 by have h1 := HB.out.size; have h2 := hKr.out.bel.size; omega))
                  clear HF HB hS0 hK hKr hr3 hg3
                  go_wp2_with fail
                  go_roundw
                  case rel => exact ⟨0 + 1, 1, g3, cp3, _, by omega, by go_num, rfl, rfl, ⟨HL3.out.1, .inr ⟨by omega, rfl, rfl, HL3.out.2⟩⟩, hB2⟩
                  all_goals first | (simp [intOf]; done) | (simp [intOf]; omega)
                · obtain ⟨-, hc, hL, hg'⟩ : 0 < q ∧ c' = 1 ∧ L' = L.set fq ⟨A1 + 1, B'⟩ ∧ W3.heap.size ≤ g' := by rcases HL'.out.2 with h | h; omega; exact h
                  subst hc
                  have HLE := Lib.hid (And.intro hL hg')
                  clear hL hg'
                  go_wp2_with fail
                  go_region_held3 (fun W => W.cell? ⟨p, 0, none⟩ = some (.int .i64 1) ∧ W.cell? ⟨p, 1, none⟩ = some (.int .i64 (fq : Nat)) ∧ W.cell? ⟨p, 2, none⟩ = some (.int .i64 (-1)) ∧ W.cell? ⟨p, 3, none⟩ = some (.int .i64 A1) ∧ W.cell? ⟨p, 4, none⟩ = some (.int .i64 (e + 1)) ∧ W.cell? ⟨p, 5, none⟩ = some (.slice none 0 0) ∧ Below wr.heap.size wr W)
                    (first | (with_reducible assumption) | (with_reducible exact hS0.out) | (with_reducible exact hK.out))
                    (first
                      | (go_at_call 6; refine (root_to A1 e _ b0 HQ HE.out).mono ?_; rintro e' wA ⟨rfl, hb'⟩; have hK := Lib.hid (Sf.call HF.out (by with_reducible assumption) hb'))
                      | (go_at_call 7; refine (acc_ref_to g' L' fq cp' 1 (-1) A1 (fq : Nat) (A1 + 1) e B' _ (HR'.out _ hK.out.bel) (by rw [HLE.out.1, List.length_set]; exact HSt.out.wins.1) hfq4 rfl (by rw [HLE.out.1]; exact Pl.gw_set (by rw [HSt.out.wins.1]; exact hfq4)) HB64.out.2 b0 b1 HE.out HN2.out).mono ?_; rintro e' wB ⟨rfl, hb'⟩; have hK := Lib.hid (Sf.call HF.out (by with_reducible assumption) hb')))
                  have hB2 := B_trans HB.out hK.out.bel
                  have HL3 := Lib.hid (HR'.out _ hK.out.bel)
                  clear HF HB hS0 hK
                  go_wp2_with fail
                  go_roundw
                  case rel => exact ⟨q + 1, 1, g', cp', _, by omega, by go_num, rfl, rfl, ⟨HL3.out, .inr ⟨by omega, rfl, HLE.out.1, HLE.out.2⟩⟩, hB2⟩
                  all_goals first | (simp [intOf]; done) | (simp [intOf]; omega)
              · have hqq : ¬ (q : Int) ≤ (oq : Int) := by omega
                obtain rfl : q = oq + 1 := by omega
                obtain ⟨-, hc, hL, hg'⟩ : 0 < oq + 1 ∧ c' = 1 ∧ L' = L.set fq ⟨A1 + 1, B'⟩ ∧ W3.heap.size ≤ g' := by rcases HL'.out.2 with h | h; omega; exact h
                subst hc
                have HLE := Lib.hid (And.intro hL hg')
                clear hL hg'
                go_wp2_with fail
                go_roundw
                case rel => exact ⟨k + 1, A1, g', cp', hd2, m + 1, cs2, L.set fq ⟨A1 + 1, B'⟩, S ++ [⟨1, (fq : Nat), -1, A1, e + 1⟩], by omega, by go_num, rfl, rfl, rfl, rfl, Mid.new_step HSt.out w0 w255 HA1.out HM.out rfl HWOK.out (by rw [← HLE.out.1]; exact HL'.out.1) HLE.out.2 hB⟩
                all_goals first | (simp [intOf]; done) | (simp [intOf]; omega)
          · have hfb := HY.out.put ⟨1, (IntKind.i64.wrap x.F).tmod 4, -1, A1, e + 1⟩
            have hb2 : Below W0.heap.size W0 _ := (by with_reducible assumption : Sx W0 wr.heap.size x.F _).2
            obtain ⟨W2, hW2⟩ : ∃ W2, W2 = putF wB W0.heap.size ⟨1, (IntKind.i64.wrap x.F).tmod 4, -1, A1, e + 1⟩ := ⟨_, rfl⟩
            rw [← hW2] at hfb
            unfold putF at hW2
            simp only at hW2
            rw [← hW2] at hb2 ⊢
            clear hW2
            have hpb : wr.heap.size < W0.heap.size := by first | exact hxb | exact Nat.lt_of_lt_of_le hxb hsz
            obtain ⟨p, hp⟩ : ∃ p, p = W0.heap.size := ⟨_, rfl⟩
            rw [← hp] at hfb hpb ⊢
            clear hp y0 y1 y2 y3 y4 y5 u0 u1 u2 u3 u4 u5 hyl HY
            have hfq2 : (IntKind.i64.wrap x.F).tmod 4 = (fq : Int) := by rw [IntKind.wrap_i64, show (x.F + 9223372036854775808) % 18446744073709551616 - 9223372036854775808 = x.F by omega, Int.tmod_eq_emod_of_nonneg f0]; exact HFQ.out
            rw [hfq2] at hfb ⊢
            clear hfq2
            have BW : Below wr.heap.size wr W2 := B_trans B0 hb2
            have hxa := HT0.out.below hb2
            clear hb2
            obtain ⟨a0', a1', a2', a3', a4', a5'⟩ := hfb.cells
            have HOWN := Lib.hid (own_below HSt.out.own (BW.trans ((Below.refl wr.heap.size W2).alloc BW.size (.cells #[.int .i64 1, .int .i64 (fq : Nat), .int .i64 (-1), .int .i64 A1, .int .i64 (e + 1), .slice none 0 0] 31))))
            have HFN := Lib.hid (show Fb (W2.alloc (.cells #[.int .i64 1, .int .i64 (fq : Nat), .int .i64 (-1), .int .i64 A1, .int .i64 (e + 1), .slice none 0 0] 31)) W2.heap.size ⟨1, (fq : Nat), -1, A1, e + 1⟩ from Fb.new W2 ⟨1, (fq : Nat), -1, A1, e + 1⟩)
            have HFP := Lib.hid (hfb.below (B_alloc (Below.refl _ _) (.cells #[.int .i64 1, .int .i64 (fq : Nat), .int .i64 (-1), .int .i64 A1, .int .i64 (e + 1), .slice none 0 0] 31)))
            have HXA := Lib.hid (hxa.below (B_alloc (Below.refl _ _) (.cells #[.int .i64 1, .int .i64 (fq : Nat), .int .i64 (-1), .int .i64 A1, .int .i64 (e + 1), .slice none 0 0] 31)))
            have HBW := Lib.hid (B_alloc BW (.cells #[.int .i64 1, .int .i64 (fq : Nat), .int .i64 (-1), .int .i64 A1, .int .i64 (e + 1), .slice none 0 0] 31))
            have HSZ := Lib.hid (Nat.le_trans HSt.out.bel.size HBW.out.size)
            have hm1 : m ≤ 1000 := by omega
            have HPB := Lib.hid hpb
            clear hfb hxa BW hpb
            go_wp2_with (first
              | (at_builtin; refine wpList_appF (i0 := i1) HI.out HZ.out.1 HZ.out.2.1 HZ.out.2.2 rfl (.tmp 74) (.tmp 76) rfl w.heap.size S m HSt.out.len (.slice hs m cs) rfl HOWN.out W2.heap.size ⟨1, (fq : Nat), -1, A1, e + 1⟩ rfl HFN.out hm1 HSZ.out ?_; intro hd2 cs2 W3 ho hg hbl; have HM := Lib.hid (HSt.out.mid HFP.out HXA.out (Nat.le_of_lt HPB.out) (Nat.le_refl _) HBW.out ho hg hbl); clear ho hg hbl))
            clear HOWN HFN HFP HXA HBW HSZ a0' a1' a2' a3' a4' a5'
            have hw := HSt.out.wins.2 fq hfq4
            obtain ⟨⟨t, b⟩, htb⟩ : ∃ z : Wn, gw L fq = z := ⟨_, rfl⟩
            rw [htb] at hw
            obtain ⟨B', hn1, hn2, hwok, hB64⟩ := Pl.wok_new hw (show A + 1 < A1 + 1 by have := HA1.out; omega) (by omega)
            have HTB := Lib.hid htb
            have HN1 := Lib.hid hn1
            have HN2 := Lib.hid hn2
            have HWOK := Lib.hid hwok
            have HB64 := Lib.hid (And.intro hw.2.1 hB64)
            clear htb hn1 hn2 hwok hw hB64
            obtain ⟨wo, rfl⟩ : ∃ wo : World, wo = wr := ⟨_, rfl⟩
            go_loopw [7, 14, 15] (fun l c i wq => ∃ (q c' g' cp' : Nat) (L' : List Wn), q ≤ oq + 1 ∧ i = .int .i64 (q : Nat) ∧ c = .int .i64 (c' : Nat) ∧ l = .slice (some ⟨g', 0, none⟩) 4 cp' ∧ Hid (Rw wq g' L' ∧ ((q = 0 ∧ c' = 0 ∧ L' = L) ∨ (0 < q ∧ c' = 1 ∧ L' = L.set fq ⟨A1 + 1, B'⟩ ∧ W3.heap.size ≤ g'))) ∧ Below W3.heap.size W3 wq) (fun _ _ i _ => oq + 1 - (intOf i).toNat)
            case atStart => exact ⟨0, 0, g, cp, L, by omega, rfl, rfl, rfl, ⟨HM.out.rw_, .inl ⟨rfl, rfl, rfl⟩⟩, Below.refl _ _⟩
            case round =>
              obtain ⟨q, c', g', cp', L', hq, rfl, rfl, rfl, HL', hB⟩ := hrel
              have x4 := (HM.out.ab.below hB).cells.2.2.2.2
              have hoq := HOQ.out
              by_cases hqo : q ≤ oq
              · have hqq : (q : Int) ≤ (oq : Int) := by omega
                have k4 := HM.out.fb.below hB
                have HF := Lib.hid k4
                have HB := Lib.hid hB
                have hS0 := Lib.hid (Sf.of (w1 := wr) (W := wr.drew) k4 (Below.refl _ _).drew)
                have HR' := Lib.hid (fun W (h : Below wr.heap.size wr W) => HL'.out.1.below h)
                clear k4 hB
                rcases Nat.eq_zero_or_pos q with hq0 | hq0
                · obtain ⟨-, hc, hL⟩ : q = 0 ∧ c' = 0 ∧ L' = L := by rcases HL'.out.2 with h | h; exact h; omega
                  subst hc hL hq0
                  simp only [Int.natCast_zero] at *
                  clear hqo hqq
                  go_wp2_with fail
                  go_region_held3 (fun W => W.cell? ⟨p, 0, none⟩ = some (.int .i64 1) ∧ W.cell? ⟨p, 1, none⟩ = some (.int .i64 (fq : Nat)) ∧ W.cell? ⟨p, 2, none⟩ = some (.int .i64 (-1)) ∧ W.cell? ⟨p, 3, none⟩ = some (.int .i64 A1) ∧ W.cell? ⟨p, 4, none⟩ = some (.int .i64 (e + 1)) ∧ W.cell? ⟨p, 5, none⟩ = some (.slice none 0 0) ∧ Below wr.heap.size wr W)
                    (first | (with_reducible assumption) | (with_reducible exact hS0.out) | (with_reducible exact hK.out))
                    (first
                      | (go_at_call 6; refine (root_to A1 e _ b0 HQ HE.out).mono ?_; rintro e' wA ⟨rfl, hb'⟩; have hK := Lib.hid (Sf.call HF.out (by with_reducible assumption) hb'))
                      | (go_at_call 7; refine (acc_new_to g' L' fq cp' 1 (-1) A1 (fq : Nat) t e b B' _ (HR'.out _ hK.out.bel) HSt.out.wins.1 hfq4 rfl HTB.out HB64.out.1 b0 b1 HE.out HN1.out).mono ?_; rintro e' wB ⟨g3, cp3, rfl, hr3, hg3, hb'⟩; have hKr := hK; have hK := Lib.hid (Sf.call HF.out (by with_reducible assumption) hb')))
                  have hB2 := B_trans HB.out hK.out.bel
                  have HL3 := Lib.hid (And.intro hr3 (show W3.heap.size ≤ g3 by have h1 := HB.out.size; have h2 := hKr.out.bel.size; omega))
                  clear HF HB hS0 hK hKr hr3 hg3
                  go_wp2_with fail
                  go_roundw
                  case rel => exact ⟨0 + 1, 1, g3, cp3, _, by omega, by go_num, rfl, rfl, ⟨HL3.out.1, .inr ⟨by omega, rfl, rfl, HL3.out.2⟩⟩, hB2⟩
                  all_goals first | (simp [intOf]; done) | (simp [intOf]; omega)
                · obtain ⟨-, hc, hL, hg'⟩ : 0 < q ∧ c' = 1 ∧ L' = L.set fq ⟨A1 + 1, B'⟩ ∧ W3.heap.size ≤ g' := by rcases HL'.out.2 with h | h; omega; exact h
                  subst hc
                  have HLE := Lib.hid (And.intro hL hg')
                  clear hL hg'
                  go_wp2_with fail
                  go_region_held3 (fun W => W.cell? ⟨p, 0, none⟩ = some (.int .i64 1) ∧ W.cell? ⟨p, 1, none⟩ = some (.int .i64 (fq : Nat)) ∧ W.cell? ⟨p, 2, none⟩ = some (.int .i64 (-1)) ∧ W.cell? ⟨p, 3, none⟩ = some (.int .i64 A1) ∧ W.cell? ⟨p, 4, none⟩ = some (.int .i64 (e + 1)) ∧ W.cell? ⟨p, 5, none⟩ = some (.slice none 0 0) ∧ Below wr.heap.size wr W)
                    (first | (with_reducible assumption) | (with_reducible exact hS0.out) | (with_reducible exact hK.out))
                    (first
                      | (go_at_call 6; refine (root_to A1 e _ b0 HQ HE.out).mono ?_; rintro e' wA ⟨rfl, hb'⟩; have hK := Lib.hid (Sf.call HF.out (by with_reducible assumption) hb'))
                      | (go_at_call 7; refine (acc_ref_to g' L' fq cp' 1 (-1) A1 (fq : Nat) (A1 + 1) e B' _ (HR'.out _ hK.out.bel) (by rw [HLE.out.1, List.length_set]; exact HSt.out.wins.1) hfq4 rfl (by rw [HLE.out.1]; exact Pl.gw_set (by rw [HSt.out.wins.1]; exact hfq4)) HB64.out.2 b0 b1 HE.out HN2.out).mono ?_; rintro e' wB ⟨rfl, hb'⟩; have hK := Lib.hid (Sf.call HF.out (by with_reducible assumption) hb')))
                  have hB2 := B_trans HB.out hK.out.bel
                  have HL3 := Lib.hid (HR'.out _ hK.out.bel)
                  clear HF HB hS0 hK
                  go_wp2_with fail
                  go_roundw
                  case rel => exact ⟨q + 1, 1, g', cp', _, by omega, by go_num, rfl, rfl, ⟨HL3.out, .inr ⟨by omega, rfl, HLE.out.1, HLE.out.2⟩⟩, hB2⟩
                  all_goals first | (simp [intOf]; done) | (simp [intOf]; omega)
              · have hqq : ¬ (q : Int) ≤ (oq : Int) := by omega
                obtain rfl : q = oq + 1 := by omega
                obtain ⟨-, hc, hL, hg'⟩ : 0 < oq + 1 ∧ c' = 1 ∧ L' = L.set fq ⟨A1 + 1, B'⟩ ∧ W3.heap.size ≤ g' := by rcases HL'.out.2 with h | h; omega; exact h
                subst hc
                have HLE := Lib.hid (And.intro hL hg')
                clear hL hg'
                go_wp2_with fail
                go_roundw
                case rel => exact ⟨k + 1, A1, g', cp', hd2, m + 1, cs2, L.set fq ⟨A1 + 1, B'⟩, S ++ [⟨1, (fq : Nat), -1, A1, e + 1⟩], by omega, by go_num, rfl, rfl, rfl, rfl, Mid.new_step HSt.out w0 w255 HA1.out HM.out rfl HWOK.out (by rw [← HLE.out.1]; exact HL'.out.1) HLE.out.2 hB⟩
                all_goals first | (simp [intOf]; done) | (simp [intOf]; omega)
    · obtain rfl : k = n := by omega
      go_wp2_with fail
      go_ret
      exact ⟨ret_bool (by simp), hSt.bel⟩
end Go.Proofs.Ytffdcnjddoakbaa
