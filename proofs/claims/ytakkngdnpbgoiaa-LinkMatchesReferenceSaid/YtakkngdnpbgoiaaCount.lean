/-
  link.Count: the links after a frame. Conditions: none.
-/
import Derived.Test.YtakkngdnpbgoiaaApp
namespace Go.Proofs.Ytakkngdnpbgoiaa
open Go.RowKit

def Counted (w : World) (R : List Lk) (e : Ending) (w' : World) : Prop :=
  ∃ hd' cap', e = .returned (.tuple #[.slice hd' R.length cap', .int .i64 0]) ∧ R.length ≤ cap' ∧ Rd w' hd' R ∧ Below w.heap.size w w'
theorem info32 : (Try.prog.info? 32).map (fun i => (i.zero, i.size, i.bytes)) = some (some (.agg #[.int .i64 0, .int .i64 0, .int .i64 0]), 3, 24) := by kernel_rfl

set_option maxHeartbeats 4000000 in
theorem count_bad (hd : Option Addr) (L : List Lk) (cap : Nat) (p : Int) (a : Bool) (w : World) (hR : Rd w hd L) (hlen : L.length ≤ 5864062014634) (h : ¬ (Pl.Vld L ∧ 0 ≤ p ∧ p ≤ 59)) :
    Calls Try.prog 10 #[.slice hd L.length cap, .int .i64 p, .bool a] w fun e w' => e = .returned (.tuple #[.slice none 0 0, .int .i64 1]) ∧ Below w.heap.size w w' := by
  by_cases hV : Pl.Vld L
  · have hp : p < 0 ∨ 59 < p := by
      apply Classical.byContradiction; intro hc; exact h ⟨hV, by omega, by omega⟩
    clear h
    go_enter Try.func10, Try.ntmps10
    go_wp2_with (first | (go_at_call 18; refine (valid_yes _ hR hV).mono ?_; rintro e w1 ⟨rfl, hb⟩) | (go_at_call 19; refine (peer_false _ _ hp).mono ?_; rintro e w2 ⟨rfl, rfl⟩))
    go_ret2
    exact ⟨rfl, hb⟩
  · clear h
    go_enter Try.func10, Try.ntmps10
    go_wp2_with (first | (go_at_call 18; refine (valid_no _ hR hlen hV).mono ?_; rintro e w1 ⟨rfl, hb⟩))
    go_ret2
    exact ⟨rfl, hb⟩

theorem front_none {w : World} {hd : Option Addr} {L : List Lk} {m : Nat} (h : Rd w hd L) (hm : m ≤ L.length) : hd = none → m = 0 ∧ m = 0 := fun hn => by
  rcases Nat.eq_zero_or_pos L.length with h0 | h0
  · omega
  · obtain ⟨b, off, e, _⟩ := h h0
    rw [hn] at e; cases e
theorem front_cells {w : World} {hd : Option Addr} {L : List Lk} {m : Nat} (h : Rd w hd L) (hm : m ≤ L.length) : ∀ b, hd = some b → ∀ j u, (cl (L.take m))[j]? = some u → b.block < w.heap.size ∧ w.cell? (b.add j) = some u := fun b hb j u hu => by
  have hj : j < (cl (L.take m)).length := (List.getElem?_eq_some_iff.1 hu).1
  have hj2 := hj
  rw [cl_len, List.length_take] at hj2
  obtain ⟨ad, e, hlt, hc⟩ := (reads_of h).2 (by omega)
  rw [hb] at e
  obtain rfl := Option.some.inj e
  refine ⟨hlt, hc j u ?_⟩
  have : cl L = cl (L.take m) ++ cl (L.drop m) := by rw [← cl_app, List.take_append_drop]
  rw [this, List.getElem?_append_left hj]; exact hu
theorem front_at {w W : World} {hd : Option Addr} {l : List Value} (h : ∀ b, hd = some b → ∀ j u, l[j]? = some u → b.block < w.heap.size ∧ w.cell? (b.add j) = some u) (hb : Below w.heap.size w W) : ∀ b, hd = some b → ∀ j u, l[j]? = some u → W.cell? (b.add j) = some u := fun b e j u hu => by
  obtain ⟨h1, h2⟩ := h b e j u hu
  exact (hb.cell (by rw [block_of_add]; exact h1)).trans h2
theorem new_cells (w : World) (y : Lk) : ∀ j u, [Value.int .i64 y.P, .int .i64 y.S, .int .i64 y.G][j]? = some u → (w.alloc (.cells #[.int .i64 y.P, .int .i64 y.S, .int .i64 y.G] 32)).drew.cell? ((⟨w.heap.size, 0, none⟩ : Addr).add j) = some u := fun j u hu => by
  rw [add3, Nat.zero_add]
  have := World.cell?_alloc_mark w #[.int .i64 y.P, .int .i64 y.S, .int .i64 y.G] 32 (0, 0) j
  exact this.trans (by simpa using hu)
theorem new_one (y : Lk) : ∀ u ∈ [Value.int .i64 y.P, .int .i64 y.S, .int .i64 y.G], u.oneCell' = true := by
  intro u hu
  simp only [List.mem_cons, List.not_mem_nil, or_false] at hu
  rcases hu with rfl | rfl | rfl <;> rfl
theorem reads_n {w : World} {hd : Option Addr} {L : List Lk} {n : Nat} (h : Rd w hd L) (hn : L.length = n) : Reads w w.heap.size 3 hd n (cl L) := hn ▸ reads_of h
theorem count_below {w3 w4 w5 : World} {base k : Nat} {v1 : Value} {xs : List Value} (h : w4.ownsRow base 32 3 v1 k xs) (hb : w3.heap.size ≤ base) (B : Below w3.heap.size w3 w4) (hg : w4.grownBy w5 v1.ownBlock) : Below w3.heap.size w3 w5 :=
  B.grown hg B.size fun j hj => by have := (h.lt j hj).1; omega
theorem bk_two (w : World) (x : Lk) : Bk ((w.alloc (.cells #[.int .i64 x.P, .int .i64 x.S, .int .i64 x.G] 32)).alloc (.cells #[.int .i64 x.P, .int .i64 x.S, .int .i64 x.G] 42)) (w.heap.size + 1) 42 x := by
  have := Bk.new (w.alloc (.cells #[.int .i64 x.P, .int .i64 x.S, .int .i64 x.G] 32)) 42 x
  rwa [World.size_alloc] at this
set_option maxHeartbeats 8000000 in
theorem count_ok (hd : Option Addr) (L : List Lk) (cap : Nat) (p : Int) (a : Bool) (w : World) (hR : Rd w hd L) (hcap : L.length ≤ cap) (hV : Pl.Vld L) (hp : 0 ≤ p ∧ p ≤ 59) :
    Calls Try.prog 10 #[.slice hd L.length cap, .int .i64 p, .bool a] w (Counted w (Pl.count L p a)) := by
  obtain ⟨i0, hi, hz0, hz1, hz2⟩ := info_parts info32
  have hlen := Pl.vld_len hV
  have hmle := Pl.fnd_le L p
  obtain ⟨hd1, cap1, hs1, hR1, hc1⟩ := cut_rd hd L cap (Pl.fnd L p) w hR hmle hcap
  have hsf := slice_front hd L.length cap (Pl.fnd L p) hmle hcap
  have hfind := fun W h => find_any hd L cap W h (by omega) p
  have hvy := fun W (h : Rd W hd L) => valid_yes (cap := cap) W h hV
  have hok := Pl.of_ok hV hp
  have hR1' := Lib.hid hR1
  have hRR := Lib.hid hR
  obtain ⟨L1, hL1⟩ : ∃ L1, L.drop (Pl.fnd L p) = L1 := ⟨_, rfl⟩
  rw [hL1] at hs1 hR1' hc1
  have HL1 := Lib.hid hL1
  obtain ⟨m, hm⟩ : ∃ m, Pl.fnd L p = m := ⟨_, rfl⟩
  obtain ⟨n, hn⟩ : ∃ n, L.length = n := ⟨_, rfl⟩
  obtain ⟨x, hx⟩ : ∃ x, Pl.of L p = x := ⟨_, rfl⟩
  obtain ⟨n1, hn1⟩ : ∃ n1, L1.length = n1 := ⟨_, rfl⟩
  rw [hm, hn] at hmle hsf
  rw [hm, hn, hn1] at hs1
  rw [hn1] at hc1
  rw [hx] at hok
  rw [hn] at hlen hcap hfind hvy ⊢
  rw [hm, hx] at hfind
  have hn1m : n1 = n - m := by rw [← hn1, ← hL1, List.length_drop, hm, hn]
  have HM := Lib.hid hm
  have HN := Lib.hid hn
  have HX := Lib.hid hx
  have HN1 := Lib.hid hn1
  have HN1M := Lib.hid hn1m
  have HF := Lib.hid hfind
  have HV := Lib.hid hvy
  have hsf2 : ∀ W : World, (Instr.sliceAt 22 (.slice hd n cap) none (some (.int .i64 (m : Nat))) (some (.int .i64 (m : Nat)))).run Try.prog W = .ok (.slice hd m m) W := fun W => by rw [run_sliceAt_slice W _ _ _ _ _ Try.underlying22]; exact hsf W
  clear hL1 hR1 hm hn hx hn1 hn1m hfind hvy hR
  by_cases hmn : m < n
  · have hn10 : 0 < n1 := by have := HN1M.out; omega
    have hn1i : (0 : Int) < (n1 : Int) := by omega
    obtain ⟨b1, off1, rfl, hb1, hcc1⟩ := hR1'.out (by have := HN1.out; omega)
    have hq0 := (hcc1 0 (by have := HN1.out; omega)).1
    simp only [Nat.zero_mul, Nat.add_zero] at hq0
    have hg1 : Pl.g L1 0 = Pl.g L m := by rw [← HL1.out, g_drop, HM.out, Nat.add_zero]
    rw [hg1] at hq0
    have hq := Lib.hid hq0
    clear hcc1 hg1 hq0
    by_cases hqp : (Pl.g L m).P = p
    · obtain ⟨hd2, cap2, hs2, hR2, hc2⟩ := cut_rd (some ⟨b1, off1, none⟩) L1 cap1 1 w hR1'.out (by have := HN1.out; omega) (by have := HN1.out; omega)
      obtain ⟨L2, hL2⟩ : ∃ L2, L1.drop 1 = L2 := ⟨_, rfl⟩
      obtain ⟨n2, hn2⟩ : ∃ n2, L2.length = n2 := ⟨_, rfl⟩
      rw [hL2] at hs2 hR2 hc2
      rw [hn2] at hs2 hc2
      rw [HN1.out] at hs2
      have hR2' := Lib.hid hR2
      have HN2 := Lib.hid hn2
      have N60 : Hid (n2 ≤ 60) := by show n2 ≤ 60; rw [← hn2, ← hL2, List.length_drop]; have := HN1.out; have := HN1M.out; omega
      have hcount : Pl.count L p a = L.take m ++ Pl.cnt x a :: L2 := by
        rw [Pl.count, Pl.rst, HM.out, HX.out, if_pos ⟨by have := HN.out; omega, hqp⟩, ← hL2, ← HL1.out, HM.out, List.drop_drop]
      have HC := Lib.hid hcount
      have hs22 : ∀ W : World, (Instr.slice 22 (.slice (some ⟨b1, off1, none⟩) n1 cap1) (some (.int .i64 1)) none none).run Try.prog W = .ok (.slice hd2 n2 cap2) W := hs2
      have hqb : ((Pl.g L m).P == p) = true := by simpa using hqp
      obtain ⟨q, hqq⟩ : ∃ q, (Pl.g L m).P = q := ⟨_, rfl⟩
      rw [hqq] at hq hqb
      clear hcount hqp hqq hL2 hn2 hR2 hs2
      go_enter Try.func10, Try.ntmps10
      go_wp2_with fail
      refine (HV.out _ hRR.out).mono ?_
      rintro e w1 ⟨rfl, hb⟩
      go_wp2_with (go_at_call 19; refine (peer_true _ _ hp).mono ?_; rintro e w2 ⟨rfl, rfl⟩)
      refine (HF.out _ (hRR.out.below hb)).mono ?_
      rintro e w2 ⟨rfl, hb2⟩
      have B2 := B_trans hb hb2
      go_wp2_with fail
      refine (add_any _ x a _ (bk_two w2 x) hok).mono ?_
      rintro e w3 ⟨rfl, hT, hb3⟩
      have B3 : Below w2.heap.size w2 w3 := (B_alloc (B_alloc (Below.refl _ _) _) _).trans (hb3.mono (Nat.le_succ _))
      have BW := B_trans B2 B3
      have hR3 := Lib.hid (((hRR.out.below hb).below hb2).below B3)
      have hR13 := Lib.hid (((hR1'.out.below hb).below hb2).below B3)
      have hR23 := Lib.hid (((hR2'.out.below hb).below hb2).below B3)
      obtain ⟨y, hy⟩ : ∃ y, Pl.cnt x a = y := ⟨_, rfl⟩
      rw [hy] at hT
      have HY := Lib.hid hy
      clear hy
      obtain ⟨t0, t1, t2⟩ := hT.cells
      have hq3 := ((hb.trans (hb2.mono hb.size)).trans (B3.mono B2.size)).cell (p := ⟨b1, off1, none⟩) hb1 |>.trans hq.out
      clear hb3 B3 hb hb2 B2
      go_wp2_with fail
      have hRf := Lib.hid (front_cells hR3.out (show m ≤ L.length by have := HN.out; omega))
      have S1 := Lib.hid (front_none hR3.out (show m ≤ L.length by have := HN.out; omega))
      have S2 := Lib.hid (show (cl (L.take m)).length = m * 3 by rw [cl_len, List.length_take]; have := HN.out; omega)
      have S3 := Lib.hid (front_at hRf.out (Below.drew (B_alloc (Below.refl w3.heap.size w3) (.cells #[.int .i64 y.P, .int .i64 y.S, .int .i64 y.G] 32))))
      have S4 := Lib.hid (new_cells w3 y)
      have S5 := Lib.hid (new_one y)
      have S6 : Hid (m < m + 1) := Nat.lt_succ_self m
      have S7 := Lib.hid (show m + 1 ≤ maxLen by unfold maxLen; omega)
      have S8 := Lib.hid (show (m + 1) * 24 ≤ 140737488355328 by omega)
      have S10 := Lib.hid (show w3.heap.size ≤ (w3.alloc (.cells #[.int .i64 y.P, .int .i64 y.S, .int .i64 y.G] 32)).drew.heap.size by show w3.heap.size ≤ (w3.alloc _).heap.size; simp)
      have B4 := Lib.hid (Below.drew (B_alloc (Below.refl w3.heap.size w3) (.cells #[.int .i64 y.P, .int .i64 y.S, .int .i64 y.G] 32)))
      go_region_law (first
        | (refine step_append_grows rfl (.tmp 49) (.tmp 52) 22 rfl 32 i0 _ 3 24 Try.underlying22 hi hz0 hz1 hz2 rfl (by decide) hd m m (cl (L.take m)) (by simp [Act.eval]) S1.out S2.out S3.out ⟨w3.heap.size, 0, none⟩ 1 1 [.int .i64 y.P, .int .i64 y.S, .int .i64 y.G] (by simp [Act.eval]) rfl S4.out S5.out S6.out S7.out S8.out ?_; intro v1 w4 hown1 hg1; have B5 := Lib.hid (B4.out.grown hg1 B4.out.size (by simp)); have R4 := Lib.hid (hR23.out.below B5.out); have HOWN := Lib.hid hown1; have S9 := Lib.hid hg1.size; clear hown1 hg1)
        | (refine step_append_any _ rfl (.tmp 53) (.tmp 54) 22 rfl _ 32 i0 _ 3 24 Try.underlying22 hi hz0 hz1 hz2 rfl (by decide) v1 (m + 1) _ (by simp [Act.eval]) HOWN.out _ _ n2 cap2 (cl L2) (by simp [Act.eval]) (reads_n R4.out HN2.out) (cl_one L2) (by have := HN2.out; have := N60.out; unfold maxLen; omega) (by have := HN2.out; have := N60.out; omega) S9.out ?_; intro v2 w5 hown2 hg2 _))
      have B6 := B_trans BW (count_below HOWN.out S10.out B5.out hg2)
      have hrow : w5.ownsRow (w3.alloc (.cells #[.int .i64 y.P, .int .i64 y.S, .int .i64 y.G] 32)).drew.heap.size 32 3 v2 (Pl.count L p a).length (cl (Pl.count L p a)) := by
        have e1 : (Pl.count L p a).length = m + 1 + n2 := by rw [HC.out, List.length_append, List.length_take, List.length_cons, HN2.out]; have := HN.out; omega
        rw [e1, HC.out, HY.out, cl_app, cl_cons, ← List.append_assoc]
        exact hown2
      obtain ⟨hd', cap', rfl, hle, hrd⟩ := rd_own hrow
      clear hown2 hg2 hrow
      go_wp2_with fail
      go_ret2
      exact ⟨hd', cap', rfl, hle, hrd, B6⟩
    · have hqb : ((Pl.g L m).P == p) = false := by simpa using hqp
      obtain ⟨q, hqq⟩ : ∃ q, (Pl.g L m).P = q := ⟨_, rfl⟩
      rw [hqq] at hq hqb
      have N60 : Hid (n1 ≤ 60) := by show n1 ≤ 60; have := HN1M.out; omega
      have hcount : Pl.count L p a = L.take m ++ Pl.cnt x a :: L1 := by
        rw [Pl.count, Pl.rst, HM.out, HX.out, if_neg (fun h => hqp h.2), HL1.out.symm, HM.out]
      have HC := Lib.hid hcount
      clear hcount hqp hqq
      go_enter Try.func10, Try.ntmps10
      go_wp2_with fail
      refine (HV.out _ hRR.out).mono ?_
      rintro e w1 ⟨rfl, hb⟩
      go_wp2_with (go_at_call 19; refine (peer_true _ _ hp).mono ?_; rintro e w2 ⟨rfl, rfl⟩)
      refine (HF.out _ (hRR.out.below hb)).mono ?_
      rintro e w2 ⟨rfl, hb2⟩
      have B2 := B_trans hb hb2
      go_wp2_with fail
      refine (add_any _ x a _ (bk_two w2 x) hok).mono ?_
      rintro e w3 ⟨rfl, hT, hb3⟩
      have B3 : Below w2.heap.size w2 w3 := (B_alloc (B_alloc (Below.refl _ _) _) _).trans (hb3.mono (Nat.le_succ _))
      have BW := B_trans B2 B3
      have hR3 := Lib.hid (((hRR.out.below hb).below hb2).below B3)
      have hR13 := Lib.hid (((hR1'.out.below hb).below hb2).below B3)
      skip
      obtain ⟨y, hy⟩ : ∃ y, Pl.cnt x a = y := ⟨_, rfl⟩
      rw [hy] at hT
      have HY := Lib.hid hy
      clear hy
      obtain ⟨t0, t1, t2⟩ := hT.cells
      have hq3 := ((hb.trans (hb2.mono hb.size)).trans (B3.mono B2.size)).cell (p := ⟨b1, off1, none⟩) hb1 |>.trans hq.out
      clear hb3 B3 hb hb2 B2
      go_wp2_with fail
      have hRf := Lib.hid (front_cells hR3.out (show m ≤ L.length by have := HN.out; omega))
      have S1 := Lib.hid (front_none hR3.out (show m ≤ L.length by have := HN.out; omega))
      have S2 := Lib.hid (show (cl (L.take m)).length = m * 3 by rw [cl_len, List.length_take]; have := HN.out; omega)
      have S3 := Lib.hid (front_at hRf.out (Below.drew (B_alloc (Below.refl w3.heap.size w3) (.cells #[.int .i64 y.P, .int .i64 y.S, .int .i64 y.G] 32))))
      have S4 := Lib.hid (new_cells w3 y)
      have S5 := Lib.hid (new_one y)
      have S6 : Hid (m < m + 1) := Nat.lt_succ_self m
      have S7 := Lib.hid (show m + 1 ≤ maxLen by unfold maxLen; omega)
      have S8 := Lib.hid (show (m + 1) * 24 ≤ 140737488355328 by omega)
      have S10 := Lib.hid (show w3.heap.size ≤ (w3.alloc (.cells #[.int .i64 y.P, .int .i64 y.S, .int .i64 y.G] 32)).drew.heap.size by show w3.heap.size ≤ (w3.alloc _).heap.size; simp)
      have B4 := Lib.hid (Below.drew (B_alloc (Below.refl w3.heap.size w3) (.cells #[.int .i64 y.P, .int .i64 y.S, .int .i64 y.G] 32)))
      go_region_law (first
        | (refine step_append_grows rfl (.tmp 49) (.tmp 52) 22 rfl 32 i0 _ 3 24 Try.underlying22 hi hz0 hz1 hz2 rfl (by decide) hd m m (cl (L.take m)) (by simp [Act.eval]) S1.out S2.out S3.out ⟨w3.heap.size, 0, none⟩ 1 1 [.int .i64 y.P, .int .i64 y.S, .int .i64 y.G] (by simp [Act.eval]) rfl S4.out S5.out S6.out S7.out S8.out ?_; intro v1 w4 hown1 hg1; have B5 := Lib.hid (B4.out.grown hg1 B4.out.size (by simp)); have R4 := Lib.hid (hR13.out.below B5.out); have HOWN := Lib.hid hown1; have S9 := Lib.hid hg1.size; clear hown1 hg1)
        | (refine step_append_any _ rfl (.tmp 53) (.tmp 54) 22 rfl _ 32 i0 _ 3 24 Try.underlying22 hi hz0 hz1 hz2 rfl (by decide) v1 (m + 1) _ (by simp [Act.eval]) HOWN.out _ _ n1 cap1 (cl L1) (by simp [Act.eval]) (reads_n R4.out HN1.out) (cl_one L1) (by have := HN1.out; have := N60.out; unfold maxLen; omega) (by have := HN1.out; have := N60.out; omega) S9.out ?_; intro v2 w5 hown2 hg2 _))
      have B6 := B_trans BW (count_below HOWN.out S10.out B5.out hg2)
      have hrow : w5.ownsRow (w3.alloc (.cells #[.int .i64 y.P, .int .i64 y.S, .int .i64 y.G] 32)).drew.heap.size 32 3 v2 (Pl.count L p a).length (cl (Pl.count L p a)) := by
        have e1 : (Pl.count L p a).length = m + 1 + n1 := by rw [HC.out, List.length_append, List.length_take, List.length_cons, HN1.out]; have := HN.out; omega
        rw [e1, HC.out, HY.out, cl_app, cl_cons, ← List.append_assoc]
        exact hown2
      obtain ⟨hd', cap', rfl, hle, hrd⟩ := rd_own hrow
      clear hown2 hg2 hrow
      go_wp2_with fail
      go_ret2
      exact ⟨hd', cap', rfl, hle, hrd, B6⟩
  · have hn10 : n1 = 0 := by have := HN1M.out; omega
    have N60 : Hid (n1 ≤ 60) := by show n1 ≤ 60; omega
    have hcount : Pl.count L p a = L.take m ++ Pl.cnt x a :: L1 := by
      rw [Pl.count, Pl.rst, HM.out, HX.out, if_neg (fun h => hmn (by have := HN.out; omega)), HL1.out.symm, HM.out]
    have HC := Lib.hid hcount
    have hni : ¬ (0 : Int) < (n1 : Int) := by omega
    have hnb : decide ((0 : Int) < (n1 : Int)) = false := by simpa using hn10
    have hnc : decide (0 < n1) = false := by simpa using hn10
    have HZ := Lib.hid hn10
    clear hcount hn10
    go_enter Try.func10, Try.ntmps10
    go_wp2_with fail
    refine (HV.out _ hRR.out).mono ?_
    rintro e w1 ⟨rfl, hb⟩
    go_wp2_with (go_at_call 19; refine (peer_true _ _ hp).mono ?_; rintro e w2 ⟨rfl, rfl⟩)
    refine (HF.out _ (hRR.out.below hb)).mono ?_
    rintro e w2 ⟨rfl, hb2⟩
    have B2 := B_trans hb hb2
    go_wp2_with fail
    refine (add_any _ x a _ (bk_two w2 x) hok).mono ?_
    rintro e w3 ⟨rfl, hT, hb3⟩
    have B3 : Below w2.heap.size w2 w3 := (B_alloc (B_alloc (Below.refl _ _) _) _).trans (hb3.mono (Nat.le_succ _))
    have BW := B_trans B2 B3
    have hR3 := Lib.hid (((hRR.out.below hb).below hb2).below B3)
    have hR13 := Lib.hid (((hR1'.out.below hb).below hb2).below B3)
    skip
    obtain ⟨y, hy⟩ : ∃ y, Pl.cnt x a = y := ⟨_, rfl⟩
    rw [hy] at hT
    have HY := Lib.hid hy
    clear hy
    obtain ⟨t0, t1, t2⟩ := hT.cells
    skip
    clear hb3 B3 hb hb2 B2
    go_wp2_with fail
    have hRf := Lib.hid (front_cells hR3.out (show m ≤ L.length by have := HN.out; omega))
    have S1 := Lib.hid (front_none hR3.out (show m ≤ L.length by have := HN.out; omega))
    have S2 := Lib.hid (show (cl (L.take m)).length = m * 3 by rw [cl_len, List.length_take]; have := HN.out; omega)
    have S3 := Lib.hid (front_at hRf.out (Below.drew (B_alloc (Below.refl w3.heap.size w3) (.cells #[.int .i64 y.P, .int .i64 y.S, .int .i64 y.G] 32))))
    have S4 := Lib.hid (new_cells w3 y)
    have S5 := Lib.hid (new_one y)
    have S6 : Hid (m < m + 1) := Nat.lt_succ_self m
    have S7 := Lib.hid (show m + 1 ≤ maxLen by unfold maxLen; omega)
    have S8 := Lib.hid (show (m + 1) * 24 ≤ 140737488355328 by omega)
    have S10 := Lib.hid (show w3.heap.size ≤ (w3.alloc (.cells #[.int .i64 y.P, .int .i64 y.S, .int .i64 y.G] 32)).drew.heap.size by show w3.heap.size ≤ (w3.alloc _).heap.size; simp)
    have B4 := Lib.hid (Below.drew (B_alloc (Below.refl w3.heap.size w3) (.cells #[.int .i64 y.P, .int .i64 y.S, .int .i64 y.G] 32)))
    go_region_law (first
      | (refine step_append_grows rfl (.tmp 49) (.tmp 52) 22 rfl 32 i0 _ 3 24 Try.underlying22 hi hz0 hz1 hz2 rfl (by decide) hd m m (cl (L.take m)) (by simp [Act.eval]) S1.out S2.out S3.out ⟨w3.heap.size, 0, none⟩ 1 1 [.int .i64 y.P, .int .i64 y.S, .int .i64 y.G] (by simp [Act.eval]) rfl S4.out S5.out S6.out S7.out S8.out ?_; intro v1 w4 hown1 hg1; have B5 := Lib.hid (B4.out.grown hg1 B4.out.size (by simp)); have R4 := Lib.hid (hR13.out.below B5.out); have HOWN := Lib.hid hown1; have S9 := Lib.hid hg1.size; clear hown1 hg1)
      | (refine step_append_any _ rfl (.tmp 53) (.tmp 54) 22 rfl _ 32 i0 _ 3 24 Try.underlying22 hi hz0 hz1 hz2 rfl (by decide) v1 (m + 1) _ (by simp [Act.eval]) HOWN.out _ _ n1 cap1 (cl L1) (by simp [Act.eval]) (reads_n R4.out HN1.out) (cl_one L1) (by have := HN1.out; have := N60.out; unfold maxLen; omega) (by have := HN1.out; have := N60.out; omega) S9.out ?_; intro v2 w5 hown2 hg2 _))
    have B6 := B_trans BW (count_below HOWN.out S10.out B5.out hg2)
    have hrow : w5.ownsRow (w3.alloc (.cells #[.int .i64 y.P, .int .i64 y.S, .int .i64 y.G] 32)).drew.heap.size 32 3 v2 (Pl.count L p a).length (cl (Pl.count L p a)) := by
      have e1 : (Pl.count L p a).length = m + 1 + n1 := by rw [HC.out, List.length_append, List.length_take, List.length_cons, HN1.out]; have := HN.out; omega
      rw [e1, HC.out, HY.out, cl_app, cl_cons, ← List.append_assoc]
      exact hown2
    obtain ⟨hd', cap', rfl, hle, hrd⟩ := rd_own hrow
    clear hown2 hg2 hrow
    go_wp2_with fail
    go_ret2
    exact ⟨hd', cap', rfl, hle, hrd, B6⟩
end Go.Proofs.Ytakkngdnpbgoiaa
