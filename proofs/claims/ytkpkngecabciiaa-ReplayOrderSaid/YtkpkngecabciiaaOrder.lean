/-
  Counters that lie near each other are all noted, in whatever order, and the window is the same: the walks of 'all' and ReplayOrder. Conditions: none.
-/
import Derived.Test.YtkpkngecabciiaaOld
import Derived.Test.YtkpkngecabciiaaOrderPlain
import Derived.Deep.AppendLies
import Derived.Deep.RegionHeld3
import Derived.Deep.RegionLaw
import Derived.BigQuiet
namespace Go.Proofs.Ytkpkngecabciiaa
open Go.RowKit

theorem Win.far2 {w : World} {g g2 : Nat} {a b : Value} (h : Win w g a b) (hg : g ≠ g2) (x y : Value) : Win ((w.setCell ⟨g2, 0, none⟩ x).setCell ⟨g2, 1, none⟩ y) g a b := by
  unfold Win
  rw [Below.heap_setCell _ ⟨g2, 1, none⟩ _ _ hg, Below.heap_setCell _ ⟨g2, 0, none⟩ _ _ hg]
  exact h
set_option maxHeartbeats 2000000 in
theorem all_any (L : List Int) (base : Nat) (v : Value) (w : World) (hL : Pl.Near L) (hrow0 : Row base w v L) :
    Calls Try.prog 17 #[.agg #[.int .i64 0, .int .u64 0], v] w fun e w' => ∃ (t : Int) (b : Nat), e = .returned (.tuple #[.agg #[.int .i64 t, .int .u64 b], .bool true]) ∧ Pl.After L t b ∧ Below w.heap.size w w' := by
  rcases hrow0.forms with ⟨rfl, hz⟩ | ⟨g, cp, rfl⟩
  · have hLn : L = [] := List.length_eq_zero_iff.1 hz
    subst hLn
    go_enter Try.func17, Try.ntmps17
    go_wp2_with fail
    refine wp_loop_rounds 1 ?_
    rw [rounds_succ]
    obtain ⟨k0, k1⟩ := two_new w (.int .i64 0) (.int .u64 0) (.int .i64 0) (.int .u64 0)
    obtain ⟨c0, c1, -, -⟩ := k0.all
    obtain ⟨x0, x1, xf0, xf1⟩ := k1.all
    have B := B_alloc (Joins.below_alloc1 w (.cells #[.int .i64 0, .int .u64 0] 24)) (.cells #[.int .i64 0, .int .u64 0] 24)
    go_wp2_with fail
    refine bodyPost_ret (v := .tuple #[.agg #[.int .i64 0, .int .u64 0], .bool true]) (by simp [results, Try.results17, go_sem]) rfl ⟨0, 0, rfl, Pl.after_nil, ?_⟩
    exact B
  · have hll := hrow0.len_le
    obtain ⟨k0, k1⟩ := two_new w (.int .i64 0) (.int .u64 0) (.int .i64 0) (.int .u64 0)
    have B := B_alloc (Joins.below_alloc1 w (.cells #[.int .i64 0, .int .u64 0] 24)) (.cells #[.int .i64 0, .int .u64 0] 24)
    go_enter Try.func17, Try.ntmps17
    go_wp2_with fail
    go_loopw [12] (fun i wr => ∃ k : Nat, k ≤ L.length ∧ i = .int .i64 k ∧ ∃ (T : Int) (Bt : Nat), Win wr w.heap.size (.int .i64 T) (.int .u64 Bt) ∧ Win wr (w.heap.size + 1) (.int .i64 0) (.int .u64 0) ∧ Pl.After (L.take k) T Bt ∧ Below w.heap.size w wr)
      (fun i _ => L.length - (intOf i).toNat)
    case atStart => exact ⟨0, by omega, rfl, 0, 0, k0, k1, Pl.after_nil, B⟩
    case round =>
      clear k0 k1 B
      obtain ⟨k, hk, rfl, T, Bt, k0, k1, hA, B⟩ := hrel
      obtain ⟨c0, c1, f0, f1⟩ := k0.all
      by_cases hlt : k < L.length
      · have HF := Lib.hid (Pl.after_fresh hL hlt hA)
        have hcx := (hrow0.below B).cell hlt
        have HA := Lib.hid (Pl.after_step hlt hA HF.out)
        have hlt2 := Pl.nbits_lt (b := Bt) (Pl.fresh_bd HF.out).1
        have HN := Lib.hid (note_r T Bt (L[k]?.getD 0) · hA.agree.lt hA.agree.valid (Pl.fresh_bd HF.out).2.2.2)
        generalize L[k]?.getD 0 = X at *
        go_wp2_with fail
        refine (HN.out _).mono ?_
        rintro e w4 (⟨hf2, rfl, hb4⟩ | ⟨hf2, -, -⟩)
        · generalize max T X = T2 at *
          generalize Pl.nbits T Bt X = B2 at *
          replace k0 := (k0.below hb4).alloc (.cells #[.int .i64 T2, .int .u64 (B2 : Nat)] 24)
          replace k1 := (k1.below hb4).alloc (.cells #[.int .i64 T2, .int .u64 (B2 : Nat)] 24)
          have k2 := Win.new w4 (.int .i64 T2) (.int .u64 (B2 : Nat))
          replace B := B_alloc (B_trans B hb4) (.cells #[.int .i64 T2, .int .u64 (B2 : Nat)] 24)
          clear c0 c1 f0 f1 hcx hf2
          obtain ⟨c0, c1, f0, f1⟩ := k0.all
          obtain ⟨d0, d1, -, -⟩ := k2.all
          go_wp2_with fail
          go_roundw
          case rel => exact ⟨k + 1, by omega, by go_num, T2, B2, k0.set2 _ _, k1.far2 (by omega) _ _, HA.out, B_set2 B (Nat.le_refl _) _ _⟩
          all_goals first | (simp [intOf]; done) | (simp [intOf]; omega)
        · rw [HF.out] at hf2; cases hf2
      · obtain ⟨x0, x1, xf0, xf1⟩ := k1.all
        obtain rfl : k = L.length := by omega
        rw [List.take_length] at hA
        have hX2 := k1.lt
        go_wp2_with fail
        refine bodyPost_ret (v := .tuple #[.agg #[.int .i64 T, .int .u64 (Bt : Nat)], .bool true]) (by simp [results, Try.results17, go_sem, x0, x1]) rfl ⟨T, Bt, rfl, hA, ?_⟩
        exact B_set2 B (by omega) _ _

/-- An append onto a row of the call's own, at a step of a region that draws its order; nothing may be appended, too. -/
theorem step_append_any {P : Program} {w : World} {ops : Array Oper} {o : Oper} {a : Act} {K : Act → World → Prop} {Q : Exit → Act → World → Prop} {E : Prop} (hgd : o.guard = none) (s x : Operand) (t : TypeId)
    (ho : o.op = .call { callee := .builtin .append, args := #[s, x], argTypes := #[t, t] })
    (base : Nat) (e : TypeId) (i : TypeInfo) (z : Value) (size bytes : Nat) (ht : P.underlying t = some (.slice e)) (hi : P.info? e = some i) (hz : i.zero = some z)
    (hsize : i.size = size) (hby : i.bytes = bytes) (hzs : z.cells.size = size) (hsz : 0 < size)
    (v : Value) (n : Nat) (xs : List Value) (hs : a.eval s = v) (hown : w.ownsRow base e size v n xs)
    (ad : Addr) (m c : Nat) (news : List Value) (hx : a.eval x = .slice (some ad) m c) (hl : news.length = m * size) (hnews : ∀ j u, news[j]? = some u → w.cell? (ad.add j) = some u) (h1 : ∀ u ∈ news, u.oneCell' = true)
    (h63 : n + m ≤ maxLen) (hbytes : (n + m) * bytes ≤ 140737488355328) (hbase : base ≤ w.heap.size)
    (h : ∀ v' w', w'.ownsRow base e size v' (n + m) (xs ++ news) → w.grownBy w' v.ownBlock → K (a.put o.dst v') w') :
    if Region.wanted o (yielded ops a.tmps) = true then Oper.wp P o a w K Q else E := by
  have hw : Region.wanted o (yielded ops a.tmps) = true := by simp [Region.wanted, hgd]
  rw [if_pos hw]
  obtain ⟨v', w', hr, h2, h3, _, _⟩ := run_append_own_at (P := P) w base t o.type e i z size bytes ht hi hz hsize hby hzs hsz v n xs hown ad m c news hl hnews h1 h63 hbytes hbase
  unfold Oper.wp execOp
  simp only [ho, resolve, invoke, builtin, Sem.run_bind, Sem.run_pure, Result.andThen_ok, List.map_toArray, List.map_cons, List.map_nil, hs, hx, hr]
  exact h v' w' h2 h3
theorem B_grown {w wr w' : World} {base : Nat} {v : Value} {n : Nat} {xs : List Value} (h : Below w.heap.size w wr) (hg : wr.grownBy w' v.ownBlock) (hb : w.heap.size ≤ base) {e : TypeId} {size : Nat} (ho : wr.ownsRow base e size v n xs) : Below w.heap.size w w' :=
  h.grown hg h.size (fun j hj => Nat.le_trans hb (World.ownsRow.lt ho j hj).1)
theorem rev_drop {L : List Int} {p : Nat} (h : p < L.length) : (L.drop p).reverse = (L.drop (p + 1)).reverse ++ [L[p]?.getD 0] := by
  rw [List.drop_eq_getElem_cons h, List.getElem?_eq_getElem h, Option.getD_some, List.reverse_cons]
theorem Row.le_cap {base g cap : Nat} {w : World} {xs : List Int} (h : Row base w (.slice (some ⟨g, 0, none⟩) xs.length cap) xs) : xs.length ≤ cap := by
  obtain ⟨_, ⟨h1, _⟩ | ⟨g', cap', cur, h1, _, _, h2, h3, _⟩⟩ := h
  · cases h1
  · cases h1; exact h2
theorem Row.cap_le {base g cap : Nat} {w : World} {xs : List Int} (h : Row base w (.slice (some ⟨g, 0, none⟩) xs.length cap) xs) : cap ≤ 9223372036854775807 := by
  obtain ⟨_, ⟨h1, _⟩ | ⟨g', cap', cur, h1, _, _, h2, h3, _⟩⟩ := h
  · cases h1
  · cases h1; unfold maxLen at h3; omega
theorem row_drop {base g cap : Nat} {wr w5 : World} {L : List Int} (h : Row base wr (.slice (some ⟨g, 0, none⟩) L.length cap) L) (hb : Below wr.heap.size wr w5) (K : Nat) :
    ∀ j u, ((L.drop K).map (Value.int .i64))[j]? = some u → w5.cell? ((⟨g, K, none⟩ : Addr).add j) = some u := by
  intro j u hu
  rw [List.getElem?_map, List.getElem?_drop] at hu
  have hlt : K + j < L.length := by
    rcases Nat.lt_or_ge (K + j) L.length with h1 | h1
    · exact h1
    · rw [List.getElem?_eq_none h1] at hu; cases hu
  rw [List.getElem?_eq_getElem hlt] at hu
  simp only [Option.map_some, Option.some.injEq] at hu
  rw [Go.WideShapes.add_plain]
  have hc := (h.below hb).cell hlt
  rw [List.getElem?_eq_getElem hlt, Option.getD_some] at hc
  rw [hc, hu]
theorem row_take {base g cap : Nat} {wr w5 : World} {L : List Int} (h : Row base wr (.slice (some ⟨g, 0, none⟩) L.length cap) L) (hb : Below wr.heap.size wr w5) (K : Nat) :
    ∀ j u, ((L.take K).map (Value.int .i64))[j]? = some u → w5.cell? ((⟨g, 0, none⟩ : Addr).add j) = some u := by
  intro j u hu
  have e : (L.map (Value.int .i64))[j]? = some u := by
    rw [List.getElem?_map, List.getElem?_take] at hu
    split at hu
    · rw [List.getElem?_map]; exact hu
    · cases hu
  have := row_drop h hb 0 j u (by rw [List.drop_zero]; exact e)
  exact this
theorem ints_one {L : List Int} : ∀ u ∈ L.map (Value.int .i64), u.oneCell' = true := by
  intro u hu
  obtain ⟨x, _, rfl⟩ := List.mem_map.1 hu
  rfl

set_option maxHeartbeats 4000000 in
theorem order_walk (f : Int) (s : Nat) (U : Nat) (w : World) (hf0 : 0 ≤ f) (hf1 : f ≤ 65535) (hs : s < 2 ^ 64) (hu1 : U ≤ 255) :
    Calls Try.prog 5 #[.int .u16 f, .int .u64 s, .int .u8 U] w fun e w' => e = .returned (.bool true) ∧ Below w.heap.size w w' := by
  obtain ⟨i0, hi, hz0, hz1, hz2⟩ := info_parts Try.info3
  go_enter Try.func5, Try.ntmps5
  go_wp2_with fail
  refine (head_any _).mono ?_
  rintro e w1 ⟨rfl, B⟩
  go_wp2_with fail
  go_loopw [8, 21] (fun v i wr => ∃ k : Nat, k ≤ 64 ∧ i = .int .i64 k ∧ Row w1.heap.size wr v (Pl.ords f s k) ∧ Below w1.heap.size w1 wr)
    (fun _ i _ => 64 - (intOf i).toNat)
  case atStart => exact ⟨0, by omega, rfl, World.ownsRow_nil _ _ _ _, Below.refl _ _⟩
  case round =>
    obtain ⟨k, hk, rfl, hown, B1⟩ := hrel
    by_cases hlt : k < 64
    · have hsp := Pl.bit_spell s hs k
      cases hbit : s.testBit k
      · rw [hbit] at hsp
        have HB := Lib.hid hbit
        clear hbit
        go_wp2_with fail
        go_roundw
        case rel => exact ⟨k + 1, by omega, by go_num, by rw [Pl.ords_no HB.out]; exact hown, B1⟩
        all_goals first | (simp [intOf]; done) | (simp [intOf]; omega)
      · rw [hbit] at hsp
        have HB := Lib.hid hbit
        clear hbit
        have hll := Pl.ords_len f s k
        have hzz := B1.size
        go_wp2_with (first
          | (at_builtin; refine wpList_append_own _ rfl _ _ 33 rfl w1.heap.size 3 i0 (.int .i64 0) 1 8 Try.underlying33 hi hz0 hz1 hz2 rfl (by decide) _ _ _ rfl (World.ownsRow.alloc hown _) ⟨wr.heap.size, 0, none⟩ 1 1 [_] rfl rfl (cell_one_new _ _ _) (by intro u hu; simp at hu; subst hu; rfl) (by unfold maxLen; omega) (by omega) (by simp; omega) ?_))
        intro v' w2 hown1 hgrow _
        have B2 := B_grown (B_alloc B1 _) hgrow (Nat.le_refl _) (World.ownsRow.alloc hown _)
        have hrow := row_app hown1
        clear hown1 hgrow
        go_wp2_with fail
        go_roundw
        case rel => exact ⟨k + 1, by omega, by go_num, by rw [Pl.ords_yes HB.out]; exact hrow, B2⟩
        all_goals first | (simp [intOf]; done) | (simp [intOf]; omega)
    · have e64 : Pl.ords f s k = Pl.ords f s 64 := by rw [show k = 64 by omega]
      rw [e64] at hown
      clear e64
      have hN := Pl.ords_near (s := s) hf0 hf1
      have hLast := fun t b => Pl.ords_last (f := f) (s := s) (k := 64) (t := t) (b := b)
      have hL64 := Pl.ords_len f s 64
      have HLast := Lib.hid hLast
      have HN := Lib.hid hN
      clear hN hLast
      generalize Pl.ords f s 64 = L at *
      replace B := B_trans B B1
      have hcd : hown.forms = hown.forms := rfl
      clear hcd
      rcases hown.forms with ⟨rfl, hz⟩ | ⟨g, cp, rfl⟩
      · go_wp2_with fail
        go_ret
        exact ⟨rfl, B⟩
      · by_cases h0 : L.length = 0
        · have h00 : ((L.length : Int) == 0) = true := by rw [h0]; rfl
          go_wp2_with fail
          go_ret
          exact ⟨rfl, B⟩
        · have h00 : ((L.length : Int) == 0) = false := by rw [beq_eq_false_iff_ne]; omega
          have hrow := hown
          clear hown B1
          obtain ⟨wo, rfl⟩ : ∃ wo : World, wo = wr := ⟨_, rfl⟩
          have hgo := (World.ownsRow.lt hrow g rfl).2
          go_wp2_with fail
          go_loopw [9, 11] (fun v i wr => ∃ m : Nat, m ≤ L.length ∧ i = .int .i64 ((m : Int) - 1) ∧ Row wo.heap.size wr v (L.drop m).reverse ∧ Below wo.heap.size wo wr)
            (fun _ i _ => (intOf i + 1).toNat)
          case atStart => exact ⟨L.length, by omega, rfl, by rw [List.drop_length]; exact World.ownsRow_nil _ _ _ _, Below.refl _ _⟩
          case round =>
            obtain ⟨m, hm, rfl, hown, B1⟩ := hrel
            cases m with
            | succ p =>
              have e1 : ((p + 1 : Nat) : Int) - 1 = (p : Int) := by omega
              rw [e1]
              have hcx := (hrow.below B1).cell (k := p) (by omega)
              have hrev := rev_drop (L := L) (p := p) (by omega)
              have HR := Lib.hid hrev
              clear hrev e1
              have hll2 : (L.drop (p + 1)).reverse.length ≤ 64 := by simp; omega
              have hzz := B1.size
              generalize L[p]?.getD 0 = X at *
              generalize (L.drop (p + 1)).reverse = R at *
              go_wp2_with (first
                | (at_builtin; refine wpList_append_own _ rfl _ _ 33 rfl wo.heap.size 3 i0 (.int .i64 0) 1 8 Try.underlying33 hi hz0 hz1 hz2 rfl (by decide) _ _ _ rfl (World.ownsRow.alloc hown _) ⟨wr.heap.size, 0, none⟩ 1 1 [_] rfl rfl (cell_one_new _ _ _) (by intro u hu; simp at hu; subst hu; rfl) (by unfold maxLen; omega) (by omega) (by simp; omega) ?_))
              intro v' w2 hown1 hgrow _
              have B2 := B_grown (B_alloc B1 _) hgrow (Nat.le_refl _) (World.ownsRow.alloc hown _)
              have hr2 := row_app hown1
              clear hown1 hgrow
              go_wp2_with fail
              go_roundw
              case rel => exact ⟨p, by omega, rfl, by rw [HR.out]; exact hr2, B2⟩
              all_goals first | (simp [intOf]; done) | (simp [intOf]; omega)
            | zero =>
              have hback := hown
              rw [List.drop_zero] at hback
              have hlr := hrow.below B1
              replace B := B_trans B B1
              clear hown
              have hlp : 0 < (L.length : Int) := by omega
              have h63 : (L.length : Int) ≤ 64 := by omega
              have hk1 : (U : Int) % (L.length : Int) = ((U % L.length : Nat) : Int) := by omega
              have hk2 : U % L.length < L.length := Nat.mod_lt _ (by omega)
              go_wp2_with fail
              rw [hk1]
              clear hk1
              generalize U % L.length = K at *
              have hcp := Row.le_cap hrow
              have hcp2 := Row.cap_le hrow
              have g1 : (0 : Int) ≤ (K : Int) := by omega
              have g2 : (K : Int) ≤ (L.length : Int) := by omega
              have g3 : (L.length : Int) ≤ (cp : Int) := by omega
              have r0 : World.ownsRow ((wr.alloc (.cells #[] 3)).drew) wr.heap.size 3 1 (.slice (some ⟨wr.heap.size, 0, none⟩) 0 0) 0 [] := World.ownsRow_lit wr #[] 0 (Nat.le_refl _) (by unfold maxLen; omega) rfl
              have g4 : (K : Int) ≤ (cp : Int) := by omega
              have hne : ¬ cp = K := by omega
              have B4 := (Joins.below_alloc1 wr (.cells #[] 3)).drew
              have n1 := row_drop hlr B4 K
              go_region_law ((first
                | (refine step_append_any (by rfl) (.tmp 61) (.tmp 64) 33 (by rfl) wr.heap.size 3 i0 (.int .i64 0) 1 8 Try.underlying33 hi hz0 hz1 hz2 rfl (by decide) _ 0 [] (by rfl) r0 ⟨g, K, none⟩ (L.length - K) (cp - K) ((L.drop K).map (Value.int .i64)) (by rfl) (by simp) n1 ints_one (by unfold maxLen; omega) (by omega) (by simp) ?_; intro v1 w5 hown5 hgrow5; have B5 := B_grown (w := wr) B4 hgrow5 (Nat.le_refl _) r0; have n2 := row_take hlr B5 K)
                | (refine step_append_any (by rfl) (.tmp 65) (.tmp 68) 33 (by rfl) wr.heap.size 3 i0 (.int .i64 0) 1 8 Try.underlying33 hi hz0 hz1 hz2 rfl (by decide) _ _ _ (by rfl) hown5 ⟨g, 0, none⟩ K cp ((L.take K).map (Value.int .i64)) (by rfl) (by simp; omega) n2 ints_one (by unfold maxLen; omega) (by omega) B5.size ?_; intro v2 w6 hown6 hgrow6; have B6 := B_grown (w := wr) B5 hgrow6 (Nat.le_refl _) hown5)))
              have hturn : Row wr.heap.size w6 v2 (L.drop K ++ L.take K) := by
                have e : 0 + (L.length - K) + K = (L.drop K ++ L.take K).length := by simp; omega
                have e2 : [] ++ (L.drop K).map (Value.int .i64) ++ (L.take K).map (Value.int .i64) = (L.drop K ++ L.take K).map (Value.int .i64) := by simp
                unfold Row
                rw [← e, ← e2]
                exact hown6
              replace hlr := hlr.below B6
              replace hback := hback.below B6
              replace B := B_trans B B6
              clear hown6 hgrow6 hown5 hgrow5 n1 n2 r0 B4 B5 B6 hrow
              go_wp2_with fail
              refine (all_any L _ _ _ HN.out hlr).mono ?_
              rintro e w7 ⟨t, b, rfl, hA1, hb7⟩
              have k1 := Win.new w7 (.int .i64 t) (.int .u64 (b : Nat))
              replace hlr := (hlr.below hb7).alloc (.cells #[.int .i64 t, .int .u64 (b : Nat)] 24)
              replace hback := (hback.below hb7).alloc (.cells #[.int .i64 t, .int .u64 (b : Nat)] 24)
              replace hturn := (hturn.below hb7).alloc (.cells #[.int .i64 t, .int .u64 (b : Nat)] 24)
              replace B := B_alloc (B_trans B hb7) (.cells #[.int .i64 t, .int .u64 (b : Nat)] 24)
              go_wp2_with fail
              refine (all_any L.reverse _ _ _ (Pl.near_of HN.out ((List.reverse_perm L).nodup_iff.2 HN.out.nodup) (by simp)) hback).mono ?_
              rintro e w8 ⟨t2, b2, rfl, hA2, hb8⟩
              obtain ⟨rfl, rfl⟩ := Pl.after_unique (by simp) hA1 hA2
              replace k1 := (k1.below hb8).alloc (.cells #[.int .i64 t, .int .u64 (b : Nat)] 24)
              have k2 := Win.new w8 (.int .i64 t) (.int .u64 (b : Nat))
              replace hlr := (hlr.below hb8).alloc (.cells #[.int .i64 t, .int .u64 (b : Nat)] 24)
              replace hturn := (hturn.below hb8).alloc (.cells #[.int .i64 t, .int .u64 (b : Nat)] 24)
              replace B := B_alloc (B_trans B hb8) (.cells #[.int .i64 t, .int .u64 (b : Nat)] 24)
              go_wp2_with fail
              refine (all_any (L.drop K ++ L.take K) _ _ _ (Pl.near_of HN.out (Pl.nodup_turn HN.out.nodup K) (Pl.mem_turn L K)) hturn).mono ?_
              rintro e w9 ⟨t3, b3, rfl, hA3, hb9⟩
              obtain ⟨rfl, rfl⟩ := Pl.after_unique (fun x => (Pl.mem_turn L K x).symm) hA1 hA3
              replace k1 := (k1.below hb9).alloc (.cells #[.int .i64 t, .int .u64 (b : Nat)] 24)
              replace k2 := (k2.below hb9).alloc (.cells #[.int .i64 t, .int .u64 (b : Nat)] 24)
              have k3 := Win.new w9 (.int .i64 t) (.int .u64 (b : Nat))
              replace hlr := (hlr.below hb9).alloc (.cells #[.int .i64 t, .int .u64 (b : Nat)] 24)
              replace B := B_alloc (B_trans B hb9) (.cells #[.int .i64 t, .int .u64 (b : Nat)] 24)
              have hcl := hlr.cell (k := L.length - 1) (by omega)
              rw [← HLast.out t b (by omega) hA1] at hcl
              obtain ⟨a0, a1, -, -⟩ := k1.all
              obtain ⟨b0, b1, -, -⟩ := k2.all
              obtain ⟨c0, c1, -, -⟩ := k3.all
              clear hA1 hA2 hA3 hback hturn
              go_wp2_with fail
              have hwr : IntKind.i64.wrap ((L.length : Int) - 1) = (L.length : Int) - 1 := IntWalk.i64_in _ (by omega)
              have hnn : (0 : Int) ≤ (L.length : Int) - 1 := by omega
              have hlt9 : (L.length : Int) - 1 < (L.length : Int) := by omega
              have htn : ((L.length : Int) - 1).toNat = L.length - 1 := by omega
              go_quiet (fail)
              go_wp2_with fail
              go_ret
              exact ⟨rfl, B.trans (Joins.below_draws _ _ _)⟩
theorem order_law (f s u : Int) (w : World) (hf : (Lit.int .u16 f).wf = true) (hs : (Lit.int .u64 s).wf = true) (hu : (Lit.int .u8 u).wf = true) :
    Calls Try.prog 5 #[.int .u16 f, .int .u64 s, .int .u8 u] w fun e w' => e = .returned (.bool true) ∧ Below w.heap.size w w' := by
  obtain ⟨s, rfl, h⟩ := u64_nat hs
  have h1 := bounds_u16 hf
  have h2 := bounds_u8 hu
  obtain ⟨U, rfl⟩ := Int.eq_ofNat_of_zero_le h2.1
  exact order_walk f s U w h1.1 h1.2 h (by omega)
end Go.Proofs.Ytkpkngecabciiaa
