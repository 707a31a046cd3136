/-
  The reference's Count makes the same list as link.Count. Conditions: none.
-/
import Derived.Test.YtakkngdnpbgoiaaHead
import Derived.Test.YtakkngdnpbgoiaaPlain3
namespace Go.Proofs.Ytakkngdnpbgoiaa
open Go.RowKit

namespace Pl
/-- What the inner loop has added before index i. -/
def inn (L : List Lk) (k : Int) (i : Nat) : List Lk := if Here L k ∧ fnd L k < i then [of L k] else []
theorem inn_zero (L : List Lk) (k : Int) : inn L k 0 = [] := if_neg (fun h => by have := h.2; omega)
theorem inn_hit {L : List Lk} (h : Vld L) {k : Int} {i : Nat} (hi : i < L.length) (e : (g L i).P = k) : inn L k i = [] ∧ inn L k (i + 1) = [of L k] := by
  obtain ⟨h1, h2⟩ := (here_at h hi).1 e
  exact ⟨if_neg (fun h => by have := h.2; omega), if_pos ⟨h1, by omega⟩⟩
theorem inn_miss {L : List Lk} (h : Vld L) {k : Int} {i : Nat} (hi : i < L.length) (e : (g L i).P ≠ k) : inn L k (i + 1) = inn L k i := by
  unfold inn
  by_cases hh : Here L k
  · have : fnd L k ≠ i := fun h2 => e ((here_at h hi).2 ⟨hh, h2⟩)
    by_cases h3 : fnd L k < i
    · rw [if_pos ⟨hh, by omega⟩, if_pos ⟨hh, h3⟩]
    · rw [if_neg (fun x => by have := x.2; omega), if_neg (fun x => h3 x.2)]
  · rw [if_neg (fun x => hh x.1), if_neg (fun x => hh x.1)]
theorem inn_end {L : List Lk} (p : Int) (a : Bool) {k : Nat} (hne : (k : Int) ≠ p) : inn L k L.length = ent L p a k := by
  rw [inn, ent, if_neg hne]
  by_cases hh : Here L k
  · rw [if_pos hh, if_pos ⟨hh, hh.1⟩]
  · rw [if_neg hh, if_neg (fun x => hh x.1)]
theorem inn_len (L : List Lk) (k : Int) (i : Nat) : (inn L k i).length ≤ 1 := by unfold inn; split <;> simp
end Pl

/-- append(out, y), under names. -/
theorem wpList_app1 {ops : Array Oper} {rest : List Oper} {o : Oper} {a : Act} {w : World} {Q : Exit → Act → World → Prop} {i0 : TypeInfo} (hi : Try.prog.info? 32 = some i0) (hz0 : i0.zero = some (.agg #[.int .i64 0, .int .i64 0, .int .i64 0])) (hz1 : i0.size = 3) (hz2 : i0.bytes = 24)
    (hgd : o.guard = none) (s x : Operand) (ho : o.op = .call { callee := .builtin .append, args := #[s, x], argTypes := #[22, 22] })
    (base : Nat) (X : List Lk) (v : Value) (hs : a.eval s = v) (hown : w.ownsRow base 32 3 v X.length (cl X))
    (g : Nat) (y : Lk) (hx : a.eval x = .slice (some ⟨g, 0, none⟩) 1 1) (hy : Bk w g 32 y) (h60 : X.length ≤ 1000) (hbase : base ≤ w.heap.size)
    (h : ∀ v' w', w'.ownsRow base 32 3 v' (X ++ [y]).length (cl (X ++ [y])) → w.grownBy w' v.ownBlock → (v'.ownBlock = v.ownBlock ∨ v'.ownBlock = some w.heap.size) → wpList Try.prog ops Q rest (a.put o.dst v') w') : wpList Try.prog ops Q (o :: rest) a w := by
  have hr : Reads w (g + 1) 3 (some ⟨g, 0, none⟩) 1 (cl [y]) := by
    obtain ⟨c0, c1, c2⟩ := hy.cells
    refine ⟨by rw [cl_len]; rfl, fun _ => ⟨_, rfl, Nat.lt_succ_self g, fun j u hu => ?_⟩⟩
    rw [add3, Nat.zero_add]
    have hj : j < 3 := (List.getElem?_eq_some_iff.1 hu).1
    rcases (show j = 0 ∨ j = 1 ∨ j = 2 by omega) with rfl | rfl | rfl
    · rw [c0]; exact hu
    · rw [c1]; exact hu
    · rw [c2]; exact hu
  refine wpList_append_any _ hgd s x 22 ho base 32 i0 _ 3 24 Try.underlying22 hi hz0 hz1 hz2 rfl (by decide) v X.length (cl X) hs hown (g + 1) (some ⟨g, 0, none⟩) 1 1 (cl [y]) hx hr (cl_one [y]) (by unfold maxLen; omega) (by omega) hbase ?_
  intro v' w' h1 h2 h3
  refine h v' w' ?_ h2 h3
  rw [List.length_append, cl_app]; exact h1

theorem rcount_bad (hd : Option Addr) (L : List Lk) (cap : Nat) (p : Int) (a : Bool) (w : World) (hR : Rd w hd L) (hlen : L.length ≤ 5864062014634) (h : ¬ (Pl.Vld L ∧ 0 ≤ p ∧ p ≤ 59)) :
    Calls Try.prog 11 #[.slice hd L.length cap, .int .i64 p, .bool a] w fun e w' => e = .returned (.tuple #[.slice none 0 0, .int .i64 1]) ∧ Below w.heap.size w w' := by
  by_cases hV : Pl.Vld L
  · have hp : p < 0 ∨ (0 ≤ p ∧ 59 < p) := by
      rcases Int.lt_or_le p 0 with h0 | h0
      · exact .inl h0
      · exact .inr ⟨h0, by apply Classical.byContradiction; intro hc; exact h ⟨hV, h0, by omega⟩⟩
    clear h
    rcases hp with h1 | ⟨h1, h2⟩
    all_goals
      go_enter Try.func11, Try.ntmps11
      go_wp2_with (first | (go_at_call 15; refine (rvalid_yes _ hR hV).mono ?_; rintro e w1 ⟨rfl, hb⟩))
      go_ret2
      exact ⟨rfl, hb⟩
  · clear h
    go_enter Try.func11, Try.ntmps11
    go_wp2_with (first | (go_at_call 15; refine (rvalid_no _ hR hlen hV).mono ?_; rintro e w1 ⟨rfl, hb⟩))
    go_ret2
    exact ⟨rfl, hb⟩

def Hold (w wr : World) (v : Value) (X : List Lk) : Prop := wr.ownsRow w.heap.size 32 3 v X.length (cl X) ∧ Below w.heap.size w wr
theorem Hold.below {w wr w' : World} {v : Value} {X : List Lk} (h : Hold w wr v X) (hb : Below wr.heap.size wr w') : Hold w w' v X :=
  ⟨World.ownsRow.kept h.1 (row := none) ⟨hb.os, hb.tape, hb.output, hb.size, fun k hk _ => hb.block k hk⟩ (by cases hv : v.ownBlock <;> simp), B_trans h.2 hb⟩
theorem Hold.grown {w w2 wr w' : World} {v v' : Value} {X Y : List Lk} (h : Hold w w2 v X) (ho : w'.ownsRow w.heap.size 32 3 v' Y.length (cl Y)) (hb : Below w2.heap.size w2 wr) (hg : wr.grownBy w' v.ownBlock) : Hold w w' v' Y :=
  ⟨ho, (B_trans h.2 hb).grown hg (B_trans h.2 hb).size fun j hj => (h.1.lt j hj).1⟩
theorem Bk.grown {w w' : World} {b : Nat} {t : TypeId} {x : Lk} {row : Option Nat} (h : Bk w b t x) (hg : w.grownBy w' row) (hne : some b ≠ row) : Bk w' b t x := (hg.block b h.lt hne).trans h

set_option maxHeartbeats 8000000 in
theorem rcount_ok (hd : Option Addr) (L : List Lk) (cap : Nat) (p : Int) (a : Bool) (w : World) (hR : Rd w hd L) (hV : Pl.Vld L) (hp : 0 ≤ p ∧ p ≤ 59) :
    Calls Try.prog 11 #[.slice hd L.length cap, .int .i64 p, .bool a] w (Counted w (Pl.count L p a)) := by
  obtain ⟨i0, hi, hz0, hz1, hz2⟩ := info_parts info32
  have hlen := Pl.vld_len hV
  have HC := Lib.hid (Pl.bld_all hV hp a)
  have hvy := Lib.hid (fun W (h : Rd W hd L) => rvalid_yes (cap := cap) W h hV)
  have hof := Lib.hid (fun W (h : Rd W hd L) q => of_any hd L cap W h hV q)
  have HOK := Lib.hid (fun (q : Nat) (hq : q ≤ 59) => Pl.of_ok hV (p := q) (by omega))
  obtain ⟨n, hn⟩ : ∃ n, L.length = n := ⟨_, rfl⟩
  rw [hn] at hvy hof hlen ⊢
  have HN := Lib.hid hn
  have HV := Lib.hid hV
  have hRR := Lib.hid hR
  clear hn hV hR
  have HP := Lib.hid hp
  have hd1 : decide (p < 0) = false := by simp; omega
  have hd2 : decide (59 < p) = false := by simp; omega
  clear hp
  go_enter Try.func11, Try.ntmps11
  go_wp2_with fail
  refine (hvy.out _ hRR.out).mono ?_
  rintro e w1 ⟨rfl, hb⟩
  have H0 : Hold w w1 (.slice none 0 0) [] := ⟨World.ownsRow_nil _ _ _ _, hb⟩
  clear hb
  go_wp2_with fail
  go_loopw [9, 10] (fun v i wr => ∃ k : Nat, k ≤ 60 ∧ i = .int .i64 (k : Nat) ∧ Hold w wr v (Pl.bld L p a k))
    (fun _ i _ => 60 - (intOf i).toNat)
  case atStart => exact ⟨0, by omega, rfl, H0⟩
  case round =>
    clear H0
    obtain ⟨k, hk, rfl, hH⟩ := hrel
    have HH := Lib.hid hH
    clear hH
    by_cases hk60 : k < 60
    · have hkk : (k : Int) < 60 := by omega
      have HLn : Hid ((Pl.bld L p a k).length ≤ 60) := by have := Pl.bld_len L p a k; exact Nat.le_trans this (by omega)
      obtain ⟨o, ho⟩ : ∃ o, Pl.of L (k : Int) = o := ⟨_, rfl⟩
      have HO := Lib.hid ho
      have hox : Pl.Ok1 o := by rw [← ho]; exact HOK.out k (by omega)
      clear ho
      go_wp2_with fail
      refine (hof.out _ (hRR.out.below HH.out.2) _).mono ?_
      rintro e w3 ⟨rfl, hb⟩
      rw [HO.out]
      have HH3 := Lib.hid (HH.out.below hb)
      have HB3 := Lib.hid (Bk.new w3 32 o)
      have HH4 := Lib.hid (HH3.out.below (B_alloc (Below.refl w3.heap.size w3) (.cells #[.int .i64 o.P, .int .i64 o.S, .int .i64 o.G] 32)))
      have HS := Lib.hid (fun j (hj : u9.ownBlock = some j) => (HH3.out.1.lt j hj).2)
      clear hb
      by_cases hkp : (k : Int) = p
      · have hq : ((k : Int) == p) = true := by simpa using hkp
        have HK := Lib.hid hkp
        clear hkp
        go_wp2_with fail
        refine (counted_any o a _ hox).mono ?_
        rintro e w5 ⟨rfl, hb⟩
        obtain ⟨y, hy⟩ : ∃ y, Pl.cnt o a = y := ⟨_, rfl⟩
        rw [hy]
        have HY := Lib.hid hy
        have HH5 := Lib.hid (HH4.out.below hb)
        have HH6 := Lib.hid (HH5.out.below (B_alloc (Below.refl w5.heap.size w5) (.cells #[.int .i64 y.P, .int .i64 y.S, .int .i64 y.G] 32)))
        have HB6 := Lib.hid (Bk.new w5 32 y)
        clear hb hy
        go_wp2_with (first
          | (refine wpList_app1 hi hz0 hz1 hz2 rfl (.tmp 35) (.tmp 39) rfl w.heap.size (Pl.bld L p a k) u9 (by simp [Act.eval]) HH6.out.1 w5.heap.size y (by simp [Act.eval]) HB6.out (by have := HLn.out; omega) HH6.out.2.size ?_; intro v' w6 hown hg hbl))
        have hH6 : Hold w w6 v' (Pl.bld L p a (k + 1)) := by
          have e1 : Pl.bld L p a (k + 1) = Pl.bld L p a k ++ [y] := by rw [Pl.bld, Pl.ent, if_pos HK.out, ← HK.out, HO.out, HY.out]
          rw [e1]
          exact HH6.out.grown hown (Below.refl _ _) hg
        clear hown hg hbl
        go_roundw
        case rel => exact ⟨k + 1, by omega, by go_num, hH6⟩
        all_goals first | (simp [intOf]; done) | (simp [intOf]; omega)
      · have hq : ((k : Int) == p) = false := by simpa using hkp
        have HK := Lib.hid hkp
        clear hkp
        go_wp2_with fail
        obtain ⟨wo, hwo⟩ : ∃ wo : World, wo = w3.alloc (.cells #[.int .i64 o.P, .int .i64 o.S, .int .i64 o.G] 32) := ⟨_, rfl⟩
        rw [← hwo] at HH4 HB3 ⊢
        clear hwo
        go_loopw [9, 12] (fun v i wr => ∃ m : Nat, m ≤ n ∧ i = .int .i64 (m : Nat) ∧ Hold w wr v (Pl.bld L p a k ++ Pl.inn L k m) ∧ Bk wr w3.heap.size 32 o ∧ v.ownBlock ≠ some w3.heap.size)
          (fun _ i _ => n - (intOf i).toNat)
        case atStart => exact ⟨0, by omega, rfl, by rw [Pl.inn_zero, List.append_nil]; exact HH4.out, HB3.out, fun h => by have := HS.out _ h; omega⟩
        case round =>
          obtain ⟨m, hm, rfl, hI, hB, hne⟩ := hrel
          have HI := Lib.hid hI
          have HB := Lib.hid hB
          have HNE := Lib.hid hne
          clear hI hB hne
          by_cases hmn : m < n
          · obtain ⟨b, off, rfl, hb, hc⟩ := (hRR.out.below HI.out.2) (by have := HN.out; omega)
            obtain ⟨c0, -, -⟩ := hc m (by have := HN.out; omega)
            have hmm : (m : Int) < n := by omega
            obtain ⟨b0, b1, b2⟩ := HB.out.cells
            obtain ⟨q, hqq⟩ : ∃ q, (Pl.g L m).P = q := ⟨_, rfl⟩
            rw [hqq] at c0
            have HQ := Lib.hid hqq
            clear hc hqq
            by_cases hqk : q = (k : Int)
            · have hqb : (q == (k : Int)) = true := by simpa using hqk
              have HQK := Lib.hid hqk
              clear hqk
              have HH6 := Lib.hid (HI.out.below (B_alloc (Below.refl wr.heap.size wr) (.cells #[.int .i64 o.P, .int .i64 o.S, .int .i64 o.G] 32)))
              have HB6 := Lib.hid (Bk.new wr 32 o)
              have HB7 := Lib.hid (HB.out.below (B_alloc (Below.refl wr.heap.size wr) (.cells #[.int .i64 o.P, .int .i64 o.S, .int .i64 o.G] 32)))
              go_wp2_with (first
                | (refine wpList_app1 hi hz0 hz1 hz2 rfl (.tmp 54) (.tmp 56) rfl w.heap.size _ u9 (by simp [Act.eval]) HH6.out.1 wr.heap.size o (by simp [Act.eval]) HB6.out (by have := HLn.out; have := Pl.inn_len L k m; rw [List.length_append]; omega) HH6.out.2.size ?_; intro v' w6 hown hg hbl))
              have hlt := HB.out.lt
              have hH6 : Hold w w6 v' (Pl.bld L p a k ++ Pl.inn L k (m + 1)) := by
                obtain ⟨i1, i2⟩ := Pl.inn_hit HV.out (k := (k : Int)) (i := m) (by have := HN.out; omega) (by rw [HQ.out]; exact HQK.out)
                rw [i1, List.append_nil] at hown
                rw [i2, HO.out]
                refine HH6.out.grown hown (Below.refl _ _) hg
              have hB6 : Bk w6 w3.heap.size 32 o := HB7.out.grown hg (fun h => HNE.out h.symm)
              have hne6 : v'.ownBlock ≠ some w3.heap.size := by
                rcases hbl with h | h
                · rw [h]; exact HNE.out
                · rw [h]; intro h2; have h3 := Option.some.inj h2; rw [World.size_alloc] at h3; omega
              clear hown hg hbl
              go_roundw
              case rel => exact ⟨m + 1, by omega, by go_num, hH6, hB6, hne6⟩
              all_goals first | (simp [intOf]; done) | (simp [intOf]; omega)
            · have hqb : (q == (k : Int)) = false := by simpa using hqk
              have HQK := Lib.hid hqk
              clear hqk
              go_wp2_with fail
              go_roundw
              case rel => exact ⟨m + 1, by omega, by go_num, by rw [Pl.inn_miss HV.out (by have := HN.out; omega) (by rw [HQ.out]; exact HQK.out)]; exact HI.out, HB.out, HNE.out⟩
              all_goals first | (simp [intOf]; done) | (simp [intOf]; omega)
          · obtain rfl : m = n := by omega
            have hH6 : Hold w wr u9 (Pl.bld L p a (k + 1)) := by
              rw [Pl.bld, ← Pl.inn_end p a HK.out, HN.out]; exact HI.out
            go_wp2_with fail
            go_roundw
            case rel => exact ⟨k + 1, by omega, by go_num, hH6⟩
            all_goals first | (simp [intOf]; done) | (simp [intOf]; omega)
    · obtain rfl : k = 60 := by omega
      have hend := HH.out.1
      rw [HC.out] at hend
      obtain ⟨hd', cap', rfl, hle, hrd⟩ := rd_own hend
      have HE := Lib.hid (And.intro hle hrd)
      clear hend hle hrd
      go_wp2_with fail
      go_ret2
      exact ⟨hd', cap', rfl, HE.out.1, HE.out.2, HH.out.2⟩
end Go.Proofs.Ytakkngdnpbgoiaa
