/-
  The walks of package replay's functions: what each call returns, and that it leaves what was there alone. Conditions: the bits lie below 2^64; shifts by 0 or more.
-/
import Derived.Test.YtffdcnjddoakbaaRows
import Derived.Test.YtffdcnjddoakbaaRPlain
import Derived.WalkKit
import Derived.WalkSpells
import Derived.WalkLawsBesides
namespace Go.Proofs.Ytffdcnjddoakbaa
open Go.RowKit

theorem ret_bool {a b : Bool} (h : a = b) : Ending.returned (.bool a) = .returned (.bool b) := by rw [h]
theorem ret_int {k : IntKind} {a b : Int} (h : a = b) : Ending.returned (.int k a) = .returned (.int k b) := by rw [h]

theorem bcell {W w1 : World} (hb : Below W.heap.size W w1) : (∀ b o, b < W.heap.size → w1.cell? ⟨b, o, none⟩ = W.cell? ⟨b, o, none⟩) ∧ (∀ b o, b < W.heap.size → w1.frozen? ⟨b, o, none⟩ = W.frozen? ⟨b, o, none⟩) :=
  ⟨fun b o h => hb.cell (p := ⟨b, o, none⟩) h, fun b o h => hb.frozen (p := ⟨b, o, none⟩) h⟩

/-- A block of two cells, known whole. -/
def Win (w : World) (g : Nat) (a b : Value) : Prop := w.heap[g]? = some (.cells #[a, b] 49 (0, 0))
theorem Win.lt {w : World} {g : Nat} {a b : Value} (h : Win w g a b) : g < w.heap.size := (Array.getElem?_eq_some_iff.1 h).1
theorem Win.new (w : World) (a b : Value) : Win (w.alloc (.cells #[a, b] 49)) w.heap.size a b := by
  show (w.heap.push _)[w.heap.size]? = _
  simp
theorem Win.below {w w' : World} {g : Nat} {a b : Value} (h : Win w g a b) (hb : Below w.heap.size w w') : Win w' g a b := (hb.block g h.lt).trans h
theorem Win.alloc {w : World} {g : Nat} {a b : Value} (h : Win w g a b) (o : Obj) : Win (w.alloc o) g a b := h.below ((Below.refl _ _).alloc (Nat.le_refl _) o)
theorem Win.all {w : World} {g : Nat} {a b : Value} (h : Win w g a b) : w.cell? ⟨g, 0, none⟩ = some a ∧ w.cell? ⟨g, 1, none⟩ = some b ∧ w.frozen? ⟨g, 0, none⟩ = false ∧ w.frozen? ⟨g, 1, none⟩ = false := by
  unfold Win at h
  refine ⟨by simp [World.cell?, h], by simp [World.cell?, h], by simp [World.frozen?, h], by simp [World.frozen?, h]⟩
theorem two_new (w : World) (a b c d : Value) : Win ((w.alloc (.cells #[a, b] 49)).alloc (.cells #[c, d] 49)) w.heap.size a b ∧ Win ((w.alloc (.cells #[a, b] 49)).alloc (.cells #[c, d] 49)) (w.heap.size + 1) c d := by
  refine ⟨(Win.new w a b).alloc _, ?_⟩
  have := Win.new (w.alloc (.cells #[a, b] 49)) c d
  rwa [World.size_alloc] at this

set_option maxHeartbeats 400000 in
theorem has_any (b : Nat) (i : Int) (w : World) (hb : b < 2 ^ 64) :
    Calls Try.prog 28 #[.int .u64 b, .int .i64 i] w fun e w' => e = .returned (.bool (Pl.has b i)) ∧ w = w' := by
  go_enter Try.func28, Try.ntmps28
  go_wp2_with fail
  · have h1 : 0 ≤ i := by assumption
    have h2 : i < 64 := by assumption
    go_ret
    exact ⟨ret_bool (by rw [Pl.bit_spell b hb]; simp [Pl.has, h1, h2]), rfl⟩
  · have h2 : 64 ≤ i := by assumption
    go_ret
    exact ⟨ret_bool (by simp [Pl.has]; omega), rfl⟩
  · have h2 : i < 0 := by assumption
    go_ret
    exact ⟨ret_bool (by simp [Pl.has]; omega), rfl⟩

set_option maxHeartbeats 400000 in
theorem up_any (b : Nat) (k : Int) (w : World) (hk : 0 ≤ k) :
    Calls Try.prog 26 #[.int .u64 b, .int .i64 k] w fun e w' => e = .returned (.int .u64 (Pl.up b k : Nat)) ∧ w = w' := by
  go_enter Try.func26, Try.ntmps26
  go_wp2_with fail
  · have h : 64 ≤ k := by assumption
    go_ret
    exact ⟨ret_int (by simp [Pl.up, h]), rfl⟩
  · have h : ¬ 64 ≤ k := by have : k < 64 := by assumption
                            omega
    go_ret
    exact ⟨ret_int (by rw [Pl.shl_spell, Pl.up, if_neg h]), rfl⟩

set_option maxHeartbeats 400000 in
theorem with_any (b : Nat) (i : Int) (w : World) (hb : b < 2 ^ 64) (h0 : 0 ≤ i) (h1 : i < 64) :
    Calls Try.prog 27 #[.int .u64 b, .int .i64 i] w fun e w' => e = .returned (.int .u64 ((b ||| 2 ^ i.toNat : Nat) : Int)) ∧ w = w' := by
  go_enter Try.func27, Try.ntmps27
  go_wp2_with fail
  go_ret
  exact ⟨ret_int (Pl.or_spell' b i.toNat hb (by omega)), rfl⟩

set_option maxHeartbeats 400000 in
theorem ctr_any (n : Int) (w : World) :
    Calls Try.prog 23 #[.int .i64 n] w fun e w' => e = .returned (.bool (Pl.isCtr n)) ∧ w = w' := by
  go_enter Try.func23, Try.ntmps23
  go_wp2_with fail
  all_goals go_ret
  all_goals exact ⟨ret_bool (by simp [Pl.isCtr]; omega), rfl⟩

set_option maxHeartbeats 400000 in
theorem valid_any (t : Int) (b : Nat) (w : World) (hb : b < 2 ^ 64) :
    Calls Try.prog 22 #[.agg #[.int .i64 t, .int .u64 b]] w fun e w' => e = .returned (.bool (Pl.valid t b)) ∧ Below w.heap.size w w' := by
  by_cases h2 : Pl.isCtr t = true
  · have h5 : 0 ≤ t := (Pl.isCtr_bd h2).1
    have h6 : (t == 0) = false := by have := (Pl.isCtr_bd h2).2.1; rw [beq_eq_false_iff_ne]; omega
    go_enter Try.func22, Try.ntmps22
    go_wp2_with (first
      | (go_at_call 23; refine (ctr_any _ _).mono ?_; rintro e w' ⟨rfl, rfl⟩)
      | (go_at_call 28; refine (has_any _ _ _ hb).mono ?_; rintro e w' ⟨rfl, rfl⟩))
    · go_ret
      have h3 : (!Pl.has b 0) = true := by assumption
      exact ⟨ret_bool (by simp_all [Pl.valid]), (Below.refl _ _).alloc (Nat.le_refl _) _⟩
    · go_ret
      have h3 : (!Pl.has b 0) = false := by assumption
      have h4 : t < 64 := by assumption
      refine ⟨ret_bool ?_, (Below.refl _ _).alloc (Nat.le_refl _) _⟩
      rw [Pl.shr_spell' b t.toNat]
      simp_all [Pl.valid]
    · go_ret
      have h3 : (!Pl.has b 0) = false := by assumption
      have h4 : ¬ t < 64 := by have : 64 ≤ t := by assumption
                               omega
      exact ⟨ret_bool (by simp_all [Pl.valid]), (Below.refl _ _).alloc (Nat.le_refl _) _⟩
  · go_enter Try.func22, Try.ntmps22
    go_wp2_with (first
      | (go_at_call 23; refine (ctr_any _ _).mono ?_; rintro e w' ⟨rfl, rfl⟩))
    · go_ret
      have h1 : (t == 0) = true := by assumption
      exact ⟨ret_bool (by rw [Pl.nat_zero]; simp [Pl.valid, show t = 0 by simpa using h1]), (Below.refl _ _).alloc (Nat.le_refl _) _⟩
    · go_ret
      have h1 : (t == 0) = false := by assumption
      exact ⟨ret_bool (by simp_all [Pl.valid]), (Below.refl _ _).alloc (Nat.le_refl _) _⟩

set_option maxHeartbeats 400000 in
theorem fresh_any (t : Int) (b : Nat) (n : Int) (w : World) (hb : b < 2 ^ 64) :
    Calls Try.prog 24 #[.agg #[.int .i64 t, .int .u64 b], .int .i64 n] w fun e w' => e = .returned (.bool (Pl.fresh t b n)) ∧ Below w.heap.size w w' := by
  have hmf : ∀ (fn : Fn) (first cap : Array Value) (w : World), (Instr.makeFunc fn first cap).run Try.prog w = .ok (.func fn first cap) w := fun _ _ _ _ => rfl
  by_cases hv : Pl.valid t b = true
  · by_cases hn : Pl.isCtr n = true
    · have bt := Pl.valid_bd hv
      have bn := Pl.isCtr_bd hn
      go_enter Try.func24, Try.ntmps24
      go_wp2_with fail
      refine (valid_any _ _ _ hb).mono ?_
      rintro e w1 ⟨rfl, hb1⟩
      obtain ⟨hc, hf⟩ := bcell hb1
      go_wp2_with (first
        | (go_at_call 23; refine (ctr_any _ _).mono ?_; rintro e w' ⟨rfl, rfl⟩)
        | (go_at_call 28; refine (has_any _ _ _ hb).mono ?_; rintro e w' ⟨rfl, rfl⟩))
      · go_ret
        have h3 : t - n < 64 := by assumption
        exact ⟨ret_bool (by simp [Pl.fresh, hv, hn, h3]), ((Below.refl _ _).alloc (Nat.le_refl _) _).trans (hb1.mono (by simp))⟩
      · go_ret
        have h3 : ¬ t - n < 64 := by have : 64 ≤ t - n := by assumption
                                     omega
        exact ⟨ret_bool (by simp [Pl.fresh, hv, hn, h3]), ((Below.refl _ _).alloc (Nat.le_refl _) _).trans (hb1.mono (by simp))⟩
    · go_enter Try.func24, Try.ntmps24
      go_wp2_with fail
      refine (valid_any _ _ _ hb).mono ?_
      rintro e w1 ⟨rfl, hb1⟩
      go_wp2_with (first
        | (go_at_call 23; refine (ctr_any _ _).mono ?_; rintro e w' ⟨rfl, rfl⟩))
      go_ret
      exact ⟨ret_bool (by simp [Pl.fresh, hn]), ((Below.refl _ _).alloc (Nat.le_refl _) _).trans (hb1.mono (by simp))⟩
  · go_enter Try.func24, Try.ntmps24
    go_wp2_with fail
    refine (valid_any _ _ _ hb).mono ?_
    rintro e w1 ⟨rfl, hb1⟩
    go_wp2_with fail
    go_ret
    exact ⟨ret_bool (by simp [Pl.fresh, hv]), ((Below.refl _ _).alloc (Nat.le_refl _) _).trans (hb1.mono (by simp))⟩

set_option maxHeartbeats 400000 in
theorem seen_any (t : Int) (b : Nat) (at_ : Int) (g : Nat) (w : World) (h0 : 0 ≤ t) (h1 : t ≤ at_) (h2 : at_ ≤ 1000000000)
    (hc0 : w.cell? ⟨g, 0, none⟩ = some (.int .i64 t)) (hc1 : w.cell? ⟨g, 1, none⟩ = some (.int .u64 b)) :
    Calls Try.prog 25 #[.int .i64 at_, .pointer (some ⟨g, 0, none⟩)] w fun e w' => e = .returned (.int .u64 (Pl.up b (at_ - t) : Nat)) ∧ w = w' := by
  go_enter Try.func25, Try.ntmps25
  go_wp2_with (first
    | (go_at_call 26; refine (up_any _ _ _ (by omega)).mono ?_; rintro e w' ⟨rfl, rfl⟩))
  go_ret
  exact ⟨rfl, rfl⟩

set_option maxHeartbeats 400000 in
theorem note_any (t : Int) (b : Nat) (n : Int) (w : World) (hb : b < 2 ^ 64) :
    Calls Try.prog 13 #[.agg #[.int .i64 t, .int .u64 b], .int .i64 n] w fun e w' =>
      e = .returned (.tuple #[.agg #[.int .i64 (Pl.note t b n).t, .int .u64 ((Pl.note t b n).b : Nat)], .int .i64 (Pl.note t b n).e]) ∧ Below w.heap.size w w' := by
  have hmf : ∀ (fn : Fn) (first cap : Array Value) (w : World), (Instr.makeFunc fn first cap).run Try.prog w = .ok (.func fn first cap) w := fun _ _ _ _ => rfl
  by_cases hv : Pl.valid t b = true
  · by_cases hn : Pl.isCtr n = true
    · have bt := Pl.valid_bd hv
      have bn := Pl.isCtr_bd hn
      cases hfr : Pl.fresh t b n
      · go_enter Try.func13, Try.ntmps13
        go_wp2_with fail
        obtain ⟨k0, k1⟩ := two_new w (.int .i64 t) (.int .u64 b) (.int .i64 0) (.int .u64 0)
        refine (valid_any _ _ _ hb).mono ?_
        rintro e w1 ⟨rfl, hb1⟩
        obtain ⟨c0, c1, f0, f1⟩ := (k0.below hb1).all
        go_wp2_with (first
          | (go_at_call 23; refine (ctr_any _ _).mono ?_; rintro e w' ⟨rfl, rfl⟩))
        refine (fresh_any _ _ _ _ hb).mono ?_
        rintro e w2 ⟨rfl, hb2⟩
        obtain ⟨m0, m1, p0, p1⟩ := ((k1.below hb1).below hb2).all
        have B : Below w.heap.size w w2 := (((Below.refl _ _).alloc (Nat.le_refl _) _).alloc (by simp) _).trans ((hb1.trans (hb2.mono hb1.size)).mono (by simp; omega))
        have hz := ((k1.below hb1).below hb2).lt
        go_wp2_with fail
        refine bodyPost_ret (v := .tuple #[.agg #[.int .i64 0, .int .u64 0], .int .i64 14]) (by simp [results, Try.results13, go_sem, m0, m1]) rfl ⟨by simp [Pl.note, hv, hn, hfr], ?_⟩
        exact (B.setCell (by simp) _).setCell (by simp) _
      · have hfb := Pl.fresh_bd hfr
        by_cases hle : n ≤ t
        all_goals
          go_enter Try.func13, Try.ntmps13
          go_wp2_with fail
          obtain ⟨k0, k1⟩ := two_new w (.int .i64 t) (.int .u64 b) (.int .i64 0) (.int .u64 0)
          refine (valid_any _ _ _ hb).mono ?_
          rintro e w1 ⟨rfl, hb1⟩
          obtain ⟨c0, c1, f0, f1⟩ := (k0.below hb1).all
          go_wp2_with (first
            | (go_at_call 23; refine (ctr_any _ _).mono ?_; rintro e w' ⟨rfl, rfl⟩))
          refine (fresh_any _ _ _ _ hb).mono ?_
          rintro e w2 ⟨rfl, hb2⟩
          obtain ⟨d0, d1, e0, e1⟩ := ((k0.below hb1).below hb2).all
          obtain ⟨m0, m1, p0, p1⟩ := ((k1.below hb1).below hb2).all
          have B : Below w.heap.size w w2 := (((Below.refl _ _).alloc (Nat.le_refl _) _).alloc (by simp) _).trans ((hb1.trans (hb2.mono hb1.size)).mono (by simp; omega))
          have hz := ((k1.below hb1).below hb2).lt
          go_wp2_with (first
            | (go_at_call 25; refine (seen_any t b _ _ _ (by omega) (by omega) (by omega) d0 d1).mono ?_; rintro e w' ⟨rfl, rfl⟩)
            | (go_at_call 27; refine (with_any _ _ _ (Pl.up_lt _ _) (by omega) (by omega)).mono ?_; rintro e w' ⟨rfl, rfl⟩))
        · refine bodyPost_ret (v := .tuple #[.agg #[.int .i64 (Pl.note t b n).t, .int .u64 ((Pl.note t b n).b : Nat)], .int .i64 (Pl.note t b n).e]) (by simp [results, Try.results13, go_sem, m0, m1, Pl.note, hv, hn, hfr]; exact Pl.nb_le hle) rfl ⟨rfl, ?_⟩
          exact (B.setCell (by simp) _).setCell (by simp) _
        · refine bodyPost_ret (v := .tuple #[.agg #[.int .i64 (Pl.note t b n).t, .int .u64 ((Pl.note t b n).b : Nat)], .int .i64 (Pl.note t b n).e]) (by simp [results, Try.results13, go_sem, m0, m1, Pl.note, hv, hn, hfr]; exact Pl.nb_gt (by omega)) rfl ⟨rfl, ?_⟩
          exact (B.setCell (by simp) _).setCell (by simp) _
    · go_enter Try.func13, Try.ntmps13
      go_wp2_with fail
      obtain ⟨k0, k1⟩ := two_new w (.int .i64 t) (.int .u64 b) (.int .i64 0) (.int .u64 0)
      refine (valid_any _ _ _ hb).mono ?_
      rintro e w1 ⟨rfl, hb1⟩
      obtain ⟨m0, m1, p0, p1⟩ := (k1.below hb1).all
      have B : Below w.heap.size w w1 := (((Below.refl _ _).alloc (Nat.le_refl _) _).alloc (by simp) _).trans (hb1.mono (by simp; omega))
      have hz := (k1.below hb1).lt
      go_wp2_with (first
        | (go_at_call 23; refine (ctr_any _ _).mono ?_; rintro e w' ⟨rfl, rfl⟩))
      refine bodyPost_ret (v := .tuple #[.agg #[.int .i64 0, .int .u64 0], .int .i64 1]) (by simp [results, Try.results13, go_sem, m0, m1]) rfl ⟨by simp [Pl.note, hn], ?_⟩
      exact (B.setCell (by simp) _).setCell (by simp) _
  · go_enter Try.func13, Try.ntmps13
    go_wp2_with fail
    obtain ⟨k0, k1⟩ := two_new w (.int .i64 t) (.int .u64 b) (.int .i64 0) (.int .u64 0)
    refine (valid_any _ _ _ hb).mono ?_
    rintro e w1 ⟨rfl, hb1⟩
    obtain ⟨m0, m1, p0, p1⟩ := (k1.below hb1).all
    have B : Below w.heap.size w w1 := (((Below.refl _ _).alloc (Nat.le_refl _) _).alloc (by simp) _).trans (hb1.mono (by simp; omega))
    have hz := (k1.below hb1).lt
    go_wp2_with fail
    refine bodyPost_ret (v := .tuple #[.agg #[.int .i64 0, .int .u64 0], .int .i64 1]) (by simp [results, Try.results13, go_sem, m0, m1]) rfl ⟨by simp [Pl.note, hv], ?_⟩
    exact (B.setCell (by simp) _).setCell (by simp) _
end Go.Proofs.Ytffdcnjddoakbaa
