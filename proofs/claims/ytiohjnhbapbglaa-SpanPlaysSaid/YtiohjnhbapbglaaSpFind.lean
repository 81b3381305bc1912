/- find: the first range that ends behind a number, by halving. Condition: the ends rise; no row is long. -/
import Derived.Test.YtiohjnhbapbglaaSpSet
namespace Go.Proofs.Ytiohjnhbapbglaa.SpFind
open Go.RowKit Go.Proofs.Ytiohjnhbapbglaa.PSpanPlays Go.Proofs.Ytiohjnhbapbglaa.SpPure Go.Proofs.Ytiohjnhbapbglaa.SpSet Go.Proofs.YtiohjnhbapbglaaW.PrintWords Go.Proofs.YtiohjnhbapbglaaW.PrintLast Go.Proofs.YtiohjnhbapbglaaW.PrintMore

/-- The ends rise. -/
def Up (l : List S28) : Prop := ∀ i j : Nat, i ≤ j → j < l.length → (rd_T28 l i).f1 ≤ (rd_T28 l j).f1
/-- i is the first place whose range ends behind n. -/
def Fst (l : List S28) (n : Int) (i : Nat) : Prop := i ≤ l.length ∧ (∀ j : Nat, j < i → (rd_T28 l j).f1 ≤ n) ∧ ∀ j : Nat, i ≤ j → j < l.length → n < (rd_T28 l j).f1

set_option maxRecDepth 100000 in
theorem cmp_calls (x : S28) (n : Int) (w : World) : Calls Try.prog 69 #[.agg #[.int .u64 x.f0, .int .u64 x.f1], .int .u64 n] w fun e w' => e = .returned (.int .i64 (if n < x.f1 then 1 else -1)) ∧ Below w.heap.size w w' := by
  have k1 := blk_new w (RG x)
  have hb1 := below_alloc (Below.refl w.heap.size w) (RG x)
  obtain ⟨z, hz⟩ : ∃ z : Int, (if n < x.f1 then 1 else -1) = z := ⟨_, rfl⟩
  rw [hz]
  have HZ := Lib.hid hz
  clear hz
  go_enter Try.func69, Try.ntmps69
  go_upto_region 1 with (fail)
  show Code.wp _ _ _ _ (w.alloc (RG x))
  generalize w.alloc (RG x) = w1 at *
  have HB := Lib.hid hb1
  obtain ⟨r0, r1⟩ := rg_cells k1
  clear k1 hb1
  by_cases h : n < x.f1
  · have g1 : decide (x.f1 > n) = true := decide_eq_true h
    obtain rfl : z = 1 := by have := HZ.out; rw [if_pos h] at this; exact this.symm
    go_wp2_with fail
    go_ret
    exact ⟨rfl, HB.out⟩
  · have g1 : decide (x.f1 > n) = false := decide_eq_false h
    obtain rfl : z = -1 := by have := HZ.out; rw [if_neg h] at this; exact this.symm
    go_wp2_with fail
    go_ret
    exact ⟨rfl, HB.out⟩

/-- What the search answers. -/
def BP (w : World) (l : List S28) (n : Int) (e : Ending) (w' : World) : Prop := ∃ (i : Nat) (b : Bool), Fst l n i ∧ e = .returned (.tuple #[.int .i64 i, .bool b]) ∧ Below w.heap.size w w'
set_option maxRecDepth 100000 in
set_option maxHeartbeats 4000000 in
theorem search_calls (A : Option Addr) (c : Nat) (l : List S28) (n : Int) (w : World) (h : k28.C w A l.length l) (hup : Up l) (hl : l.length ≤ 1000) :
    Calls Try.prog 68 #[.slice A l.length c, .int .u64 n, .func (.func 69) #[] #[]] w fun e w' => BP w l n e w' := by
  have H := Lib.hid h
  have HU := Lib.hid hup
  clear h hup
  go_enter Try.func68, Try.ntmps68
  go_upto_region 3 with (fail)
  go_loopw [9, 10] (fun i j wr => ∃ lo hi : Nat, lo ≤ hi ∧ hi ≤ l.length ∧ i = .int .i64 lo ∧ j = .int .i64 hi ∧ (∀ q : Nat, q < lo → (rd_T28 l q).f1 ≤ n) ∧ (∀ q : Nat, hi ≤ q → q < l.length → n < (rd_T28 l q).f1) ∧ Below w.heap.size w wr) (fun i j _ => (intOf j).toNat - (intOf i).toNat)
  case atStart => exact ⟨0, l.length, Nat.zero_le _, Nat.le_refl _, rfl, rfl, fun q hq => by omega, fun q h1 h2 => by omega, Below.refl _ _⟩
  case round =>
    obtain ⟨lo, hi, h1, h2, rfl, rfl, h3, h4, hb⟩ := hrel
    have H3 := Lib.hid h3
    have H4 := Lib.hid h4
    have HB := Lib.hid hb
    have HC := Lib.hid (Kd.C_below H.out hb)
    clear h3 h4 hb
    by_cases hlh : lo < hi
    · have e1 : (lo : Int) < (hi : Int) := by omega
      obtain ⟨m, hm⟩ : ∃ m : Nat, (lo + hi) / 2 = m := ⟨_, rfl⟩
      have hm1 : lo ≤ m ∧ m < hi := by omega
      have hm2 : ((lo : Int) + (hi : Int)) / 2 = (m : Int) := by omega
      obtain ⟨ad, hA, p0, p1⟩ := at_T28 HC.out (m : Int) (by omega) (by omega)
      subst hA
      rw [Int.toNat_natCast] at p0 p1
      obtain ⟨x, hx⟩ : ∃ x, rd_T28 l (m : Int) = x := ⟨_, rfl⟩
      rw [hx] at p0 p1
      have e2 : (m : Int) < (l.length : Int) := by omega
      have e3 : m < l.length := by omega
      have HX := Lib.hid hx
      clear hx hm
      go_wp2_with fail
      refine (cmp_calls x n wr).mono ?_
      rintro e w2 ⟨rfl, hb2⟩
      have HB2 := Lib.hid (below_step HB.out hb2)
      clear hb2 p0 p1
      by_cases hc : n < x.f1
      · rw [if_pos hc]
        go_wp2_with fail
        go_roundw
        case rel =>
          refine ⟨lo, m, by omega, by omega, rfl, rfl, H3.out, fun q h5 h6 => ?_, HB2.out⟩
          have := HU.out m q h5 h6
          rw [HX.out] at this
          omega
        case measure => simp [intOf]; omega
      · rw [if_neg hc]
        go_wp2_with fail
        go_roundw
        case rel =>
          refine ⟨m + 1, hi, by omega, by omega, by go_num, rfl, fun q h5 => ?_, H4.out, HB2.out⟩
          have := HU.out q m (by omega) (by omega)
          rw [HX.out] at this
          omega
        case measure => simp [intOf]; omega
    · have hle : lo = hi := by omega
      subst hle
      have e1 : decide ((lo : Int) < (lo : Int)) = false := decide_eq_false (by omega)
      by_cases hll : lo < l.length
      · have e2 : (lo : Int) < (l.length : Int) := by omega
        obtain ⟨ad, hA, p0, p1⟩ := at_T28 HC.out (lo : Int) (by omega) (by omega)
        subst hA
        rw [Int.toNat_natCast] at p0 p1
        obtain ⟨x, hx⟩ : ∃ x, rd_T28 l (lo : Int) = x := ⟨_, rfl⟩
        rw [hx] at p0 p1
        have HX := Lib.hid hx
        clear hx
        go_wp2_with fail
        refine (cmp_calls x n wr).mono ?_
        rintro e w2 ⟨rfl, hb2⟩
        have HB2 := Lib.hid (below_step HB.out hb2)
        clear hb2 p0 p1
        by_cases hc : n < x.f1
        · rw [if_pos hc]
          go_wp2_with fail
          go_ret2
          exact ⟨lo, _, ⟨h2, H3.out, H4.out⟩, rfl, HB2.out⟩
        · rw [if_neg hc]
          go_wp2_with fail
          go_ret2
          exact ⟨lo, _, ⟨h2, H3.out, H4.out⟩, rfl, HB2.out⟩
      · have e2 : decide ((lo : Int) < (l.length : Int)) = false := decide_eq_false (by omega)
        go_wp2_with fail
        go_ret2
        exact ⟨lo, _, ⟨h2, H3.out, H4.out⟩, rfl, HB.out⟩
/-- What find answers. -/
def FP (w : World) (l : List S28) (n : Int) (e : Ending) (w' : World) : Prop := ∃ i : Nat, Fst l n i ∧ e = .returned (.int .i64 i) ∧ Below w.heap.size w w'
set_option maxRecDepth 100000 in
theorem find_calls {w : World} {base g : Nat} {A : Option Addr} {c : Nat} {l : List S28} {lim : Int} (h : St w base g A c l lim) (n : Int) (hup : Up l) (hl : l.length ≤ 1000) :
    Calls Try.prog 63 #[.pointer (some ⟨g, 0, none⟩), .int .u64 n] w fun e w' => FP w l n e w' := by
  obtain ⟨l0, l1⟩ := sb_cells h.blk
  have HS := Lib.hid (search_calls A c l n w (Kd.Q_reads' h.q).2.2 hup hl)
  clear h
  go_enter Try.func63, Try.ntmps63
  go_wp2_with fail
  refine HS.out.mono ?_
  rintro e w2 ⟨i, b, hi, rfl, hb⟩
  have HI := Lib.hid hi
  have HB := Lib.hid hb
  clear hi hb
  go_wp2_with fail
  go_ret
  exact ⟨i, HI.out, rfl, HB.out⟩
end Go.Proofs.Ytiohjnhbapbglaa.SpFind
