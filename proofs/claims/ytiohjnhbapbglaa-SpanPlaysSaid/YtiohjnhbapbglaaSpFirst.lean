/- Last, First of a set. Conditions: the ends rise (First); no row is long. -/
import Derived.Test.YtiohjnhbapbglaaSpLast
import Derived.BigRegion
namespace Go.Proofs.Ytiohjnhbapbglaa.SpFirst
open Go.RowKit Go.Proofs.Ytiohjnhbapbglaa.PSpanPlays Go.Proofs.Ytiohjnhbapbglaa.SpPure Go.Proofs.Ytiohjnhbapbglaa.SpLaw Go.Proofs.Ytiohjnhbapbglaa.SpSet Go.Proofs.Ytiohjnhbapbglaa.SpFind Go.Proofs.Ytiohjnhbapbglaa.SpAsk Go.Proofs.Ytiohjnhbapbglaa.SpCut Go.Proofs.Ytiohjnhbapbglaa.PartsPure Go.Proofs.YtiohjnhbapbglaaW.PrintWords Go.Proofs.YtiohjnhbapbglaaW.PrintLast Go.Proofs.YtiohjnhbapbglaaW.PrintMore

/-- What Last answers. -/
def LSP (w : World) (l : List S28) (e : Ending) (w' : World) : Prop :=
  Below w.heap.size w w' ∧ ((l = [] ∧ e = .returned (.tuple #[.agg #[.int .u64 0, .int .u64 0], .bool false])) ∨
    ∃ i : Nat, l.length = i + 1 ∧ e = .returned (.tuple #[.agg #[.int .u64 (rd_T28 l i).f0, .int .u64 (rd_T28 l i).f1], .bool true]))
set_option maxRecDepth 100000 in
set_option maxHeartbeats 4000000 in
theorem last_calls {w : World} {base g : Nat} {A : Option Addr} {c : Nat} {l : List S28} {lim : Int} (h : St w base g A c l lim) (hl : l.length ≤ 1000) :
    Calls Try.prog 29 #[.pointer (some ⟨g, 0, none⟩)] w fun e w' => LSP w l e w' := by
  have k1 := blk_new w (RG ⟨0, 0⟩)
  have hb := below_alloc (Below.refl w.heap.size w) (RG ⟨0, 0⟩)
  have u0 := blk_frozen k1 0
  have u1 := blk_frozen k1 1
  have h1 := h.below hb
  have hlt := h.lt
  go_enter Try.func29, Try.ntmps29
  go_upto_region 1 with (fail)
  show Code.wp _ _ _ _ (w.alloc (RG ⟨0, 0⟩))
  generalize w.alloc (RG ⟨0, 0⟩) = w1 at *
  have hgp : g ≠ w.heap.size := by omega
  have HS := Lib.hid h1
  obtain ⟨l0, l1⟩ := sb_cells HS.out.blk
  obtain ⟨a0, a1⟩ := rg_cells k1
  rcases Nat.eq_zero_or_pos l.length with h0 | h0
  · have hnil : l = [] := List.eq_nil_of_length_eq_zero h0
    subst hnil
    have K1 := Lib.hid (blk_put (blk_put k1 0 (.int .u64 0) rfl) 1 (.int .u64 0) rfl)
    have HB := Lib.hid ((hb.setCell (p := ⟨w.heap.size, 0, none⟩) (Nat.le_refl _) (.int .u64 0)).setCell (p := ⟨w.heap.size, 1, none⟩) (Nat.le_refl _) (.int .u64 0))
    clear k1 hb h h1
    go_wp2_with fail
    refine (len_calls HS.out.blk).mono ?_
    rintro e w2 ⟨rfl, rfl⟩
    go_wp2_with fail
    refine bodyPost_ret (results_ct (P := Try.prog) (p := 2) (u := 3) rfl _ _ w.heap.size 28 _ (0, 0) _ rfl K1.out Try.underlying28 rfl (by kernel_rfl)) rfl ?_
    exact ⟨HB.out, .inl ⟨rfl, rfl⟩⟩
  · obtain ⟨i, hi⟩ : ∃ i, l.length = i + 1 := ⟨l.length - 1, by omega⟩
    obtain ⟨ra, o, cap, hA, _⟩ := Kd.Q_form HS.out.q (by omega)
    obtain rfl : A = some ⟨ra, o, none⟩ := by injection hA
    clear hA
    obtain ⟨p0, p1⟩ := row_cells HS.out.q i (by omega)
    generalize hx : rd_T28 l (i : Int) = x at *
    have HX := Lib.hid hx
    have K1 := Lib.hid k1
    have HB := Lib.hid hb
    clear k1 hb h h1 hx
    have e1 : ((l.length : Int) == 0) = false := beq_eq_false_iff_ne.2 (by omega)
    have e2 : IntKind.i64.wrap ((l.length : Int) - 1) = (i : Int) := by rw [IntKind.wrap_i64]; omega
    have e3 : (i : Int) < (l.length : Int) := by omega
    have e4 : i < l.length := by omega
    go_wp2_with fail
    refine (len_calls HS.out.blk).mono ?_
    rintro e w2 ⟨rfl, rfl⟩
    go_upto_region 3 with (fail)
    go_region
    all_goals
      have K2 := Lib.hid (blk_drew (blk_put (blk_put K1.out 0 (.int .u64 x.f0) rfl) 1 (.int .u64 x.f1) rfl))
      have HB2 := Lib.hid (below_drew ((HB.out.setCell (p := ⟨w.heap.size, 0, none⟩) (Nat.le_refl _) (.int .u64 x.f0)).setCell (p := ⟨w.heap.size, 1, none⟩) (Nat.le_refl _) (.int .u64 x.f1)))
      go_wp2_with fail
      refine bodyPost_ret (results_ct (P := Try.prog) (p := 2) (u := 3) rfl _ _ w.heap.size 28 _ (0, 0) _ rfl K2.out Try.underlying28 rfl (by kernel_rfl)) rfl ?_
      exact ⟨HB2.out, .inr ⟨i, hi, by rw [HX.out]; rfl⟩⟩
/-- What First answers. -/
def FSP (w : World) (l : List S28) (n : Int) (e : Ending) (w' : World) : Prop :=
  Below w.heap.size w w' ∧ ∃ i : Nat, Fst l n i ∧ ((i = l.length ∧ e = .returned (.tuple #[.agg #[.int .u64 0, .int .u64 0], .bool false])) ∨
    (i < l.length ∧ e = .returned (.tuple #[.agg #[.int .u64 (mx (rd_T28 l i).f0 n), .int .u64 (rd_T28 l i).f1], .bool true])))
set_option maxRecDepth 100000 in
set_option maxHeartbeats 8000000 in
theorem first_calls {w : World} {base g : Nat} {A : Option Addr} {c : Nat} {l : List S28} {lim : Int} (h : St w base g A c l lim) (n : Int) (hup : Up l) (hl : l.length ≤ 1000) :
    Calls Try.prog 31 #[.pointer (some ⟨g, 0, none⟩), .int .u64 n] w fun e w' => FSP w l n e w' := by
  have k1 := blk_new w (RG ⟨0, 0⟩)
  have hb := below_alloc (Below.refl w.heap.size w) (RG ⟨0, 0⟩)
  have h1 := h.below hb
  have hlt := h.lt
  have HU := Lib.hid hup
  clear hup
  go_enter Try.func31, Try.ntmps31
  go_upto_region 1 with (fail)
  show Code.wp _ _ _ _ (w.alloc (RG ⟨0, 0⟩))
  generalize w.alloc (RG ⟨0, 0⟩) = w1 at *
  have hgp : g ≠ w.heap.size := by omega
  have HS1 := Lib.hid h1
  have K0 := Lib.hid k1
  have HB0 := Lib.hid hb
  clear h h1 k1 hb
  go_wp2_with fail
  refine (find_calls HS1.out n HU.out hl).mono ?_
  rintro e w2 ⟨i, hi, rfl, hb2⟩
  have HI := Lib.hid hi
  have HS := Lib.hid (HS1.out.below hb2)
  have k1 := blk_below K0.out hb2
  have hb := below_step HB0.out hb2
  clear HS1 K0 HB0 hb2 hi HU
  have hil := HI.out.1
  obtain ⟨l0, l1⟩ := sb_cells HS.out.blk
  obtain ⟨a0, a1⟩ := rg_cells k1
  have u0 := blk_frozen k1 0
  have u1 := blk_frozen k1 1
  rcases Nat.lt_or_ge i l.length with h0 | h0
  · have e1 : ((i : Int) == (l.length : Int)) = false := beq_eq_false_iff_ne.2 (by omega)
    obtain ⟨ra, o, cap, hA, _⟩ := Kd.Q_form HS.out.q (by omega)
    obtain rfl : A = some ⟨ra, o, none⟩ := by injection hA
    clear hA
    obtain ⟨p0, p1⟩ := row_cells HS.out.q i h0
    generalize hx : rd_T28 l (i : Int) = x at *
    have HX := Lib.hid hx
    obtain ⟨mv, hmv⟩ : ∃ mv, (if x.f0 < n then n else x.f0) = mv := ⟨_, rfl⟩
    have HMV := Lib.hid (show mx x.f0 n = mv from hmv)
    have K1 := Lib.hid k1
    have HB := Lib.hid hb
    clear k1 hb hx
    have e3 : (i : Int) < (l.length : Int) := by omega
    go_upto_region 6 with (fail)
    go_region
    all_goals
      have K2 := Lib.hid (blk_drew (blk_put (blk_put K1.out 0 (.int .u64 mv) rfl) 1 (.int .u64 x.f1) rfl))
      have HB2 := Lib.hid (below_drew ((HB.out.setCell (p := ⟨w.heap.size, 0, none⟩) (Nat.le_refl _) (.int .u64 mv)).setCell (p := ⟨w.heap.size, 1, none⟩) (Nat.le_refl _) (.int .u64 x.f1)))
      go_wp2_with fail
      refine bodyPost_ret (results_ct (P := Try.prog) (p := 4) (u := 5) rfl _ _ w.heap.size 28 _ (0, 0) _ rfl K2.out Try.underlying28 rfl (by kernel_rfl)) rfl ?_
      exact ⟨HB2.out, i, HI.out, .inr ⟨h0, by rw [HX.out, HMV.out]; rfl⟩⟩
  · obtain rfl : i = l.length := by omega
    have K1 := Lib.hid (blk_put (blk_put k1 0 (.int .u64 0) rfl) 1 (.int .u64 0) rfl)
    have HB := Lib.hid ((hb.setCell (p := ⟨w.heap.size, 0, none⟩) (Nat.le_refl _) (.int .u64 0)).setCell (p := ⟨w.heap.size, 1, none⟩) (Nat.le_refl _) (.int .u64 0))
    clear k1 hb
    go_wp2_with fail
    refine bodyPost_ret (results_ct (P := Try.prog) (p := 4) (u := 5) rfl _ _ w.heap.size 28 _ (0, 0) _ rfl K1.out Try.underlying28 rfl (by kernel_rfl)) rfl ?_
    exact ⟨HB.out, _, HI.out, .inl ⟨rfl, rfl⟩⟩
end Go.Proofs.Ytiohjnhbapbglaa.SpFirst
