/- Has, Covers: what a set says of a number, of a range; the chapter's example. Conditions: the ends rise; no row is long. -/
import Derived.Test.YtiohjnhbapbglaaSpFind
namespace Go.Proofs.Ytiohjnhbapbglaa.SpAsk
open Go.RowKit Go.Proofs.Ytiohjnhbapbglaa.PSpanPlays Go.Proofs.Ytiohjnhbapbglaa.SpPure Go.Proofs.Ytiohjnhbapbglaa.SpSet Go.Proofs.Ytiohjnhbapbglaa.SpFind Go.Proofs.YtiohjnhbapbglaaW.PrintWords Go.Proofs.YtiohjnhbapbglaaW.PrintLast Go.Proofs.YtiohjnhbapbglaaW.PrintMore

theorem row_cells {w : World} {base : Nat} {ok : Nat → Prop} {r o c n : Nat} {l : List S28} (h : k28.Q 28 w base ok (.slice (some ⟨r, o, none⟩) n c) l) (j : Nat) (hj : j < n) :
    w.cell? ⟨r, o + j * 2, none⟩ = some (.int .u64 (rd_T28 l j).f0) ∧ w.cell? ⟨r, o + j * 2 + 1, none⟩ = some (.int .u64 (rd_T28 l j).f1) := by
  obtain ⟨hn, _, hC⟩ := Kd.Q_reads' h
  obtain ⟨ad, e, hc⟩ := at_T28 hC (j : Int) (by omega) (by omega)
  injection e with e
  subst e
  rw [add_at, Int.toNat_natCast] at hc
  exact hc
/-- What Has answers. -/
def HP (w : World) (l : List S28) (n : Int) (e : Ending) (w' : World) : Prop := ∃ i : Nat, Fst l n i ∧ e = .returned (.bool (decide (i < l.length) && decide ((rd_T28 l i).f0 ≤ n))) ∧ Below w.heap.size w w'
set_option maxRecDepth 100000 in
theorem has_calls {w : World} {base g : Nat} {A : Option Addr} {c : Nat} {l : List S28} {lim : Int} (h : St w base g A c l lim) (n : Int) (hup : Up l) (hl : l.length ≤ 1000) :
    Calls Try.prog 22 #[.pointer (some ⟨g, 0, none⟩), .int .u64 n] w fun e w' => HP w l n e w' := by
  have HS := Lib.hid h
  have HU := Lib.hid hup
  clear h hup
  go_enter Try.func22, Try.ntmps22
  go_wp2_with fail
  refine (find_calls HS.out n HU.out hl).mono ?_
  rintro e w2 ⟨i, hi, rfl, hb⟩
  have HI := Lib.hid hi
  have HB := Lib.hid hb
  have hs2 := HS.out.below hb
  have HS2 := Lib.hid hs2
  clear hi hb hs2
  obtain ⟨l0, l1⟩ := sb_cells HS2.out.blk
  by_cases hil : i < l.length
  · have e1 : (i : Int) < (l.length : Int) := by omega
    have e2 : decide (i < l.length) = true := decide_eq_true hil
    obtain ⟨ra, o, cap, hA, _⟩ := Kd.Q_form HS2.out.q (by omega)
    obtain rfl : A = some ⟨ra, o, none⟩ := by injection hA
    clear hA
    obtain ⟨p0, p1⟩ := row_cells HS2.out.q i hil
    obtain ⟨x, hx⟩ : ∃ x, rd_T28 l (i : Int) = x := ⟨_, rfl⟩
    rw [hx] at p0 p1
    have HX := Lib.hid hx
    clear hx
    go_wp2_with fail
    go_ret
    exact ⟨i, HI.out, by rw [HX.out, e2]; rfl, HB.out⟩
  · have e1 : decide ((i : Int) < (l.length : Int)) = false := decide_eq_false (by omega)
    have e2 : decide (i < l.length) = false := decide_eq_false hil
    go_wp2_with fail
    go_ret
    exact ⟨i, HI.out, by rw [e2]; rfl, HB.out⟩
/-- What Covers answers. -/
def CP (w : World) (l : List S28) (r : S28) (e : Ending) (w' : World) : Prop :=
  Below w.heap.size w w' ∧ ((r.f0 ≥ r.f1 ∧ e = .returned (.bool true)) ∨ (r.f0 < r.f1 ∧ ∃ i : Nat, Fst l r.f0 i ∧ e = .returned (.bool (decide (i < l.length) && decide ((rd_T28 l i).f0 ≤ r.f0) && decide ((rd_T28 l i).f1 ≥ r.f1)))))
set_option maxRecDepth 100000 in
set_option maxHeartbeats 4000000 in
theorem covers_calls {w : World} {base g : Nat} {A : Option Addr} {c : Nat} {l : List S28} {lim : Int} (h : St w base g A c l lim) (r : S28) (hup : Up l) (hl : l.length ≤ 1000) :
    Calls Try.prog 20 #[.pointer (some ⟨g, 0, none⟩), .agg #[.int .u64 r.f0, .int .u64 r.f1]] w fun e w' => CP w l r e w' := by
  have k1 := blk_new w (RG r)
  have hb1 := below_alloc (Below.refl w.heap.size w) (RG r)
  have h1 := h.below hb1
  have HU := Lib.hid hup
  clear h hup
  go_enter Try.func20, Try.ntmps20
  go_upto_region 1 with (fail)
  show Code.wp _ _ _ _ (w.alloc (RG r))
  generalize w.alloc (RG r) = w1 at *
  have HB := Lib.hid hb1
  have K1 := Lib.hid k1
  have HS := Lib.hid h1
  clear hb1 k1 h1
  obtain ⟨r0, r1⟩ := rg_cells K1.out
  by_cases hr : r.f0 ≥ r.f1
  · have g1 : decide (r.f0 ≥ r.f1) = true := decide_eq_true hr
    go_wp2_with fail
    go_ret
    exact ⟨HB.out, .inl ⟨hr, rfl⟩⟩
  · have g1 : decide (r.f0 ≥ r.f1) = false := decide_eq_false hr
    go_wp2_with fail
    refine (find_calls HS.out r.f0 HU.out hl).mono ?_
    rintro e w2 ⟨i, hi, rfl, hb⟩
    have hb2 := below_step HB.out hb
    have hs2 := HS.out.below hb
    have k2 := blk_below K1.out hb
    clear HS HB K1 hb r0 r1
    have HI := Lib.hid hi
    have HB := Lib.hid hb2
    have HS := Lib.hid hs2
    have K1 := Lib.hid k2
    clear hi hb2 hs2 k2
    obtain ⟨r0, r1⟩ := rg_cells K1.out
    obtain ⟨l0, l1⟩ := sb_cells HS.out.blk
    by_cases hil : i < l.length
    · have e1 : (i : Int) < (l.length : Int) := by omega
      have e2 : decide (i < l.length) = true := decide_eq_true hil
      obtain ⟨ra, o, cap, hA, _⟩ := Kd.Q_form HS.out.q (by omega)
      obtain rfl : A = some ⟨ra, o, none⟩ := by injection hA
      clear hA
      obtain ⟨p0, p1⟩ := row_cells HS.out.q i hil
      obtain ⟨x, hx⟩ : ∃ x, rd_T28 l (i : Int) = x := ⟨_, rfl⟩
      rw [hx] at p0 p1
      have HX := Lib.hid hx
      clear hx
      by_cases hx0 : x.f0 ≤ r.f0
      · have d0 : decide (x.f0 ≤ r.f0) = true := decide_eq_true hx0
        obtain ⟨z, hz⟩ : ∃ z, decide (x.f1 ≥ r.f1) = z := ⟨_, rfl⟩
        have hz2 : decide (r.f1 ≤ x.f1) = z := hz
        clear hx0
        go_upto_region 4 with (fail)
        go_quiet (fail)
        have HBB := Lib.hid (below_step HB.out (pw_below_drewN (Below.refl w2.heap.size w2) nq))
        have HZ := Lib.hid hz
        clear hz hz2
        go_wp2_with fail
        go_ret
        exact ⟨HBB.out, .inr ⟨by omega, i, HI.out, by rw [HX.out, e2, d0, HZ.out]; rfl⟩⟩
      · have d0 : decide (x.f0 ≤ r.f0) = false := decide_eq_false hx0
        clear hx0
        go_upto_region 4 with (fail)
        go_quiet (fail)
        have HBB := Lib.hid (below_step HB.out (pw_below_drewN (Below.refl w2.heap.size w2) nq))
        go_wp2_with fail
        go_ret
        exact ⟨HBB.out, .inr ⟨by omega, i, HI.out, by rw [HX.out, e2, d0]; rfl⟩⟩
    · have e1 : decide ((i : Int) < (l.length : Int)) = false := decide_eq_false (by omega)
      have e2 : decide (i < l.length) = false := decide_eq_false hil
      go_upto_region 4 with (fail)
      go_quiet (fail)
      have HBB := Lib.hid (below_step HB.out (pw_below_drewN (Below.refl w2.heap.size w2) nq))
      go_wp2_with fail
      go_ret
      exact ⟨HBB.out, .inr ⟨by omega, i, HI.out, by rw [e2]; rfl⟩⟩

theorem rd_of (l : List S28) (i : Nat) (x : S28) (h : l[i]? = some x) : rd_T28 l i = x := by unfold rd_T28; rw [Int.toNat_natCast, List.getD_eq_getElem?_getD, h]; rfl
set_option maxRecDepth 100000 in
set_option maxHeartbeats 2000000 in
theorem awake_calls (w : World) : Calls Try.prog 13 #[] w fun e w' => e = .returned (.bool true) ∧ Below w.heap.size w w' := by
  go_enter Try.func13, Try.ntmps13
  go_wp2_with fail
  refine (new_calls 5 w).mono ?_
  rintro e w1 ⟨rfl, hl, hb⟩
  have HL := Lib.hid hl
  have HB := Lib.hid hb
  clear hl hb
  go_wp2_with fail
  refine (add_calls HL.out HB.out.size ⟨1, 3⟩ (by simp)).mono ?_
  rintro e w2 ⟨hb, _, h | h | ⟨_, _, rfl, B, d, hl⟩⟩
  · have := h.1; simp at this
  · have := h.2.1; simp [adds, mx] at this
  have HB2 := Lib.hid (HB.out.trans hb)
  have HL2 := Lib.hid (show St w2 w.heap.size w.heap.size B d [⟨1, 3⟩] 5 from hl)
  clear hb hl HL HB
  go_wp2_with fail
  refine (add_calls HL2.out HB2.out.size ⟨5, 7⟩ (by simp)).mono ?_
  rintro e w3 ⟨hb, _, h | h | ⟨_, _, rfl, B3, d3, hl⟩⟩
  · have := h.1; simp at this
  · have := h.2.1; simp [adds] at this
  have HB3 := Lib.hid (HB2.out.trans hb)
  have HL3 := Lib.hid (show St w3 w.heap.size w.heap.size B3 d3 [⟨1, 3⟩, ⟨5, 7⟩] 5 from hl)
  clear hb hl HL2 HB2
  go_wp2_with fail
  refine (add_calls HL3.out HB3.out.size ⟨3, 5⟩ (by simp)).mono ?_
  rintro e w4 ⟨hb, _, h | h | ⟨_, _, rfl, B4, d4, hl⟩⟩
  · have := h.1; simp at this
  · have := h.2.1; simp [adds, mn, mx] at this
  have HB4 := Lib.hid (HB3.out.trans hb)
  have HL4 := Lib.hid (show St w4 w.heap.size w.heap.size B4 d4 [⟨1, 7⟩] 5 from hl)
  clear hb hl HL3 HB3
  go_wp2_with fail
  refine (len_calls HL4.out.blk).mono ?_
  rintro e w5 ⟨rfl, rfl⟩
  go_wp2_with fail
  refine (covers_calls HL4.out ⟨1, 7⟩ (fun i j hij hj => by simp at hj; obtain rfl : j = 0 := by omega
                                                            obtain rfl : i = 0 := by omega
                                                            exact Int.le_refl _) (by simp)).mono ?_
  rintro e w6 ⟨hb, h | ⟨_, i, hi, rfl⟩⟩
  · have := h.1; simp at this
  · have hi0 : i = 0 := by
      rcases Nat.eq_zero_or_pos i with h0 | h0
      · exact h0
      · have := hi.2.1 0 h0
        rw [rd_of _ 0 ⟨1, 7⟩ rfl] at this
        simp at this
    subst hi0
    have hv : (decide (0 < ([⟨1, 7⟩] : List S28).length) && decide ((rd_T28 [⟨1, 7⟩] ((0 : Nat) : Int)).f0 ≤ (1 : Int)) && decide ((rd_T28 [⟨1, 7⟩] ((0 : Nat) : Int)).f1 ≥ (7 : Int))) = true := by
      rw [rd_of _ 0 ⟨1, 7⟩ rfl]; decide
    have HE := Lib.hid (HB4.out.trans (hb.mono HB4.out.size))
    rw [hv]
    clear hb hi hv
    go_wp2_with fail
    go_ret
    exact ⟨rfl, HE.out⟩
end Go.Proofs.Ytiohjnhbapbglaa.SpAsk
