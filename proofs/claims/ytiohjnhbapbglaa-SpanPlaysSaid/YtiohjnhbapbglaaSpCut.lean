/- Cut, Clone, List, Copy of a set. Condition: no row is long. -/
import Derived.Test.YtiohjnhbapbglaaSpLaw
import Derived.Test.YtiohjnhbapbglaaSpAsk
namespace Go.Proofs.Ytiohjnhbapbglaa.SpCut
open Go.RowKit Go.Proofs.Ytiohjnhbapbglaa.PSpanPlays Go.Proofs.Ytiohjnhbapbglaa.SpPure Go.Proofs.Ytiohjnhbapbglaa.SpLaw Go.Proofs.Ytiohjnhbapbglaa.SpSet Go.Proofs.Ytiohjnhbapbglaa.SpFind Go.Proofs.Ytiohjnhbapbglaa.SpAsk Go.Proofs.YtiohjnhbapbglaaW.PrintWords Go.Proofs.YtiohjnhbapbglaaW.PrintLast Go.Proofs.YtiohjnhbapbglaaW.PrintMore

theorem r_zero {α : Type} (d : Kd α) (W : World) (e base : Nat) (hb : base ≤ W.heap.size) : d.R e (W.alloc (.cells #[] e)) base (fun _ => True) (.slice (some ⟨W.heap.size, 0, none⟩) 0 0) [] := by
  refine ⟨fun _ _ => trivial, [], ?_, Reps.none _ _⟩
  have h2 := World.ownsRow_lit (base := base) (e := e) (size := d.sz) W #[] 0 hb (by decide) (by simp)
  simpa using h2
/-- What Clone answers: the same, in a row of its own. -/
def LP (w : World) (l : List S28) (e : Ending) (w' : World) : Prop := ∃ B d, e = .returned (.slice B l.length d) ∧ k28.Q 28 w' w.heap.size (fun _ => True) (.slice B l.length d) l ∧ Below w.heap.size w w'
set_option maxRecDepth 100000 in
set_option maxHeartbeats 2000000 in
theorem clone_calls (A : Option Addr) (c : Nat) (l : List S28) (w : World) (h : k28.C w A l.length l) (hl : l.length ≤ 1000) :
    Calls Try.prog 62 #[.slice A l.length c] w fun e w' => LP w l e w' := by
  have H := Lib.hid h
  have he := fun w n => Lib.run_eql_slice_nil (P := Try.prog) w 34 28 A n c 0 0 Try.underlying34
  go_enter Try.func62, Try.ntmps62
  cases A with
  | none =>
    have h0 : l = [] := by
      rcases Nat.eq_zero_or_pos l.length with h0 | h0
      · exact List.eq_nil_of_length_eq_zero h0
      · obtain ⟨ad, e, _⟩ := at_T28 H.out 0 (by omega) (by omega)
        cases e
    subst h0
    go_wp2_with fail
    go_ret
    exact ⟨none, 0, rfl, Kd.Q_nil _ _ _ _ _, Below.refl _ _⟩
  | some ad =>
    have hz := r_zero k28 w 28 w.heap.size (Nat.le_refl _)
    have hb := below_alloc (Below.refl w.heap.size w) (.cells #[] 28)
    have HZ := Lib.hid hz
    have HB := Lib.hid hb
    clear hz hb h
    go_wp2_with (first | ((with_reducible refine gate_dst (N := 7) rfl ?_); go_must (refine Kd.R_append_rows k28 (w0 := w) w.heap.size rfl (.tmp 5) (.tmp 6) 34 28 (.agg #[.int .u64 0, .int .u64 0]) 16 rfl Try.underlying34 info28 rfl (by decide) (by decide) (.slice (some ⟨w.heap.size, 0, none⟩) 0 0) [] l (some ad) l.length c (fun _ => True) (fun _ => False) rfl (by first | (go_simp; done) | (go_simp; rfl)) HZ.out (Kd.C_below H.out HB.out) (fun x cs h => by obtain rfl := k28_open h; exact k28_mkM _ _ _ x) (fun _ hk => hk.elim) (fun _ _ => trivial) HB.out HB.out.size (by simp only [List.length_nil, Nat.zero_add]; omega) ?_; intro v1 wn hQ hbn hgn _; rw [List.nil_append] at hQ; obtain ⟨B, b, rfl, _, _⟩ := Kd.R_reads hQ; have HB2 := Lib.hid hbn; have HQ := Lib.hid (Kd.Q_of_R hQ); clear hQ hbn hgn)))
    go_ret
    exact ⟨B, b, rfl, HQ.out, HB2.out⟩
set_option maxRecDepth 100000 in
theorem list_calls {w : World} {base g : Nat} {A : Option Addr} {c : Nat} {l : List S28} {lim : Int} (h : St w base g A c l lim) (hl : l.length ≤ 1000) :
    Calls Try.prog 17 #[.pointer (some ⟨g, 0, none⟩)] w fun e w' => LP w l e w' := by
  obtain ⟨l0, l1⟩ := sb_cells h.blk
  have H := Lib.hid (Kd.Q_reads' h.q).2.2
  clear h
  go_enter Try.func17, Try.ntmps17
  go_wp2_with fail
  refine (clone_calls A c l w H.out hl).mono ?_
  rintro e w1 ⟨B, d, rfl, h2, h3⟩
  have H2 := Lib.hid h2
  have H3 := Lib.hid h3
  clear h2 h3
  go_wp2_with fail
  go_ret
  exact ⟨B, d, rfl, H2.out, H3.out⟩
theorem keep2 {w w' : World} {p0 p1 : Addr} {x0 x1 : Value} (hb : Below w.heap.size w w') (h : w.cell? p0 = some x0 ∧ w.cell? p1 = some x1) : w'.cell? p0 = some x0 ∧ w'.cell? p1 = some x1 := ⟨pw_cell_below hb h.1, pw_cell_below hb h.2⟩
/-- What Copy answers: a set of its own, the same. -/
def YP (w : World) (l : List S28) (lim : Int) (e : Ending) (w' : World) : Prop := ∃ g B d, e = .returned (.pointer (some ⟨g, 0, none⟩)) ∧ St w' w.heap.size g B d l lim ∧ Below w.heap.size w w'
set_option maxRecDepth 100000 in
set_option maxHeartbeats 2000000 in
theorem copy_calls {w : World} {base g : Nat} {A : Option Addr} {c : Nat} {l : List S28} {lim : Int} (h : St w base g A c l lim) (hl : l.length ≤ 1000) :
    Calls Try.prog 18 #[.pointer (some ⟨g, 0, none⟩)] w fun e w' => YP w l lim e w' := by
  have HS := Lib.hid h
  obtain ⟨l0, l1⟩ := sb_cells h.blk
  clear h
  go_enter Try.func18, Try.ntmps18
  go_upto_region 3 with (fail)
  have c0 : w.cell? ⟨g, 0, none⟩ = some (.slice A l.length c) ∧ w.cell? ⟨g, 1, none⟩ = some (.int .i64 lim) := ⟨l0, l1⟩
  go_region_held3 (fun w' => w'.cell? ⟨g, 0, none⟩ = some (.slice A l.length c) ∧ w'.cell? ⟨g, 1, none⟩ = some (.int .i64 lim)) (first | go_keep | exact keep2 (by assumption) (by assumption)) ((go_at_call 62; refine (clone_calls A c l _ (Kd.C_below (Kd.Q_reads' HS.out.q).2.2 (below_drew (Below.refl w.heap.size w))) hl).mono ?_; rintro e wx ⟨B, d, rfl, hq, hbx⟩))
  all_goals
    have hb2 := below_step (below_step (below_drew (Below.refl w.heap.size w)) hbx) (below_alloc (Below.refl wx.heap.size wx) (SB B l.length d lim))
    have hs2 : St (wx.alloc (SB B l.length d lim)) w.heap.size wx.heap.size B d l lim := ⟨blk_new wx _, Kd.Q_alloc hq _, Nat.le_trans (below_drew (Below.refl w.heap.size w)).size hbx.size⟩
    have HB := Lib.hid hb2
    have HS2 := Lib.hid hs2
    clear hq hbx hb2 hs2 l0 l1 c0
    go_wp2_with fail
    go_ret
    exact ⟨wx.heap.size, B, d, rfl, HS2.out, HB.out⟩

theorem cuts_take (r : S28) (l : List S28) (j : Nat) (h : j < l.length) : cuts r (l.take (j + 1)) = cuts r (l.take j) ++ cut1 r (rd_T28 l j) := by
  have e : l[j]? = some (rd_T28 l j) := by
    unfold rd_T28
    rw [Int.toNat_natCast, List.getD_eq_getElem?_getD, List.getElem?_eq_getElem h]; rfl
  rw [List.take_add_one, e]
  simp [cuts]
theorem cut1_len (r x : S28) : (cut1 r x).length ≤ 2 := by unfold cut1; split <;> split <;> simp
theorem cuts_len (r : S28) : ∀ l : List S28, (cuts r l).length ≤ 2 * l.length
  | [] => by simp [cuts]
  | x :: l => by
    have e : cuts r (x :: l) = cut1 r x ++ cuts r l := by simp [cuts]
    rw [e, List.length_append]
    have := cut1_len r x
    have := cuts_len r l
    simp; omega
/-- What Cut leaves. -/
def UP (w : World) (base g : Nat) (l : List S28) (lim : Int) (r : S28) (e : Ending) (w' : World) : Prop :=
  Below base w w' ∧ KeepBut w w' g none ∧
  ((r.f0 ≥ r.f1 ∧ e = .returned (.int .i64 0) ∧ ∃ B d, St w' base g B d l lim) ∨
   (r.f0 < r.f1 ∧ ((cuts r l).length : Int) > lim ∧ e = .returned (.int .i64 7) ∧ ∃ B d, St w' base g B d l lim) ∨
   (r.f0 < r.f1 ∧ ((cuts r l).length : Int) ≤ lim ∧ e = .returned (.int .i64 0) ∧ ∃ B d, St w' base g B d (cuts r l) lim))
set_option maxRecDepth 100000 in
set_option maxHeartbeats 4000000 in
theorem cut_calls {w : World} {base g : Nat} {A : Option Addr} {c : Nat} {l : List S28} {lim : Int} (h : St w base g A c l lim) (hbs : base ≤ w.heap.size) (r : S28) (hl : l.length ≤ 1000) :
    Calls Try.prog 19 #[.pointer (some ⟨g, 0, none⟩), .agg #[.int .u64 r.f0, .int .u64 r.f1]] w fun e w' => UP w base g l lim r e w' := by
  have k1 := blk_new w (RG r)
  have hb1 := below_alloc (Below.refl w.heap.size w) (RG r)
  have h1 := h.below hb1
  have hlt := h.lt
  have HK := Lib.hid (KeepBut.of_below hb1 g none)
  have hs1 := hb1.size
  have hgw : w.heap.size < (w.alloc (RG r)).heap.size := blk_lt k1
  go_enter Try.func19, Try.ntmps19
  go_upto_region 1 with (fail)
  show Code.wp _ _ _ _ (w.alloc (RG r))
  generalize w.alloc (RG r) = w1 at *
  have hgp : g ≠ w.heap.size := by omega
  generalize hgp2 : w.heap.size = gp at *
  have HB := Lib.hid hb1
  have KR := Lib.hid k1
  have HS := Lib.hid h1
  clear h hb1 k1 h1 hgp2
  obtain ⟨r0, r1⟩ := rg_cells KR.out
  obtain ⟨l0, l1⟩ := sb_cells HS.out.blk
  by_cases hr : r.f0 ≥ r.f1
  · have g1 : decide (r.f0 ≥ r.f1) = true := decide_eq_true hr
    have HBB := Lib.hid (HB.out.mono hbs)
    go_wp2_with fail
    go_ret
    exact ⟨HBB.out, HK.out, .inl ⟨hr, rfl, _, _, HS.out⟩⟩
  · have g1 : decide (r.f0 ≥ r.f1) = false := decide_eq_false hr
    go_upto_region 7 with (fail)
    go_loopw [5, 22] (fun ov i wr => ∃ (j : Nat) (C : Option Addr) (cc : Nat), j ≤ l.length ∧ ov = .slice C (cuts r (l.take j)).length cc ∧ i = .int .i64 j ∧ Below w1.heap.size w1 wr ∧ k28.Q 28 wr w1.heap.size (fun _ => True) (.slice C (cuts r (l.take j)).length cc) (cuts r (l.take j))) (fun _ i _ => l.length - (intOf i).toNat)
    case atStart => exact ⟨0, none, 0, Nat.zero_le _, rfl, rfl, Below.refl _ _, Kd.Q_nil _ _ _ _ _⟩
    case round =>
      clear l0 l1 r0 r1
      obtain ⟨j, C, cc, hj, rfl, rfl, hb, hq⟩ := hrel
      by_cases hjl : j < l.length
      · have e1 : (j : Int) < (l.length : Int) := by omega
        have hs2 := HS.out.below hb
        obtain ⟨ra, o, cap, hA, _⟩ := Kd.Q_form hs2.q (by omega)
        obtain rfl : A = some ⟨ra, o, none⟩ := by injection hA
        clear hA
        obtain ⟨p0, p1⟩ := row_cells hs2.q j hjl
        have HT := Lib.hid (cuts_take r l j hjl)
        have hcl : (cuts r (l.take j)).length ≤ 2000 := Nat.le_trans (cuts_len r _) (by simp; omega)
        generalize rd_T28 l j = x at *
        generalize cuts r (l.take j) = cs at *
        go_upto_region 9 with (fail)
        have kx0 := blk_new wr (RG x)
        have hb0 := below_step hb (below_alloc (Below.refl wr.heap.size wr) (RG x))
        have hq0 := Kd.Q_below hq (below_alloc (Below.refl wr.heap.size wr) (RG x))
        have kr0 := blk_below KR.out hb0
        have hsc := Kd.Q_lt hq
        show Code.wp _ _ _ _ (wr.alloc (RG x))
        clear hb hq hs2 p0 p1
        generalize wr.alloc (RG x) = w2 at *
        generalize wr.heap.size = gx at *
        have HB := Lib.hid hb0
        have HQ := Lib.hid hq0
        have KR2 := Lib.hid kr0
        have KX := Lib.hid kx0
        have HSC := Lib.hid hsc
        clear hb0 hq0 kr0 kx0 hsc
        obtain ⟨x0, x1⟩ := rg_cells KX.out
        obtain ⟨r0, r1⟩ := rg_cells KR2.out
        obtain ⟨mv, hmv⟩ : ∃ mv, (if r.f0 < x.f1 then r.f0 else x.f1) = mv := ⟨_, rfl⟩
        obtain ⟨xv, hxv⟩ : ∃ xv, (if x.f0 < r.f1 then r.f1 else x.f0) = xv := ⟨_, rfl⟩
        by_cases h1 : x.f0 < r.f0
        · by_cases h2 : x.f1 > r.f1
          · have d1 : decide (x.f0 < r.f0) = true := decide_eq_true h1
            have d2 : decide (x.f1 > r.f1) = true := decide_eq_true h2
            go_upto_region 11 with (first | ((with_reducible refine gate_dst (N := 41) rfl ?_); go_must (refine Kd.Q_append k28 (w0 := w2) w1.heap.size rfl (.tmp 31) (.tmp 40) 34 28 (.agg #[.int .u64 0, .int .u64 0]) 16 rfl Try.underlying34 info28 rfl (by decide) (by decide) (.slice C cs.length cc) cs (⟨x.f0, r.f0⟩ : S28) [.int .u64 x.f0, .int .u64 r.f0] (fun _ => True) (fun _ => False) rfl (by first | (go_simp; done) | (go_simp; rfl)) (k28_mkM _ _ _ (⟨x.f0, r.f0⟩ : S28)) (fun _ hk => hk.elim) (fun _ _ => trivial) HQ.out ((Below.refl w2.heap.size w2).mono HB.out.size) HB.out.size (by first | omega | (simp; omega)) ?_; intro v1 wa hQ hbn hgn hat; obtain ⟨cs1, hcs1⟩ : ∃ cs1, cs ++ [(⟨x.f0, r.f0⟩ : S28)] = cs1 := ⟨_, rfl⟩; rw [hcs1] at hQ; have hcl1 : cs1.length ≤ 2001 := (by rw [← hcs1]; simp; omega); have HCS1 := Lib.hid hcs1; clear hcs1; obtain ⟨B1, b1, rfl, _⟩ := Kd.Q_reads hQ; have hbn2 := HB.out.trans hbn; have hkr := blk_grown KR2.out hgn (fun e => absurd (Kd.Q_base HQ.out gp e.symm) (by omega)); have hkx := blk_grown KX.out hgn (fun e => absurd (HSC.out gx e.symm) (Nat.lt_irrefl gx)); clear HQ HB KR2 KX x0 x1 r0 r1; have HQ := Lib.hid hQ; have HB := Lib.hid hbn2; obtain ⟨x0, x1⟩ := rg_cells hkx; obtain ⟨r0, r1⟩ := rg_cells hkr; clear hQ hbn hgn hat hbn2 hkr hkx)))
            go_wp2_with (first | ((with_reducible refine gate_dst (N := 57) rfl ?_); go_must (refine Kd.Q_append k28 (w0 := wa) w1.heap.size rfl (.tmp 47) (.tmp 56) 34 28 (.agg #[.int .u64 0, .int .u64 0]) 16 rfl Try.underlying34 info28 rfl (by decide) (by decide) (.slice B1 cs1.length b1) cs1 (⟨r.f1, x.f1⟩ : S28) [.int .u64 r.f1, .int .u64 x.f1] (fun _ => True) (fun _ => False) rfl (by first | (go_simp; done) | (go_simp; rfl)) (k28_mkM _ _ _ (⟨r.f1, x.f1⟩ : S28)) (fun _ hk => hk.elim) (fun _ _ => trivial) HQ.out ((Below.refl wa.heap.size wa).mono HB.out.size) HB.out.size (by first | omega | (simp; omega)) ?_; intro v1 wb hQ hbn hgn hat; obtain ⟨B2, b2, rfl, _⟩ := Kd.Q_reads hQ; have hbn2 := HB.out.trans hbn; clear HQ HB; have HQ := Lib.hid hQ; have HB := Lib.hid hbn2; clear hQ hbn hgn hat hbn2)))
            have em : mn x.f1 r.f0 = r.f0 := by unfold mn; split <;> omega
            have ex : mx x.f0 r.f1 = r.f1 := by unfold mx; split <;> omega
            have HT2 := Lib.hid (show cuts r (l.take (j + 1)) = cs1 ++ [(⟨r.f1, x.f1⟩ : S28)] by rw [HT.out, ← HCS1.out]; unfold cut1; rw [if_pos h1, if_pos h2, em, ex]; simp)
            go_roundw
            case rel => exact ⟨j + 1, B2, b2, hjl, by rw [HT2.out] <;> simp, by go_num, HB.out, by rw [HT2.out]; exact HQ.out⟩
            case measure => simp [intOf]; omega
          · have d1 : decide (x.f0 < r.f0) = true := decide_eq_true h1
            have d2 : decide (x.f1 > r.f1) = false := decide_eq_false h2
            go_wp2_with (first | ((with_reducible refine gate_dst (N := 41) rfl ?_); go_must (refine Kd.Q_append k28 (w0 := w2) w1.heap.size rfl (.tmp 31) (.tmp 40) 34 28 (.agg #[.int .u64 0, .int .u64 0]) 16 rfl Try.underlying34 info28 rfl (by decide) (by decide) (.slice C cs.length cc) cs (⟨x.f0, mv⟩ : S28) [.int .u64 x.f0, .int .u64 mv] (fun _ => True) (fun _ => False) rfl (by first | (go_simp; done) | (go_simp; rfl)) (k28_mkM _ _ _ (⟨x.f0, mv⟩ : S28)) (fun _ hk => hk.elim) (fun _ _ => trivial) HQ.out ((Below.refl w2.heap.size w2).mono HB.out.size) HB.out.size (by first | omega | (simp; omega)) ?_; intro v1 wa hQ hbn hgn hat; obtain ⟨B1, b1, rfl, _⟩ := Kd.Q_reads hQ; have hbn2 := HB.out.trans hbn; have hkr := blk_grown KR2.out hgn (fun e => absurd (Kd.Q_base HQ.out gp e.symm) (by omega)); have hkx := blk_grown KX.out hgn (fun e => absurd (HSC.out gx e.symm) (Nat.lt_irrefl gx)); clear HQ HB KR2 KX x0 x1 r0 r1; have HQ := Lib.hid hQ; have HB := Lib.hid hbn2; obtain ⟨x0, x1⟩ := rg_cells hkx; obtain ⟨r0, r1⟩ := rg_cells hkr; clear hQ hbn hgn hat hbn2 hkr hkx)))
            have HT2 := Lib.hid (show cuts r (l.take (j + 1)) = cs ++ [(⟨x.f0, mv⟩ : S28)] by rw [HT.out]; unfold cut1; rw [if_pos h1, if_neg h2]; simp [mn, hmv])
            go_roundw
            case rel => exact ⟨j + 1, B1, b1, hjl, by rw [HT2.out] <;> simp, by go_num, HB.out, by rw [HT2.out]; simpa using HQ.out⟩
            case measure => simp [intOf]; omega
        · by_cases h2 : x.f1 > r.f1
          · have d1 : decide (x.f0 < r.f0) = false := decide_eq_false h1
            have d2 : decide (x.f1 > r.f1) = true := decide_eq_true h2
            go_wp2_with (first | ((with_reducible refine gate_dst (N := 57) rfl ?_); go_must (refine Kd.Q_append k28 (w0 := w2) w1.heap.size rfl (.tmp 47) (.tmp 56) 34 28 (.agg #[.int .u64 0, .int .u64 0]) 16 rfl Try.underlying34 info28 rfl (by decide) (by decide) (.slice C cs.length cc) cs (⟨xv, x.f1⟩ : S28) [.int .u64 xv, .int .u64 x.f1] (fun _ => True) (fun _ => False) rfl (by first | (go_simp; done) | (go_simp; rfl)) (k28_mkM _ _ _ (⟨xv, x.f1⟩ : S28)) (fun _ hk => hk.elim) (fun _ _ => trivial) HQ.out ((Below.refl w2.heap.size w2).mono HB.out.size) HB.out.size (by first | omega | (simp; omega)) ?_; intro v1 wb hQ hbn hgn hat; obtain ⟨B2, b2, rfl, _⟩ := Kd.Q_reads hQ; have hbn2 := HB.out.trans hbn; clear HQ HB; have HQ := Lib.hid hQ; have HB := Lib.hid hbn2; clear hQ hbn hgn hat hbn2)))
            have HT2 := Lib.hid (show cuts r (l.take (j + 1)) = cs ++ [(⟨xv, x.f1⟩ : S28)] by rw [HT.out]; unfold cut1; rw [if_neg h1, if_pos h2]; simp [mx, hxv])
            go_roundw
            case rel => exact ⟨j + 1, B2, b2, hjl, by rw [HT2.out] <;> simp, by go_num, HB.out, by rw [HT2.out]; simpa using HQ.out⟩
            case measure => simp [intOf]; omega
          · have d1 : decide (x.f0 < r.f0) = false := decide_eq_false h1
            have d2 : decide (x.f1 > r.f1) = false := decide_eq_false h2
            go_wp2_with fail
            have HT2 := Lib.hid (show cuts r (l.take (j + 1)) = cs by rw [HT.out]; unfold cut1; rw [if_neg h1, if_neg h2]; simp)
            go_roundw
            case rel => exact ⟨j + 1, C, cc, hjl, by rw [HT2.out] <;> simp, by go_num, HB.out, by rw [HT2.out]; simpa using HQ.out⟩
            case measure => simp [intOf]; omega
      · have hje : j = l.length := by omega
        subst hje
        rw [List.take_length] at hq ⊢
        have e1 : decide ((l.length : Int) < (l.length : Int)) = false := decide_eq_false (by omega)
        have hs2 := HS.out.below hb
        have hq2 := Kd.Q_lower hq (show base ≤ w1.heap.size by omega)
        have HBB := Lib.hid ((HB.out.mono hbs).trans (hb.mono (by omega)))
        have HK2 := Lib.hid (HK.out.trans (KeepBut.of_below hb g none) (.inl rfl))
        have HS2 := Lib.hid hs2
        have HQ2 := Lib.hid hq2
        obtain ⟨m, hm⟩ : ∃ m, (cuts r l).length = m := ⟨_, rfl⟩
        have HM := Lib.hid hm
        clear HS KR HB HK hb hs2 hq hq2
        rw [hm]
        clear hm
        obtain ⟨l0, l1⟩ := sb_cells HS2.out.blk
        by_cases hml : (m : Int) > lim
        · have g2 : decide ((m : Int) > lim) = true := decide_eq_true hml
          go_wp2_with fail
          go_ret
          exact ⟨HBB.out, HK2.out, .inr (.inl ⟨by omega, by rw [HM.out]; exact hml, rfl, _, _, HS2.out⟩)⟩
        · have g2 : decide ((m : Int) > lim) = false := decide_eq_false hml
          have u0 := blk_frozen HS2.out.blk 0
          have hs3 := HS2.out.row HQ2.out
          rw [HM.out] at hs3
          have HS3 := Lib.hid hs3
          have HB3 := Lib.hid (HBB.out.setCell (p := ⟨g, 0, none⟩) HS2.out.old (.slice C m cc))
          have HK3 := Lib.hid (HK2.out.set_ 0 (.slice C m cc))
          clear hs3
          go_wp2_with fail
          go_ret
          exact ⟨HB3.out, HK3.out, .inr (.inr ⟨by omega, by rw [HM.out]; omega, rfl, _, _, HS3.out⟩)⟩
end Go.Proofs.Ytiohjnhbapbglaa.SpCut
