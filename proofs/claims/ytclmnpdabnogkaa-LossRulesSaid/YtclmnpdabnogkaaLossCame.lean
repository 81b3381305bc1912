/- Came: the packets with one number came; the others are left. Conditions: the number is below the next one; no number is great. -/
import Derived.Test.YtclmnpdabnogkaaLossLed
import Derived.Deep.QuietTactic
import Derived.Deep.RegionLaw
import Derived.OwnWalk
namespace Go.Proofs.Ytclmnpdabnogkaa.LossCame
open Go.RowKit Go.Proofs.Ytclmnpdabnogkaa.PLossTimes Go.Proofs.Ytclmnpdabnogkaa.EvClone Go.Proofs.Ytclmnpdabnogkaa.LossIn Go.Proofs.Ytclmnpdabnogkaa.LossLed Go.Proofs.YtclmnpdabnogkaaW.PrintWords Go.Proofs.YtclmnpdabnogkaaW.PrintLast Go.Proofs.YtclmnpdabnogkaaW.PrintMore

def isx (x : Int) (p : S56) : Bool := decide (p.f0 = x)
/-- The two rows that grow: what came, what is left. -/
structure Rows (w wr : World) (C : Option Addr) (cc : Nat) (cs : List S56) (D : Option Addr) (dd : Nat) (ds : List S56) : Prop where
  qc : k56.Q 56 wr w.heap.size (fun _ => True) (.slice C cs.length cc) cs
  qd : k56.Q 56 wr w.heap.size (fun _ => True) (.slice D ds.length dd) ds
  ap : ∀ k, (Value.slice C cs.length cc).ownBlock = some k → some k ≠ (Value.slice D ds.length dd).ownBlock
  bel : Below w.heap.size w wr
section
variable {w wr wn : World} {C : Option Addr} {cc : Nat} {cs : List S56} {D : Option Addr} {dd : Nat} {ds : List S56}
theorem rows_nil (hb : Below w.heap.size w wr) : Rows w wr none 0 [] none 0 [] := ⟨Kd.Q_nil _ _ _ _ _, Kd.Q_nil _ _ _ _ _, fun k h => by simp [Value.ownBlock] at h, hb⟩
theorem Rows.below (h : Rows w wr C cc cs D dd ds) (hb : Below wr.heap.size wr wn) : Rows w wn C cc cs D dd ds := ⟨Kd.Q_below h.qc hb, Kd.Q_below h.qd hb, h.ap, below_step h.bel hb⟩
theorem Rows.growD (h : Rows w wr C cc cs D dd ds) {B : Option Addr} {b : Nat} {qs : List S56} (hg : wr.grownBy wn (Value.slice D ds.length dd).ownBlock) (hq : k56.Q 56 wn w.heap.size (fun _ => True) (.slice B qs.length b) qs) (hb : Below w.heap.size w wn)
    (hat : (Value.slice B qs.length b).ownBlock = (Value.slice D ds.length dd).ownBlock ∨ ∃ k, (Value.slice B qs.length b).ownBlock = some k ∧ wr.heap.size ≤ k) : Rows w wn C cc cs B b qs :=
  ⟨Kd.Q_grown2 h.qc rfl hg (fun k hk e => h.ap k e.symm hk.symm), hq, fun k hk => by
    rcases hat with e | ⟨k', e, hk'⟩
    · rw [e]; exact h.ap k hk
    · rw [e]
      have := Kd.Q_lt h.qc k hk
      intro he
      injection he with he
      omega, hb⟩
theorem Rows.growC (h : Rows w wr C cc cs D dd ds) {B : Option Addr} {b : Nat} {qs : List S56} (hg : wr.grownBy wn (Value.slice C cs.length cc).ownBlock) (hq : k56.Q 56 wn w.heap.size (fun _ => True) (.slice B qs.length b) qs) (hb : Below w.heap.size w wn)
    (hat : (Value.slice B qs.length b).ownBlock = (Value.slice C cs.length cc).ownBlock ∨ ∃ k, (Value.slice B qs.length b).ownBlock = some k ∧ wr.heap.size ≤ k) : Rows w wn B b qs D dd ds :=
  ⟨hq, Kd.Q_grown2 h.qd rfl hg h.ap, fun k hk => by
    rcases hat with e | ⟨k', e, hk'⟩
    · exact h.ap k (e.symm.trans hk)
    · have e2 : k' = k := by rw [hk] at e; injection e with e; exact e.symm
      intro he
      have := Kd.Q_lt h.qd k he.symm
      omega, hb⟩
end
theorem isx_eq (x : Int) (p : S56) : (decide (x ≤ p.f0) && decide (p.f0 < x + 1)) = isx x p := by
  unfold isx
  by_cases h : p.f0 = x
  · subst h; simp; omega
  · simp [h]; omega
theorem filter_take (f : S56 → Bool) (ps : List S56) (j : Nat) (h : j < ps.length) : (ps.take (j + 1)).filter f = (ps.take j).filter f ++ (if f (rd_T56 ps j) then [rd_T56 ps j] else []) := by
  have e : ps[j]? = some (rd_T56 ps j) := by
    unfold rd_T56
    rw [Int.toNat_natCast, List.getD_eq_getElem?_getD, List.getElem?_eq_getElem h]; rfl
  rw [List.take_add_one, e, List.filter_append]
  congr 1
  simp [List.filter_cons]
/-- A packet of a row, as its cells lie. -/
theorem row_cells {w : World} {base : Nat} {ok : Nat → Prop} {r o c n : Nat} {ps : List S56} (h : k56.Q 56 w base ok (.slice (some ⟨r, o, none⟩) n c) ps) (j : Nat) (hj : j < n) :
    w.cell? ⟨r, o + j * 5, none⟩ = some (.int .u64 (rd_T56 ps j).f0) ∧ w.cell? ⟨r, o + j * 5 + 1, none⟩ = some (.int .u64 (rd_T56 ps j).f1) ∧ w.cell? ⟨r, o + j * 5 + 2, none⟩ = some (.int .u64 (rd_T56 ps j).f2) ∧ w.cell? ⟨r, o + j * 5 + 3, none⟩ = some (.bool (rd_T56 ps j).f3) ∧ w.cell? ⟨r, o + j * 5 + 4, none⟩ = some (.bool (rd_T56 ps j).f4) := by
  obtain ⟨hn, _, hC⟩ := Kd.Q_reads' h
  obtain ⟨ad, e, hc⟩ := at_T56 hC (j : Int) (by omega) (by omega)
  injection e with e
  subst e
  rw [add_at, Int.toNat_natCast] at hc
  exact hc

/-- What Came leaves. -/
def CP (w : World) (base g : Nat) (ps : List S56) (x ak la : Int) (wt : Bool) (ls : Int) (sm : Bool) (e : Ending) (w' : World) : Prop :=
  ∃ (C B : Option Addr) (cc b : Nat) (m : Bool), e = .returned (.tuple #[.slice C (ps.filter (isx x)).length cc, .bool m, .int .i64 0]) ∧
      Led w' base g B b (ps.filter (fun p => !isx x p)) (if (ps.filter (isx x)).length = 0 then ak else max ak x) la wt ls sm ∧ Below base w w' ∧ KeepBut w w' g none
set_option maxRecDepth 100000 in
set_option maxHeartbeats 8000000 in
theorem came_calls {w : World} {base g : Nat} {A : Option Addr} {c : Nat} {ps : List S56} {ak la : Int} {wt : Bool} {ls : Int} {sm : Bool} (h : Led w base g A c ps ak la wt ls sm) (hbase : base ≤ w.heap.size) (x nx : Int) (r cr : Nat)
    (h0 : w.cell? ⟨r, 0, none⟩ = some (.int .u64 x)) (h1 : w.cell? ⟨r, 1, none⟩ = some (.int .u64 (x + 1))) (hx : 0 ≤ x) (hxn : x < nx) (hnx : nx ≤ 4611686018427387904) (_hak : -1 ≤ ak) (_hak9 : ak ≤ 4611686018427387904)
    (hn : ∀ p ∈ ps, 0 ≤ p.f0 ∧ p.f0 ≤ 4611686018427387904) (hl : ps.length ≤ 200) :
    Calls Try.prog 23 #[.pointer (some ⟨g, 0, none⟩), .slice (some ⟨r, 0, none⟩) 1 cr, .int .u64 nx] w fun e w' => CP w base g ps x ak la wt ls sm e w' := by
  have HL := Lib.hid h
  have HN := Lib.hid hn
  have HX0 := Lib.hid h0
  have HX1 := Lib.hid h1
  clear h hn
  go_enter Try.func23, Try.ntmps23
  go_upto_region 5 with (fail)
  go_loopw [9, 23] (fun hi i wr => (hi = .int .i64 (-1) ∧ i = .int .i64 0 ∧ Below w.heap.size w wr) ∨ (hi = .int .i64 x ∧ i = .int .i64 1 ∧ Below w.heap.size w wr)) (fun _ i _ => 1 - (intOf i).toNat)
  case atStart => exact .inl ⟨rfl, rfl, Below.refl _ _⟩
  case round =>
    rcases hrel with ⟨rfl, rfl, hb⟩ | ⟨rfl, rfl, hb⟩
    · have g0 := pw_cell_below hb h0
      have g1 := pw_cell_below hb h1
      go_upto_region 7 with (fail)
      have hb2 := below_step hb (below_alloc (Below.refl wr.heap.size wr) (.cells #[.int .u64 x, .int .u64 (x + 1)] 65))
      have k1 := blk_new wr (.cells #[.int .u64 x, .int .u64 (x + 1)] 65)
      show Code.wp _ _ _ _ (wr.alloc (.cells #[.int .u64 x, .int .u64 (x + 1)] 65))
      generalize wr.alloc (.cells #[.int .u64 x, .int .u64 (x + 1)] 65) = w2 at *
      have x0 : w2.cell? ⟨wr.heap.size, 0, none⟩ = some (.int .u64 x) := blk_cell k1 0
      have x1 : w2.cell? ⟨wr.heap.size, 1, none⟩ = some (.int .u64 (x + 1)) := blk_cell k1 1
      have HB := Lib.hid hb2
      clear g0 g1 hb hb2 k1 h0 h1
      have t1 : decide (x ≥ x + 1) = false := decide_eq_false (by omega)
      have t2 : decide (x + 1 > nx) = false := decide_eq_false (by omega)
      go_wp2_with fail
      go_roundw
      case rel => exact .inr ⟨by go_num, by go_num, HB.out⟩
      case measure => simp [intOf]
    · have HB := Lib.hid hb
      have H0 := Lib.hid (pw_cell_below hb h0)
      have H1 := Lib.hid (pw_cell_below hb h1)
      clear hb h0 h1
      obtain ⟨l0, l1, l2, l3, l4, l5⟩ := ld_cells (HL.out.below HB.out).blk
      go_upto_region 14 with (fail)
      go_loopw [12, 13, 14, 50] (fun cv dv mv i w2 => ∃ (j : Nat) (C D : Option Addr) (cc dd : Nat) (m : Bool), j ≤ ps.length ∧ cv = .slice C ((ps.take j).filter (isx x)).length cc ∧ dv = .slice D ((ps.take j).filter (fun p => !isx x p)).length dd ∧ mv = .bool m ∧ i = .int .i64 j ∧ Rows w w2 C cc ((ps.take j).filter (isx x)) D dd ((ps.take j).filter (fun p => !isx x p))) (fun _ _ _ i _ => ps.length - (intOf i).toNat)
      case atStart => exact ⟨0, none, none, 0, 0, false, Nat.zero_le _, rfl, rfl, rfl, rfl, rows_nil HB.out⟩
      case round =>
        obtain ⟨j, C, D, cc, dd, m, hj, rfl, rfl, rfl, rfl, hR⟩ := hrel
        have HR := Lib.hid hR
        clear hR l0 l1 l2 l3 l4 l5 HB H0 H1
        have HL2 := Lib.hid (HL.out.below HR.out.bel)
        by_cases hjl : j < ps.length
        · have e1 : (j : Int) < (ps.length : Int) := by omega
          obtain ⟨ra, o, cap, hA, _⟩ := Kd.Q_form HL2.out.q (by omega)
          obtain rfl : A = some ⟨ra, o, none⟩ := by injection hA
          clear hA
          obtain ⟨p0, p1, p2, p3, p4⟩ := row_cells HL2.out.q j hjl
          have HC := Lib.hid (filter_take (isx x) ps j hjl)
          have HD := Lib.hid (filter_take (fun p => !isx x p) ps j hjl)
          have hp := HN.out (rd_T56 ps j) (by unfold rd_T56; rw [Int.toNat_natCast, List.getD_eq_getElem?_getD, List.getElem?_eq_getElem hjl]; exact List.getElem_mem _)
          generalize rd_T56 ps j = p at *
          have lc : ((ps.take j).filter (isx x)).length ≤ 200 := Nat.le_trans (List.length_filter_le _ _) (by simp; omega)
          have ld : ((ps.take j).filter (fun p => !isx x p)).length ≤ 200 := Nat.le_trans (List.length_filter_le _ _) (by simp; omega)
          generalize (ps.take j).filter (isx x) = cs at *
          generalize (ps.take j).filter (fun p => !isx x p) = ds at *
          go_upto_region 16 with (fail)
          have k1 := blk_new wr (PK p)
          have hR3 := HR.out.below (below_alloc (Below.refl _ _) (PK p))
          have hs := Kd.Q_lt HR.out.qc
          show Code.wp _ _ _ _ (wr.alloc (PK p))
          clear HR HL2 p0 p1 p2 p3 p4
          generalize wr.alloc (PK p) = w3 at *
          generalize wr.heap.size = gp at *
          have HR := Lib.hid hR3
          have K1 := Lib.hid k1
          have HS := Lib.hid hs
          clear hR3 k1 hs
          go_wp2_with fail
          have q1 := contains_calls x (x + 1) p.f0 r cr gp w3 (pw_cell_below HR.out.bel HX0.out) (pw_cell_below HR.out.bel HX1.out) (pk_cells K1.out).1
          rw [isx_eq] at q1
          refine q1.mono ?_
          clear q1
          rintro e w4 ⟨rfl, hb4⟩
          have hR4 := HR.out.below hb4
          have k4 := blk_below K1.out hb4
          clear HR K1 hb4
          have HR := Lib.hid hR4
          have K1 := Lib.hid k4
          clear hR4 k4
          obtain ⟨p0, p1, p2, p3, p4⟩ := pk_cells K1.out
          obtain ⟨q, hq⟩ : ∃ q, isx x p = q := ⟨_, rfl⟩
          rw [hq] at HC HD ⊢
          cases q with
          | false =>
            simp only [Bool.not_false, if_true, List.append_nil, Bool.false_eq_true, if_false] at HC HD
            go_wp2_with (first | ((with_reducible refine gate_dst (N := 61) rfl ?_); go_must (refine Kd.Q_append k56 (w0 := w) w.heap.size rfl (.tmp 58) (.tmp 60) 61 56 (.agg #[.int .u64 0, .int .u64 0, .int .u64 0, .bool false, .bool false]) 32 rfl Try.underlying61 info56 rfl (by decide) (by decide) (.slice D ds.length dd) ds p [.int .u64 p.f0, .int .u64 p.f1, .int .u64 p.f2, .bool p.f3, .bool p.f4] (fun _ => True) (fun _ => False) rfl (by first | (go_simp; done) | (go_simp; rfl)) (k56_mkM _ _ _ _) (fun _ hk => hk.elim) (fun _ _ => trivial) HR.out.qd HR.out.bel HR.out.bel.size (by omega) ?_; intro v1 wn hQ hbn hgn hat; obtain ⟨B, b, rfl, _⟩ := Kd.Q_reads hQ; have hRn := HR.out.growD hgn hQ hbn hat; have HRN := Lib.hid hRn; clear hQ hgn hbn hat hRn)))
            go_roundw
            case rel => exact ⟨j + 1, C, B, cc, b, m, hjl, by rw [HC.out] <;> simp, by rw [HD.out] <;> simp, rfl, by go_num, by rw [HC.out, HD.out]; exact HRN.out⟩
            case measure => simp [intOf]; omega
          | true =>
            simp only [Bool.not_true, if_true, List.append_nil, Bool.false_eq_true, if_false] at HC HD
            have hpx : p.f0 = x := by unfold isx at hq; simpa using hq
            have t1 : (p.f0 == x) = true := by simp [hpx]
            have HQ := Lib.hid hpx
            obtain ⟨m', hm'⟩ : ∃ m', (m || p.f3) = m' := ⟨_, rfl⟩
            clear hq hpx
            cases m with
            | true =>
              go_wp2_with (first | ((with_reducible refine gate_dst (N := 65) rfl ?_); go_must (refine Kd.Q_append k56 (w0 := w) w.heap.size rfl (.tmp 62) (.tmp 64) 61 56 (.agg #[.int .u64 0, .int .u64 0, .int .u64 0, .bool false, .bool false]) 32 rfl Try.underlying61 info56 rfl (by decide) (by decide) (.slice C cs.length cc) cs p [.int .u64 p.f0, .int .u64 p.f1, .int .u64 p.f2, .bool p.f3, .bool p.f4] (fun _ => True) (fun _ => False) rfl (by first | (go_simp; done) | (go_simp; rfl)) (k56_mkM _ _ _ _) (fun _ hk => hk.elim) (fun _ _ => trivial) HR.out.qc HR.out.bel HR.out.bel.size (by omega) ?_; intro v1 wn hQ hbn hgn hat; obtain ⟨B, b, rfl, _⟩ := Kd.Q_reads hQ; have hRn := HR.out.growC hgn hQ hbn hat; have HRN := Lib.hid hRn; have hkn := blk_grown K1.out hgn (fun e => absurd (HS.out gp e.symm) (Nat.lt_irrefl gp)); obtain ⟨y0, y1, y2, y3, y4⟩ := pk_cells hkn; clear hQ hgn hbn hat hRn hkn)))
              go_roundw
              case rel => exact ⟨j + 1, B, D, b, dd, true, hjl, by rw [HC.out] <;> simp, by rw [HD.out] <;> simp, rfl, by go_num, by rw [HC.out, HD.out]; exact HRN.out⟩
              case measure => simp [intOf]; omega
            | false =>
              go_wp2_with (first | ((with_reducible refine gate_dst (N := 65) rfl ?_); go_must (refine Kd.Q_append k56 (w0 := w) w.heap.size rfl (.tmp 62) (.tmp 64) 61 56 (.agg #[.int .u64 0, .int .u64 0, .int .u64 0, .bool false, .bool false]) 32 rfl Try.underlying61 info56 rfl (by decide) (by decide) (.slice C cs.length cc) cs p [.int .u64 p.f0, .int .u64 p.f1, .int .u64 p.f2, .bool p.f3, .bool p.f4] (fun _ => True) (fun _ => False) rfl (by first | (go_simp; done) | (go_simp; rfl)) (k56_mkM _ _ _ _) (fun _ hk => hk.elim) (fun _ _ => trivial) HR.out.qc HR.out.bel HR.out.bel.size (by omega) ?_; intro v1 wn hQ hbn hgn hat; obtain ⟨B, b, rfl, _⟩ := Kd.Q_reads hQ; have hRn := HR.out.growC hgn hQ hbn hat; have HRN := Lib.hid hRn; have hkn := blk_grown K1.out hgn (fun e => absurd (HS.out gp e.symm) (Nat.lt_irrefl gp)); obtain ⟨y0, y1, y2, y3, y4⟩ := pk_cells hkn; clear hQ hgn hbn hat hRn hkn)))
              go_roundw
              case rel => exact ⟨j + 1, B, D, b, dd, _, hjl, by rw [HC.out] <;> simp, by rw [HD.out] <;> simp, rfl, by go_num, by rw [HC.out, HD.out]; exact HRN.out⟩
              case measure => simp [intOf]; omega
        · have hje : j = ps.length := by omega
          subst hje
          rw [List.take_length] at HR ⊢
          have e1 : decide ((ps.length : Int) < (ps.length : Int)) = false := decide_eq_false (by omega)
          have lc : (ps.filter (isx x)).length ≤ 200 := Nat.le_trans (List.length_filter_le _ _) hl
          have hcx : ∀ p ∈ ps.filter (isx x), p.f0 = x := fun p hp => by have := (List.mem_filter.mp hp).2; unfold isx at this; simpa using this
          have HCX := Lib.hid hcx
          clear hcx hjl hj
          obtain ⟨cs, hcs⟩ : ∃ cs, ps.filter (isx x) = cs := ⟨_, rfl⟩
          obtain ⟨ds, hds⟩ : ∃ ds, ps.filter (fun p => !isx x p) = ds := ⟨_, rfl⟩
          rw [hcs] at lc HCX HR ⊢
          rw [hds] at HR ⊢
          have HCS := Lib.hid hcs
          have HDS := Lib.hid hds
          clear hcs hds
          obtain ⟨l0, l1, l2, l3, l4, l5⟩ := ld_cells HL2.out.blk
          have u0 := blk_frozen HL2.out.blk 0
          go_upto_region 22 with (fail)
          have hl5 := HL2.out.row (Kd.Q_lower HR.out.qd hbase)
          have hc5 := Kd.Q_set HR.out.qc HL2.out.blk t56 0 (.slice D ds.length dd)
          have hk5 := (KeepBut.of_below HR.out.bel g none).set_ 0 (.slice D ds.length dd)
          have hb5 := (HR.out.bel.mono hbase).setCell (p := ⟨g, 0, none⟩) HL.out.old (.slice D ds.length dd)
          clear HR HL2 l0 l1 l2 l3 l4 l5 u0
          generalize wr.setCell ⟨g, 0, none⟩ (.slice D ds.length dd) = w5 at *
          have HL5 := Lib.hid hl5
          have HC5 := Lib.hid hc5
          have HK5 := Lib.hid hk5
          have HB5 := Lib.hid hb5
          clear hl5 hc5 hk5 hb5
          go_upto_region 23 with (fail)
          go_loopw [85] (fun i w6 => ∃ j : Nat, j ≤ cs.length ∧ i = .int .i64 j ∧ Led w6 base g D dd ds (if j = 0 then ak else max ak x) la wt ls sm ∧ k56.Q 56 w6 w.heap.size (fun _ => True) (.slice C cs.length cc) cs ∧ KeepBut w w6 g none ∧ Below base w w6) (fun i _ => cs.length - (intOf i).toNat)
          case atStart => exact ⟨0, Nat.zero_le _, rfl, HL5.out, HC5.out, HK5.out, HB5.out⟩
          case round =>
            obtain ⟨j, hj, rfl, hl6, hc6, hk6, hb6⟩ := hrel
            clear HL5 HC5 HK5 HB5
            by_cases hjl : j < cs.length
            · have e1 : (j : Int) < (cs.length : Int) := by omega
              obtain ⟨ra, o, cap, hA, _⟩ := Kd.Q_form hc6 (by omega)
              obtain rfl : C = some ⟨ra, o, none⟩ := by injection hA
              clear hA
              obtain ⟨p0, p1, p2, p3, p4⟩ := row_cells hc6 j hjl
              have hp := HCX.out (rd_T56 cs j) (by unfold rd_T56; rw [Int.toNat_natCast, List.getD_eq_getElem?_getD, List.getElem?_eq_getElem hjl]; exact List.getElem_mem _)
              generalize rd_T56 cs j = p at *
              obtain ⟨yk, hyk⟩ : ∃ yk, (if j = 0 then ak else max ak x) = yk := ⟨_, rfl⟩
              have hym : max yk x = if j + 1 = 0 then ak else max ak x := by rw [← hyk]; split <;> simp <;> omega
              rw [hyk] at hl6
              have HL6 := Lib.hid hl6
              have HC6 := Lib.hid hc6
              have HK6 := Lib.hid hk6
              have HB6 := Lib.hid hb6
              have HYM := Lib.hid hym
              have HP := Lib.hid hp
              have hpb : 0 ≤ p.f0 ∧ p.f0 ≤ 4611686018427387904 := by omega
              clear hl6 hc6 hk6 hb6 hym hyk hp
              go_upto_region 25 with (fail)
              have k1 := blk_new wr (PK p)
              have hl7 := HL6.out.below (below_alloc (Below.refl _ _) (PK p))
              have hc7 := Kd.Q_below HC6.out (below_alloc (Below.refl _ _) (PK p))
              have hk7 := HK6.out.trans (KeepBut.of_below (below_alloc (Below.refl wr.heap.size wr) (PK p)) g none) (.inl rfl)
              have hb7 := HB6.out.trans ((below_alloc (Below.refl wr.heap.size wr) (PK p)).mono (Nat.le_trans hbase HK6.out.1))
              show Code.wp _ _ _ _ (wr.alloc (PK p))
              clear HL6 HC6 HK6 HB6 p0 p1 p2 p3 p4
              generalize wr.alloc (PK p) = w7 at *
              have HL7 := Lib.hid hl7
              have HC7 := Lib.hid hc7
              have HK7 := Lib.hid hk7
              have HB7 := Lib.hid hb7
              clear hl7 hc7 hk7 hb7
              have y0 := (pk_cells k1).1
              have y1 := (ld_cells HL7.out.blk).2.1
              have u1 := blk_frozen HL7.out.blk 1
              have y0' := pw_cell_below (below_drew (Below.refl w7.heap.size w7)) y0
              clear k1
              have hmx : (if yk < IntKind.i64.wrap p.f0 then IntKind.i64.wrap p.f0 else yk) = max yk x := by
                rw [show IntKind.i64.wrap p.f0 = p.f0 by rw [IntKind.wrap_i64]; omega, HP.out, Int.max_def]
                split <;> split <;> omega
              have HMX := Lib.hid hmx
              clear hmx
              go_region_law (fail)
              all_goals
                rw [HMX.out]
                have hl8 := (HL7.out.acked (max yk x)).below (below_drew (Below.refl _ _))
                have hc8 := Kd.Q_below (Kd.Q_set HC7.out HL7.out.blk t56 1 (.int .i64 (max yk x))) (below_drew (Below.refl _ _))
                have hk8 := (HK7.out.set_ 1 (.int .i64 (max yk x))).trans (KeepBut.of_below (below_drew (Below.refl (w7.setCell ⟨g, 1, none⟩ (.int .i64 (max yk x))).heap.size (w7.setCell ⟨g, 1, none⟩ (.int .i64 (max yk x))))) g none) (.inl rfl)
                have hb8 := (HB7.out.setCell (p := ⟨g, 1, none⟩) HL7.out.old (.int .i64 (max yk x)))
                have hb9 := hb8.trans ((below_drew (Below.refl (w7.setCell ⟨g, 1, none⟩ (.int .i64 (max yk x))).heap.size (w7.setCell ⟨g, 1, none⟩ (.int .i64 (max yk x))))).mono (Nat.le_trans hbase (HK7.out.set_ 1 (.int .i64 (max yk x))).1))
                clear HL7 HC7 HK7 HB7 y0 y1 u1 y0' hb8
                generalize (w7.setCell ⟨g, 1, none⟩ (.int .i64 (max yk x))).drew = w9 at *
                have HL7 := Lib.hid hl8
                have HC7 := Lib.hid hc8
                have HK7 := Lib.hid hk8
                have HB7 := Lib.hid hb9
                clear hl8 hc8 hk8 hb9
                go_wp2_with fail
                go_roundw
                case rel => exact ⟨j + 1, hjl, by go_num, by rw [← HYM.out]; exact HL7.out, HC7.out, HK7.out, HB7.out⟩
                case measure => simp [intOf]; omega
            · have hje : j = cs.length := by omega
              subst hje
              have e1 : decide ((cs.length : Int) < (cs.length : Int)) = false := decide_eq_false (by omega)
              have HL6 := Lib.hid hl6
              have HK6 := Lib.hid hk6
              have HB6 := Lib.hid hb6
              clear hl6 hc6 hk6 hb6
              go_wp2_with fail
              go_ret3
              unfold CP
              rw [HCS.out, HDS.out]
              exact ⟨C, D, cc, dd, m, rfl, HL6.out, HB6.out, HK6.out⟩
end Go.Proofs.Ytclmnpdabnogkaa.LossCame
