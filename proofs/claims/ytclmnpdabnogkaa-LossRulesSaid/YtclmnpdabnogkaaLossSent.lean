/- Sent: one packet more, behind all that are there. Conditions: the ledger is not full, none has come, the packet is the greatest, eliciting and in flight. -/
import Derived.Test.YtclmnpdabnogkaaLossLed
import Derived.Deep.QuietTactic
import Derived.Deep.RegionLaw
namespace Go.Proofs.Ytclmnpdabnogkaa.LossSent
open Go.RowKit Go.Proofs.Ytclmnpdabnogkaa.PLossTimes Go.Proofs.Ytclmnpdabnogkaa.EvClone Go.Proofs.Ytclmnpdabnogkaa.LossLed Go.Proofs.YtclmnpdabnogkaaW.PrintWords Go.Proofs.YtclmnpdabnogkaaW.PrintLast Go.Proofs.YtclmnpdabnogkaaW.PrintMore

theorem keep6 {w w' : World} {p0 p1 p2 p3 p4 p5 : Addr} {x0 x1 x2 x3 x4 x5 : Value} (hb : Below w.heap.size w w') (h : w.cell? p0 = some x0 ∧ w.cell? p1 = some x1 ∧ w.cell? p2 = some x2 ∧ w.cell? p3 = some x3 ∧ w.cell? p4 = some x4 ∧ w.cell? p5 = some x5) :
    w'.cell? p0 = some x0 ∧ w'.cell? p1 = some x1 ∧ w'.cell? p2 = some x2 ∧ w'.cell? p3 = some x3 ∧ w'.cell? p4 = some x4 ∧ w'.cell? p5 = some x5 := ⟨pw_cell_below hb h.1, pw_cell_below hb h.2.1, pw_cell_below hb h.2.2.1, pw_cell_below hb h.2.2.2.1, pw_cell_below hb h.2.2.2.2.1, pw_cell_below hb h.2.2.2.2.2⟩

theorem keepG {w' : World} {g gp : Nat} {A : Option Addr} {n c : Nat} {ak la : Int} {wt : Bool} {ls : Int} {sm : Bool} {x : S56} (hg : w'.heap[g]? = some (LD A n c ak la wt ls sm)) (hp : w'.heap[gp]? = some (PK x)) :
    w'.cell? ⟨g, 0, none⟩ = some (.slice A n c) ∧ w'.cell? ⟨gp, 0, none⟩ = some (.int .u64 x.f0) ∧ w'.cell? ⟨gp, 1, none⟩ = some (.int .u64 x.f1) ∧ w'.cell? ⟨gp, 2, none⟩ = some (.int .u64 x.f2) ∧ w'.cell? ⟨gp, 3, none⟩ = some (.bool x.f3) ∧ w'.cell? ⟨gp, 4, none⟩ = some (.bool x.f4) := ⟨(ld_cells hg).1, pk_cells hp⟩

set_option maxRecDepth 100000 in
set_option maxHeartbeats 4000000 in
theorem sent_calls {w : World} {base g : Nat} {A : Option Addr} {c : Nat} {ps : List S56} {la : Int} {wt : Bool} {ls : Int} {sm : Bool} (h : Led w base g A c ps (-1) la wt ls sm) (hbase : base ≤ w.heap.size) (n a s : Int)
    (hn : ∀ x ∈ ps, x.f0 < n) (hl : ps.length < 200) (_hn0 : 0 ≤ n) (_hn9 : n ≤ 4611686018427387904) :
    Calls Try.prog 21 #[.pointer (some ⟨g, 0, none⟩), .agg #[.int .u64 n, .int .u64 a, .int .u64 s, .bool true, .bool true]] w fun e w' => e = .returned (.int .i64 0) ∧ ∃ B d, Led w' base g B d (ps ++ [⟨n, a, s, true, true⟩]) (-1) la wt a true ∧ Below base w w' := by
  have HN := Lib.hid hn
  have k1 := blk_new w (PK ⟨n, a, s, true, true⟩)
  have h1 := h.below (below_alloc (Below.refl _ _) (PK ⟨n, a, s, true, true⟩))
  have hb1 := (below_alloc (Below.refl w.heap.size w) (PK ⟨n, a, s, true, true⟩)).mono hbase
  have hs := Kd.Q_lt h.q
  have hg := blk_lt h.blk
  clear h hn
  go_enter Try.func21, Try.ntmps21
  go_upto_region 1 with (fail)
  show Code.wp _ _ _ _ (w.alloc (PK ⟨n, a, s, true, true⟩))
  generalize w.alloc (PK ⟨n, a, s, true, true⟩) = w1 at *
  generalize w.heap.size = gp at *
  have HB := Lib.hid hb1
  have K1 := Lib.hid k1
  have HL := Lib.hid h1
  have HS := Lib.hid hs
  have HG := Lib.hid hg
  clear hs hg
  clear hb1 k1 h1
  obtain ⟨a0, a1, a2, a3, a4⟩ := pk_cells K1.out
  obtain ⟨l0, l1, l2, l3, l4, l5⟩ := ld_cells HL.out.blk
  go_upto_region 3 with (fail)
  have hp : (ps.length = 0) ∨ ∃ m r o, ps.length = m + 1 ∧ A = some ⟨r, o, none⟩ ∧ ∃ y, y < n ∧ w1.cell? ⟨r, o + m * 5, none⟩ = some (.int .u64 y) := by
    rcases Nat.eq_zero_or_pos ps.length with h0 | h0
    · exact .inl h0
    · obtain ⟨r, o, cap, hA, _⟩ := Kd.Q_form HL.out.q h0
      injection hA with hA
      subst hA
      obtain ⟨ad, e, hc, _⟩ := at_T56 (Kd.Q_reads' HL.out.q).2.2 ((ps.length - 1 : Nat) : Int) (by omega) (by omega)
      injection e with e
      subst e
      rw [add_at, Int.toNat_natCast] at hc
      refine .inr ⟨ps.length - 1, r, o, by omega, rfl, _, ?_, hc⟩
      refine HN.out _ ?_
      unfold rd_T56
      rw [Int.toNat_natCast, List.getD_eq_getElem?_getD, List.getElem?_eq_getElem (by omega)]
      exact List.getElem_mem _
  go_cut [8] (fun v wx => v = .bool false ∧ Below w1.heap.size w1 wx)
  case first =>
    rcases hp with h0 | ⟨m, r, o, hm, rfl, y, hy, hc⟩
    · rw [h0] at l0
      go_quiet (fail)
      go_wp2_with fail
      go_meet
      case rel => exact ⟨rfl, pw_below_drewN (Below.refl _ _) _⟩
    · rw [hm] at l0
      have e1 : (0 : Int) < ((m + 1 : Nat) : Int) := by omega
      have e2 : IntKind.i64.wrap (((m + 1 : Nat) : Int) - 1) = (m : Int) := by rw [IntKind.wrap_i64]; omega
      have e3 : decide (y ≥ n) = false := decide_eq_false (by omega)
      have e4 : (m : Int) < ((m + 1 : Nat) : Int) := by omega
      have e5 : m < m + 1 := by omega
      go_quiet (fail)
      go_wp2_with fail
      go_meet
      case rel => exact ⟨rfl, pw_below_drewN (Below.refl _ _) _⟩
  case rest =>
    obtain ⟨rfl, hbx⟩ := hcut
    have hl2 := HL.out.below hbx
    have k2 := blk_below K1.out hbx
    have hb2 := HB.out.trans (hbx.mono (by have := blk_lt K1.out; omega))
    clear K1 HB HL hbx a0 a1 a2 a3 a4 l0 l1 l2 l3 l4 l5 hp
    have HB := Lib.hid hb2
    have K1 := Lib.hid k2
    have HL := Lib.hid hl2
    clear hb2 k2 hl2
    obtain ⟨l0, l1, l2, l3, l4, l5⟩ := ld_cells HL.out.blk
    go_upto_region 4 with (fail)
    go_quiet (fail)
    have e6 : decide ((ps.length : Int) ≥ 256) = false := decide_eq_false (by omega)
    go_upto_region 8 with (fail)
    have hl2 := HL.out.below (pw_below_drewN (Below.refl _ _) nq)
    have k2 := blk_below K1.out (pw_below_drewN (Below.refl _ _) nq)
    have hb2 := HB.out.trans ((pw_below_drewN (Below.refl wc.heap.size wc) nq).mono (by have := blk_lt K1.out; omega))
    clear l0 l1 l2 l3 l4 l5 HB HL K1
    generalize wc.drewN nq = w2 at *
    have HB := Lib.hid hb2
    have K1 := Lib.hid k2
    have HL := Lib.hid hl2
    clear hb2 k2 hl2
    have hbs : base ≤ w2.heap.size := by have := blk_lt K1.out; omega
    have hbd : base ≤ w2.drew.heap.size := Nat.le_trans hbs (below_drew (Below.refl w2.heap.size w2)).size
    have c0 : (w2.cell? ⟨g, 0, none⟩ = some (.slice A ps.length c) ∧ w2.cell? ⟨gp, 0, none⟩ = some (.int .u64 n) ∧ w2.cell? ⟨gp, 1, none⟩ = some (.int .u64 a) ∧ w2.cell? ⟨gp, 2, none⟩ = some (.int .u64 s) ∧ w2.cell? ⟨gp, 3, none⟩ = some (.bool true) ∧ w2.cell? ⟨gp, 4, none⟩ = some (.bool true)) :=
      ⟨(ld_cells HL.out.blk).1, pk_cells K1.out⟩
    obtain ⟨b0, b1, b2, b3, b4, b5⟩ := c0
    have b6 : (w2.alloc (.cells #[.int .u64 n, .int .u64 a, .int .u64 s, .bool true, .bool true] 56)).cell? ⟨g, 0, none⟩ = some (.slice A ps.length c) := pw_cell_below (below_alloc (Below.refl _ _) _) b0
    go_region_law
      ((go_must (refine Kd.Q_append_step k56 (w0 := w2) (W := w2.drew) base (by rfl) (.tmp 59) (.tmp 61) 61 56 (.agg #[.int .u64 0, .int .u64 0, .int .u64 0, .bool false, .bool false]) 32 (by rfl) Try.underlying61 info56 (by rfl) (by decide) (by decide) (.slice A ps.length c) ps ⟨n, a, s, true, true⟩ [.int .u64 n, .int .u64 a, .int .u64 s, .bool true, .bool true] (fun _ => True) (fun _ => False) (by rfl) (by rfl) (k56_mkM _ _ _ _) (fun _ hk => hk.elim) (fun _ _ => trivial) (Kd.Q_drew HL.out.q) ((below_drew (Below.refl w2.heap.size w2)).mono hbs) hbd (by omega) ?_; intro v1 wn hQ hbn hgn _; obtain ⟨B, d, rfl, _⟩ := Kd.Q_reads hQ; obtain ⟨hbg, how⟩ := (HL.out.below (below_drew (Below.refl w2.heap.size w2))).grow hgn hQ; have hbp := blk_grown (blk_below K1.out (below_drew (Below.refl w2.heap.size w2))) hgn (fun he => absurd (HS.out gp he.symm) (Nat.lt_irrefl gp)); have u := blk_frozen hbg 0; have y0 := (ld_cells hbg).1; have hbn2 := HB.out.trans hbn; have HOW := Lib.hid how; have HBN := Lib.hid hbn2; clear hQ hgn hbn how hbn2; generalize hnl : (ps ++ ([⟨n, a, s, true, true⟩] : List S56)).length = nl at *)))
    all_goals
      have hkp := (Below.heap_setCell wn ⟨g, 0, none⟩ (.slice B nl d) gp (by have := HG.out; show gp ≠ g; omega)).trans hbp
      have hb9 := HBN.out.trans ((Below.refl base wn).setCell (p := ⟨g, 0, none⟩) (HOW.out.old) (.slice B nl d))
      clear hbg hbp u y0 hnl b0 b1 b2 b3 b4 b5 b6 HBN HL HB K1 e6
      generalize wn.setCell ⟨g, 0, none⟩ (.slice B nl d) = w3 at *
      have HB := Lib.hid hb9
      have HK := Lib.hid hkp
      clear hkp hb9
      obtain ⟨a0, a1, a2, a3, a4⟩ := pk_cells HK.out
      obtain ⟨l0, l1, l2, l3, l4, l5⟩ := ld_cells HOW.out.blk
      have u4 := blk_frozen HOW.out.blk 4
      have u5 := blk_frozen HOW.out.blk 5
      have HE := Lib.hid ((HOW.out.last a).some' true)
      have HF := Lib.hid ((HB.out.setCell (p := ⟨g, 4, none⟩) HOW.out.old (.int .u64 a)).setCell (p := ⟨g, 5, none⟩) HOW.out.old (.bool true))
      go_wp2_with fail
      go_ret
      exact ⟨rfl, ⟨_, _, HE.out⟩, HF.out⟩
end Go.Proofs.Ytclmnpdabnogkaa.LossSent
