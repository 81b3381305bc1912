/- Find: which packets are lost at a time, which are left, when the next one will be lost. Conditions: no number is great. -/
import Derived.Test.YtclmnpdabnogkaaLossCame
namespace Go.Proofs.Ytclmnpdabnogkaa.LossFind
open Go.RowKit Go.Proofs.Ytclmnpdabnogkaa.PLossTimes Go.Proofs.Ytclmnpdabnogkaa.EvClone Go.Proofs.Ytclmnpdabnogkaa.LossIn Go.Proofs.Ytclmnpdabnogkaa.LossLed Go.Proofs.Ytclmnpdabnogkaa.LossCame Go.Proofs.YtclmnpdabnogkaaW.PrintWords Go.Proofs.YtclmnpdabnogkaaW.PrintLast Go.Proofs.YtclmnpdabnogkaaW.PrintMore

/-- When a packet is lost at the latest. -/
def due (D : Int) (p : S56) : Int := IntKind.u64.wrap (p.f1 + D)
/-- Is it above what came? -/
def ab (ak : Int) (p : S56) : Bool := decide (ak < 0) || decide (ak < p.f0)
/-- Is it far behind, or old? -/
def lo (ak now D : Int) (p : S56) : Bool := decide (ak - p.f0 ≥ 3) || decide (due D p ≤ now)
def isLost (ak now D : Int) (p : S56) : Bool := !ab ak p && lo ak now D p
/-- The next time at which one is lost, and whether there is one. -/
def nxt (ak now D : Int) (s : Int × Bool) (p : S56) : Int × Bool := if ab ak p || lo ak now D p then s else if !s.2 || decide (due D p < s.1) then (due D p, true) else s
theorem fold_take (f : Int × Bool → S56 → Int × Bool) (s : Int × Bool) (ps : List S56) (j : Nat) (h : j < ps.length) : (ps.take (j + 1)).foldl f s = f ((ps.take j).foldl f s) (rd_T56 ps j) := by
  have e : ps[j]? = some (rd_T56 ps j) := by
    unfold rd_T56
    rw [Int.toNat_natCast, List.getD_eq_getElem?_getD, List.getElem?_eq_getElem h]; rfl
  rw [List.take_add_one, e, List.foldl_append]
  rfl

/-- The ledger and two rows that grow, none of which is the ledger's. -/
structure FR (w wr : World) (base g : Nat) (A : Option Addr) (c : Nat) (ps : List S56) (ak la : Int) (wt : Bool) (ls : Int) (sm : Bool) (C : Option Addr) (cc : Nat) (cs : List S56) (D : Option Addr) (dd : Nat) (ds : List S56) : Prop where
  qc : k56.Q 56 wr w.heap.size (fun _ => True) (.slice C cs.length cc) cs
  qd : k56.Q 56 wr w.heap.size (fun _ => True) (.slice D ds.length dd) ds
  ap : ∀ k, (Value.slice C cs.length cc).ownBlock = some k → some k ≠ (Value.slice D ds.length dd).ownBlock
  led : Led wr base g A c ps ak la wt ls sm
  far : ∀ k, (Value.slice A ps.length c).ownBlock = some k → k < w.heap.size
  bel : Below base w wr
  kb : KeepBut w wr g none
  bs : base ≤ w.heap.size
section
variable {w wr wn : World} {base g : Nat} {A : Option Addr} {c : Nat} {ps : List S56} {ak la : Int} {wt : Bool} {ls : Int} {sm : Bool} {C : Option Addr} {cc : Nat} {cs : List S56} {D : Option Addr} {dd : Nat} {ds : List S56}
theorem FR.below (h : FR w wr base g A c ps ak la wt ls sm C cc cs D dd ds) (hb : Below wr.heap.size wr wn) : FR w wn base g A c ps ak la wt ls sm C cc cs D dd ds :=
  ⟨Kd.Q_below h.qc hb, Kd.Q_below h.qd hb, h.ap, h.led.below hb, h.far, h.bel.trans (hb.mono (Nat.le_trans h.bs h.kb.1)), h.kb.trans (KeepBut.of_below hb g none) (.inl rfl), h.bs⟩
theorem FR.growD (h : FR w wr base g A c ps ak la wt ls sm C cc cs D dd ds) {B : Option Addr} {b : Nat} {qs : List S56} (hg : wr.grownBy wn (Value.slice D ds.length dd).ownBlock) (hq : k56.Q 56 wn w.heap.size (fun _ => True) (.slice B qs.length b) qs) (hb : Below w.heap.size wr wn)
    (hat : (Value.slice B qs.length b).ownBlock = (Value.slice D ds.length dd).ownBlock ∨ ∃ k, (Value.slice B qs.length b).ownBlock = some k ∧ wr.heap.size ≤ k) : FR w wn base g A c ps ak la wt ls sm C cc cs B b qs :=
  ⟨Kd.Q_grown2 h.qc rfl hg (fun k hk e => h.ap k e.symm hk.symm), hq, fun k hk => by
    rcases hat with e | ⟨k', e, hk'⟩
    · rw [e]; exact h.ap k hk
    · rw [e]
      have := Kd.Q_lt h.qc k hk
      intro he
      injection he with he
      omega,
   h.led.beside h.qd hg (fun k hk e => by have := Kd.Q_base h.qd k hk; have := h.far k e.symm; omega), h.far, h.bel.trans (hb.mono h.bs), h.kb.trans (KeepBut.of_grown hg g) (by rcases Kd.Q_base2 h.qd with e | ⟨k, e, hk⟩; exact .inl e; exact .inr ⟨k, e, hk⟩), h.bs⟩
theorem FR.growC (h : FR w wr base g A c ps ak la wt ls sm C cc cs D dd ds) {B : Option Addr} {b : Nat} {qs : List S56} (hg : wr.grownBy wn (Value.slice C cs.length cc).ownBlock) (hq : k56.Q 56 wn w.heap.size (fun _ => True) (.slice B qs.length b) qs) (hb : Below w.heap.size wr wn)
    (hat : (Value.slice B qs.length b).ownBlock = (Value.slice C cs.length cc).ownBlock ∨ ∃ k, (Value.slice B qs.length b).ownBlock = some k ∧ wr.heap.size ≤ k) : FR w wn base g A c ps ak la wt ls sm B b qs D dd ds :=
  ⟨hq, Kd.Q_grown2 h.qd rfl hg h.ap, fun k hk => by
    rcases hat with e | ⟨k', e, hk'⟩
    · exact h.ap k (e.symm.trans hk)
    · have e2 : k' = k := by rw [hk] at e; injection e with e; exact e.symm
      intro he
      have := Kd.Q_lt h.qd k he.symm
      omega,
   h.led.beside h.qc hg (fun k hk e => by have := Kd.Q_base h.qc k hk; have := h.far k e.symm; omega), h.far, h.bel.trans (hb.mono h.bs), h.kb.trans (KeepBut.of_grown hg g) (by rcases Kd.Q_base2 h.qc with e | ⟨k, e, hk⟩; exact .inl e; exact .inr ⟨k, e, hk⟩), h.bs⟩
theorem FR.next (h : FR w wr base g A c ps ak la wt ls sm C cc cs D dd ds) (x : Int) : FR w ((wr.setCell ⟨g, 2, none⟩ (.int .u64 x)).setCell ⟨g, 3, none⟩ (.bool true)) base g A c ps ak x true ls sm C cc cs D dd ds :=
  have hb := blk_put h.led.blk 2 (.int .u64 x) rfl
  ⟨Kd.Q_set (Kd.Q_set h.qc h.led.blk t56 2 _) hb t56 3 _, Kd.Q_set (Kd.Q_set h.qd h.led.blk t56 2 _) hb t56 3 _, h.ap, (h.led.lost x).wait true, h.far, (h.bel.setCell (p := ⟨g, 2, none⟩) h.led.old _).setCell (p := ⟨g, 3, none⟩) h.led.old _, (h.kb.set_ 2 _).set_ 3 _, h.bs⟩
theorem fr_new (h : Led w base g A c ps ak la wt ls sm) (hbs : base ≤ w.heap.size) {w1 : World} (hb : Below w.heap.size w w1) : FR w (w1.setCell ⟨g, 3, none⟩ (.bool false)) base g A c ps ak la false ls sm none 0 [] none 0 [] :=
  ⟨Kd.Q_nil _ _ _ _ _, Kd.Q_nil _ _ _ _ _, fun k h => by simp [Value.ownBlock] at h, (h.below hb).wait false, Kd.Q_lt h.q, (hb.mono hbs).setCell (p := ⟨g, 3, none⟩) h.old _, (KeepBut.of_below hb g none).set_ 3 _, hbs⟩
end

theorem keep6 {w w' : World} {p0 p1 p2 p3 p4 p5 : Addr} {x0 x1 x2 x3 x4 x5 : Value} (hb : Below w.heap.size w w') (h : w.cell? p0 = some x0 ∧ w.cell? p1 = some x1 ∧ w.cell? p2 = some x2 ∧ w.cell? p3 = some x3 ∧ w.cell? p4 = some x4 ∧ w.cell? p5 = some x5) :
    w'.cell? p0 = some x0 ∧ w'.cell? p1 = some x1 ∧ w'.cell? p2 = some x2 ∧ w'.cell? p3 = some x3 ∧ w'.cell? p4 = some x4 ∧ w'.cell? p5 = some x5 := ⟨pw_cell_below hb h.1, pw_cell_below hb h.2.1, pw_cell_below hb h.2.2.1, pw_cell_below hb h.2.2.2.1, pw_cell_below hb h.2.2.2.2.1, pw_cell_below hb h.2.2.2.2.2⟩
/-- What Find leaves. -/
def FP (w : World) (base g : Nat) (ps : List S56) (ak now D la ls : Int) (sm : Bool) (e : Ending) (w' : World) : Prop :=
  ∃ (C B : Option Addr) (cc b : Nat), e = .returned (.slice C (ps.filter (isLost ak now D)).length cc) ∧ k56.Q 56 w' w.heap.size (fun _ => True) (.slice C (ps.filter (isLost ak now D)).length cc) (ps.filter (isLost ak now D)) ∧
    Led w' base g B b (ps.filter (fun p => !isLost ak now D p)) ak (ps.foldl (nxt ak now D) (la, false)).1 (ps.foldl (nxt ak now D) (la, false)).2 ls sm ∧ Below base w w' ∧ KeepBut w w' g none
def RB (r0 r1 r2 r3 : Int) (r4 : Bool) : Obj := .cells #[.int .u64 r0, .int .u64 r1, .int .u64 r2, .int .u64 r3, .bool r4] 58
theorem rb_cells {w : World} {g : Nat} {r0 r1 r2 r3 : Int} {r4 : Bool} (h : w.heap[g]? = some (RB r0 r1 r2 r3 r4)) :
    w.cell? ⟨g, 0, none⟩ = some (.int .u64 r0) ∧ w.cell? ⟨g, 1, none⟩ = some (.int .u64 r1) ∧ w.cell? ⟨g, 2, none⟩ = some (.int .u64 r2) ∧ w.cell? ⟨g, 3, none⟩ = some (.int .u64 r3) ∧ w.cell? ⟨g, 4, none⟩ = some (.bool r4) :=
  ⟨blk_cell h 0, blk_cell h 1, blk_cell h 2, blk_cell h 3, blk_cell h 4⟩

set_option maxRecDepth 100000 in
set_option maxHeartbeats 8000000 in
theorem find_calls {w : World} {base g : Nat} {A : Option Addr} {c : Nat} {ps : List S56} {ak la : Int} {wt : Bool} {ls : Int} {sm : Bool} (h : Led w base g A c ps ak la wt ls sm) (hbase : base ≤ w.heap.size) (now r0 r1 r2 r3 : Int) (r4 : Bool) (D0 : Int)
    (hD : rtt_Rtt_Lost.f r0 r1 r2 r3 r4 = some D0) (hak : -1 ≤ ak) (hak9 : ak ≤ 4611686018427387904) (hn : ∀ p ∈ ps, 0 ≤ p.f0 ∧ p.f0 ≤ 4611686018427387904) (hl : ps.length ≤ 200) :
    Calls Try.prog 24 #[.pointer (some ⟨g, 0, none⟩), .int .u64 now, .agg #[.int .u64 r0, .int .u64 r1, .int .u64 r2, .int .u64 r3, .bool r4]] w fun e w' => FP w base g ps ak now D0 la ls sm e w' := by
  have k1 := blk_new w (RB r0 r1 r2 r3 r4)
  have hf := fr_new h hbase (below_alloc (Below.refl w.heap.size w) (RB r0 r1 r2 r3 r4))
  have hl1 := h.below (below_alloc (Below.refl w.heap.size w) (RB r0 r1 r2 r3 r4))
  have hg := blk_lt h.blk
  have HN := Lib.hid hn
  have HD := Lib.hid hD
  clear h hn hD
  go_enter Try.func24, Try.ntmps24
  go_upto_region 1 with (fail)
  show Code.wp _ _ _ _ (w.alloc (RB r0 r1 r2 r3 r4))
  generalize w.alloc (RB r0 r1 r2 r3 r4) = w1 at *
  have l3 := (ld_cells hl1.blk).2.2.2.1
  have u3 := blk_frozen hl1.blk 3
  go_upto_region 4 with (fail)
  have k2 := (Below.heap_setCell w1 ⟨g, 3, none⟩ (.bool false) w.heap.size (by simp; omega)).trans k1
  clear hl1 l3 u3 k1
  generalize w1.setCell ⟨g, 3, none⟩ (.bool false) = w2 at *
  have HF := Lib.hid hf
  have K1 := Lib.hid k2
  clear hf k2
  obtain ⟨l0, l1, l2, l3, l4, l5⟩ := ld_cells HF.out.led.blk
  go_upto_region 6 with (fail)
  go_loopw [7, 8, 22] (fun cv dv i w2 => ∃ (j : Nat) (C D : Option Addr) (cc dd : Nat) (la' : Int) (wt' : Bool), j ≤ ps.length ∧ cv = .slice C ((ps.take j).filter (isLost ak now D0)).length cc ∧ dv = .slice D ((ps.take j).filter (fun p => !isLost ak now D0 p)).length dd ∧ i = .int .i64 j ∧ (ps.take j).foldl (nxt ak now D0) (la, false) = (la', wt') ∧ FR w w2 base g A c ps ak la' wt' ls sm C cc ((ps.take j).filter (isLost ak now D0)) D dd ((ps.take j).filter (fun p => !isLost ak now D0 p)) ∧ w2.heap[w.heap.size]? = some (RB r0 r1 r2 r3 r4)) (fun _ _ i _ => ps.length - (intOf i).toNat)
  case atStart => exact ⟨0, none, none, 0, 0, la, false, Nat.zero_le _, rfl, rfl, rfl, rfl, HF.out, K1.out⟩
  case round =>
    obtain ⟨j, C, D, cc, dd, la', wt', hj, rfl, rfl, rfl, hw, hf, k1⟩ := hrel
    clear HF K1 l0 l1 l2 l3 l4 l5
    have HF := Lib.hid hf
    have K1 := Lib.hid k1
    have HW00 := Lib.hid hw
    clear hf k1 hw
    by_cases hjl : j < ps.length
    · have e1 : (j : Int) < (ps.length : Int) := by omega
      obtain ⟨ra, o, cap, hA, _⟩ := Kd.Q_form HF.out.led.q (by omega)
      obtain rfl : A = some ⟨ra, o, none⟩ := by injection hA
      clear hA
      obtain ⟨p0, p1, p2, p3, p4⟩ := row_cells HF.out.led.q j hjl
      have HC0 := Lib.hid (filter_take (isLost ak now D0) ps j hjl)
      have HE0 := Lib.hid (filter_take (fun p => !isLost ak now D0 p) ps j hjl)
      have hw0 := fold_take (nxt ak now D0) (la, false) ps j hjl
      rw [HW00.out] at hw0
      have HW0 := Lib.hid hw0
      clear hw0
      have hp := HN.out (rd_T56 ps j) (by unfold rd_T56; rw [Int.toNat_natCast, List.getD_eq_getElem?_getD, List.getElem?_eq_getElem hjl]; exact List.getElem_mem _)
      generalize rd_T56 ps j = p at *
      have lc : ((ps.take j).filter (isLost ak now D0)).length ≤ 200 := Nat.le_trans (List.length_filter_le _ _) (by simp; omega)
      have ld : ((ps.take j).filter (fun p => !isLost ak now D0 p)).length ≤ 200 := Nat.le_trans (List.length_filter_le _ _) (by simp; omega)
      generalize (ps.take j).filter (isLost ak now D0) = cs at *
      generalize (ps.take j).filter (fun p => !isLost ak now D0 p) = ds at *
      have HSC := Lib.hid (Kd.Q_lt HF.out.qc)
      have HSD := Lib.hid (Kd.Q_lt HF.out.qd)
      go_upto_region 12 with (fail)
      have kp0 := blk_new wr (PK p)
      have hf0 := HF.out.below (below_alloc (Below.refl _ _) (PK p))
      have k0 := blk_below K1.out (below_alloc (Below.refl _ _) (PK p))
      show Code.wp _ _ _ _ (wr.alloc (PK p))
      clear HF K1 p0 p1 p2 p3 p4
      generalize wr.alloc (PK p) = w3 at *
      generalize wr.heap.size = gp at *
      have HF := Lib.hid hf0
      have K1 := Lib.hid k0
      have KP := Lib.hid kp0
      clear hf0 k0 kp0
      obtain ⟨p0, p1, p2, p3, p4⟩ := pk_cells KP.out
      obtain ⟨l0, l1, l2, l3, l4, l5⟩ := ld_cells HF.out.led.blk
      by_cases h1 : ak < 0
      · have g1 : decide (ak < 0) = true := decide_eq_true h1
        have a1 : ab ak p = true := by simp [ab, g1]
        go_quiet (fail)
        have hf_ := HF.out.below (pw_below_drewN (Below.refl _ _) nq)
        have k_ := blk_below K1.out (pw_below_drewN (Below.refl _ _) nq)
        have kp_ := blk_below KP.out (pw_below_drewN (Below.refl _ _) nq)
        clear HF K1 KP p0 p1 p2 p3 p4 l0 l1 l2 l3 l4 l5
        generalize w3.drewN nq = w4 at *
        have HF := Lib.hid hf_
        have K1 := Lib.hid k_
        have KP := Lib.hid kp_
        clear hf_ k_ kp_
        obtain ⟨p0, p1, p2, p3, p4⟩ := pk_cells KP.out
        obtain ⟨l0, l1, l2, l3, l4, l5⟩ := ld_cells HF.out.led.blk
        have HC := Lib.hid (show (ps.take (j + 1)).filter (isLost ak now D0) = cs by rw [HC0.out, if_neg (by simp [isLost, a1])]; simp)
        have HE := Lib.hid (show (ps.take (j + 1)).filter (fun p => !isLost ak now D0 p) = ds ++ [p] by rw [HE0.out, if_pos (by simp [isLost, a1])])
        have HW := Lib.hid (show (ps.take (j + 1)).foldl (nxt ak now D0) (la, false) = (la', wt') by rw [HW0.out]; simp [nxt, a1])
        clear h1
        go_wp2_with (first | ((with_reducible refine gate_dst (N := 74) rfl ?_); go_must (refine Kd.Q_append k56 (w0 := w4) w.heap.size rfl (.tmp 71) (.tmp 73) 61 56 (.agg #[.int .u64 0, .int .u64 0, .int .u64 0, .bool false, .bool false]) 32 rfl Try.underlying61 info56 rfl (by decide) (by decide) (.slice D ds.length dd) ds p [.int .u64 p.f0, .int .u64 p.f1, .int .u64 p.f2, .bool p.f3, .bool p.f4] (fun _ => True) (fun _ => False) rfl (by first | (go_simp; done) | (go_simp; rfl)) (k56_mkM _ _ _ _) (fun _ hk => hk.elim) (fun _ _ => trivial) HF.out.qd ((Below.refl w4.heap.size w4).mono HF.out.kb.1) HF.out.kb.1 (by omega) ?_; intro v1 wn hQ hbn hgn hat; obtain ⟨B, b, rfl, _⟩ := Kd.Q_reads hQ; have hFn := HF.out.growD hgn hQ hbn hat; have hKn := blk_grown K1.out hgn (Kd.Q_ne HF.out.qd K1.out (by decide)); have hPn := blk_grown KP.out hgn (fun e => absurd (HSD.out gp e.symm) (Nat.lt_irrefl gp)); clear HF K1 KP p0 p1 p2 p3 p4 l0 l1 l2 l3 l4 l5; have HF := Lib.hid hFn; have K1 := Lib.hid hKn; have KP := Lib.hid hPn; clear hQ hgn hbn hat hFn hKn hPn)))
        go_roundw
        case rel => exact ⟨j + 1, C, B, cc, b, _, _, hjl, by rw [HC.out] <;> simp, by rw [HE.out] <;> simp, by go_num, HW.out, by rw [HC.out, HE.out]; exact HF.out, K1.out⟩
        case measure => simp [intOf]; omega
      have g1 : decide (ak < 0) = false := decide_eq_false h1
      have gk : IntKind.u64.wrap ak = ak := by rw [IntKind.wrap_u64]; omega
      by_cases h2 : ak < p.f0
      · have g2 : decide (ak < p.f0) = true := decide_eq_true h2
        have a1 : ab ak p = true := by simp [ab, g2]
        go_quiet (fail)
        have hf_ := HF.out.below (pw_below_drewN (Below.refl _ _) nq)
        have k_ := blk_below K1.out (pw_below_drewN (Below.refl _ _) nq)
        have kp_ := blk_below KP.out (pw_below_drewN (Below.refl _ _) nq)
        clear HF K1 KP p0 p1 p2 p3 p4 l0 l1 l2 l3 l4 l5
        generalize w3.drewN nq = w4 at *
        have HF := Lib.hid hf_
        have K1 := Lib.hid k_
        have KP := Lib.hid kp_
        clear hf_ k_ kp_
        obtain ⟨p0, p1, p2, p3, p4⟩ := pk_cells KP.out
        obtain ⟨l0, l1, l2, l3, l4, l5⟩ := ld_cells HF.out.led.blk
        have HC := Lib.hid (show (ps.take (j + 1)).filter (isLost ak now D0) = cs by rw [HC0.out, if_neg (by simp [isLost, a1])]; simp)
        have HE := Lib.hid (show (ps.take (j + 1)).filter (fun p => !isLost ak now D0 p) = ds ++ [p] by rw [HE0.out, if_pos (by simp [isLost, a1])])
        have HW := Lib.hid (show (ps.take (j + 1)).foldl (nxt ak now D0) (la, false) = (la', wt') by rw [HW0.out]; simp [nxt, a1])
        clear h1 h2
        go_wp2_with (first | ((with_reducible refine gate_dst (N := 74) rfl ?_); go_must (refine Kd.Q_append k56 (w0 := w4) w.heap.size rfl (.tmp 71) (.tmp 73) 61 56 (.agg #[.int .u64 0, .int .u64 0, .int .u64 0, .bool false, .bool false]) 32 rfl Try.underlying61 info56 rfl (by decide) (by decide) (.slice D ds.length dd) ds p [.int .u64 p.f0, .int .u64 p.f1, .int .u64 p.f2, .bool p.f3, .bool p.f4] (fun _ => True) (fun _ => False) rfl (by first | (go_simp; done) | (go_simp; rfl)) (k56_mkM _ _ _ _) (fun _ hk => hk.elim) (fun _ _ => trivial) HF.out.qd ((Below.refl w4.heap.size w4).mono HF.out.kb.1) HF.out.kb.1 (by omega) ?_; intro v1 wn hQ hbn hgn hat; obtain ⟨B, b, rfl, _⟩ := Kd.Q_reads hQ; have hFn := HF.out.growD hgn hQ hbn hat; have hKn := blk_grown K1.out hgn (Kd.Q_ne HF.out.qd K1.out (by decide)); have hPn := blk_grown KP.out hgn (fun e => absurd (HSD.out gp e.symm) (Nat.lt_irrefl gp)); clear HF K1 KP p0 p1 p2 p3 p4 l0 l1 l2 l3 l4 l5; have HF := Lib.hid hFn; have K1 := Lib.hid hKn; have KP := Lib.hid hPn; clear hQ hgn hbn hat hFn hKn hPn)))
        go_roundw
        case rel => exact ⟨j + 1, C, B, cc, b, _, _, hjl, by rw [HC.out] <;> simp, by rw [HE.out] <;> simp, by go_num, HW.out, by rw [HC.out, HE.out]; exact HF.out, K1.out⟩
        case measure => simp [intOf]; omega
      have g2 : decide (ak < p.f0) = false := decide_eq_false h2
      have a1 : ab ak p = false := by simp [ab, g1, g2]
      have gs : IntKind.u64.wrap (ak - p.f0) = ak - p.f0 := by rw [IntKind.wrap_u64]; omega
      go_quiet (fail)
      have hf_ := HF.out.below (pw_below_drewN (Below.refl _ _) nq)
      have k_ := blk_below K1.out (pw_below_drewN (Below.refl _ _) nq)
      have kp_ := blk_below KP.out (pw_below_drewN (Below.refl _ _) nq)
      clear HF K1 KP p0 p1 p2 p3 p4 l0 l1 l2 l3 l4 l5
      generalize w3.drewN nq = w4 at *
      have HF := Lib.hid hf_
      have K1 := Lib.hid k_
      have KP := Lib.hid kp_
      clear hf_ k_ kp_
      obtain ⟨p0, p1, p2, p3, p4⟩ := pk_cells KP.out
      obtain ⟨l0, l1, l2, l3, l4, l5⟩ := ld_cells HF.out.led.blk
      go_upto_region 14 with (fail)
      by_cases h3 : ak - p.f0 ≥ 3
      · have g3 : decide (ak - p.f0 ≥ 3) = true := decide_eq_true h3
        have a2 : lo ak now D0 p = true := by simp [lo, g3]
        go_quiet (fail)
        have hf_ := HF.out.below (pw_below_drewN (Below.refl _ _) nq)
        have k_ := blk_below K1.out (pw_below_drewN (Below.refl _ _) nq)
        have kp_ := blk_below KP.out (pw_below_drewN (Below.refl _ _) nq)
        clear HF K1 KP p0 p1 p2 p3 p4 l0 l1 l2 l3 l4 l5
        generalize w4.drewN nq = w5 at *
        have HF := Lib.hid hf_
        have K1 := Lib.hid k_
        have KP := Lib.hid kp_
        clear hf_ k_ kp_
        obtain ⟨p0, p1, p2, p3, p4⟩ := pk_cells KP.out
        obtain ⟨l0, l1, l2, l3, l4, l5⟩ := ld_cells HF.out.led.blk
        have HC := Lib.hid (show (ps.take (j + 1)).filter (isLost ak now D0) = cs ++ [p] by rw [HC0.out, if_pos (by simp [isLost, a1, a2])])
        have HE := Lib.hid (show (ps.take (j + 1)).filter (fun p => !isLost ak now D0 p) = ds by rw [HE0.out, if_neg (by simp [isLost, a1, a2])]; simp)
        have HW := Lib.hid (show (ps.take (j + 1)).foldl (nxt ak now D0) (la, false) = (la', wt') by rw [HW0.out]; simp [nxt, a1, a2])
        clear h1 h2
        go_wp2_with (first | ((with_reducible refine gate_dst (N := 95) rfl ?_); go_must (refine Kd.Q_append k56 (w0 := w5) w.heap.size rfl (.tmp 92) (.tmp 94) 61 56 (.agg #[.int .u64 0, .int .u64 0, .int .u64 0, .bool false, .bool false]) 32 rfl Try.underlying61 info56 rfl (by decide) (by decide) (.slice C cs.length cc) cs p [.int .u64 p.f0, .int .u64 p.f1, .int .u64 p.f2, .bool p.f3, .bool p.f4] (fun _ => True) (fun _ => False) rfl (by first | (go_simp; done) | (go_simp; rfl)) (k56_mkM _ _ _ _) (fun _ hk => hk.elim) (fun _ _ => trivial) HF.out.qc ((Below.refl w5.heap.size w5).mono HF.out.kb.1) HF.out.kb.1 (by omega) ?_; intro v1 wn hQ hbn hgn hat; obtain ⟨B, b, rfl, _⟩ := Kd.Q_reads hQ; have hFn := HF.out.growC hgn hQ hbn hat; have hKn := blk_grown K1.out hgn (Kd.Q_ne HF.out.qc K1.out (by decide)); have hPn := blk_grown KP.out hgn (fun e => absurd (HSC.out gp e.symm) (Nat.lt_irrefl gp)); clear HF K1 KP p0 p1 p2 p3 p4 l0 l1 l2 l3 l4 l5; have HF := Lib.hid hFn; have K1 := Lib.hid hKn; have KP := Lib.hid hPn; clear hQ hgn hbn hat hFn hKn hPn)))
        go_roundw
        case rel => exact ⟨j + 1, B, D, b, dd, _, _, hjl, by rw [HC.out] <;> simp, by rw [HE.out] <;> simp, by go_num, HW.out, by rw [HC.out, HE.out]; exact HF.out, K1.out⟩
        case measure => simp [intOf]; omega
      have g3 : decide (ak - p.f0 ≥ 3) = false := decide_eq_false h3
      go_quiet (fail)
      have hf_ := HF.out.below (pw_below_drewN (Below.refl _ _) nq)
      have k_ := blk_below K1.out (pw_below_drewN (Below.refl _ _) nq)
      have kp_ := blk_below KP.out (pw_below_drewN (Below.refl _ _) nq)
      clear HF K1 KP p0 p1 p2 p3 p4 l0 l1 l2 l3 l4 l5
      generalize w4.drewN nq = w5 at *
      have HF := Lib.hid hf_
      have K1 := Lib.hid k_
      have KP := Lib.hid kp_
      clear hf_ k_ kp_
      obtain ⟨p0, p1, p2, p3, p4⟩ := pk_cells KP.out
      obtain ⟨l0, l1, l2, l3, l4, l5⟩ := ld_cells HF.out.led.blk
      obtain ⟨dv, hdv⟩ : ∃ dv, IntKind.u64.wrap (p.f1 + D0) = dv := ⟨_, rfl⟩
      have hdue : due D0 p = dv := hdv
      go_upto_region 15 with (fail)
      have c0 : w5.cell? ⟨gp, 1, none⟩ = some (.int .u64 p.f1) ∧ w5.cell? ⟨w.heap.size, 0, none⟩ = some (.int .u64 r0) ∧ w5.cell? ⟨w.heap.size, 1, none⟩ = some (.int .u64 r1) ∧ w5.cell? ⟨w.heap.size, 2, none⟩ = some (.int .u64 r2) ∧ w5.cell? ⟨w.heap.size, 3, none⟩ = some (.int .u64 r3) ∧ w5.cell? ⟨w.heap.size, 4, none⟩ = some (.bool r4) := ⟨p1, rb_cells K1.out⟩
      go_region_held3 (fun w' => w'.cell? ⟨gp, 1, none⟩ = some (.int .u64 p.f1) ∧ w'.cell? ⟨w.heap.size, 0, none⟩ = some (.int .u64 r0) ∧ w'.cell? ⟨w.heap.size, 1, none⟩ = some (.int .u64 r1) ∧ w'.cell? ⟨w.heap.size, 2, none⟩ = some (.int .u64 r2) ∧ w'.cell? ⟨w.heap.size, 3, none⟩ = some (.int .u64 r3) ∧ w'.cell? ⟨w.heap.size, 4, none⟩ = some (.bool r4)) (first | go_keep | exact keep6 (by assumption) (by assumption)) ((go_at_call 26; refine (rtt_Rtt_Lost.calls r0 r1 r2 r3 r4 D0 _ HD.out).mono ?_; rintro e wx ⟨rfl, hbx⟩))
      have hf_ := HF.out.below (below_step (below_drew (Below.refl w5.heap.size w5)) hbx)
      have k_ := blk_below K1.out (below_step (below_drew (Below.refl w5.heap.size w5)) hbx)
      have kp_ := blk_below KP.out (below_step (below_drew (Below.refl w5.heap.size w5)) hbx)
      clear HF K1 KP p0 p1 p2 p3 p4 l0 l1 l2 l3 l4 l5
      have HF := Lib.hid hf_
      have K1 := Lib.hid k_
      have KP := Lib.hid kp_
      clear hf_ k_ kp_
      obtain ⟨p0, p1, p2, p3, p4⟩ := pk_cells KP.out
      obtain ⟨l0, l1, l2, l3, l4, l5⟩ := ld_cells HF.out.led.blk
      clear c0 hbx
      by_cases h4 : dv ≤ now
      · have g4 : decide (dv ≤ now) = true := decide_eq_true h4
        have a2 : lo ak now D0 p = true := by simp [lo, hdue, g4]
        have HC := Lib.hid (show (ps.take (j + 1)).filter (isLost ak now D0) = cs ++ [p] by rw [HC0.out, if_pos (by simp [isLost, a1, a2])])
        have HE := Lib.hid (show (ps.take (j + 1)).filter (fun p => !isLost ak now D0 p) = ds by rw [HE0.out, if_neg (by simp [isLost, a1, a2])]; simp)
        have HW := Lib.hid (show (ps.take (j + 1)).foldl (nxt ak now D0) (la, false) = (la', wt') by rw [HW0.out]; simp [nxt, a1, a2])
        clear h1 h2 h3 hdue
        go_wp2_with (first | ((with_reducible refine gate_dst (N := 95) rfl ?_); go_must (refine Kd.Q_append k56 (w0 := wx) w.heap.size rfl (.tmp 92) (.tmp 94) 61 56 (.agg #[.int .u64 0, .int .u64 0, .int .u64 0, .bool false, .bool false]) 32 rfl Try.underlying61 info56 rfl (by decide) (by decide) (.slice C cs.length cc) cs p [.int .u64 p.f0, .int .u64 p.f1, .int .u64 p.f2, .bool p.f3, .bool p.f4] (fun _ => True) (fun _ => False) rfl (by first | (go_simp; done) | (go_simp; rfl)) (k56_mkM _ _ _ _) (fun _ hk => hk.elim) (fun _ _ => trivial) HF.out.qc ((Below.refl wx.heap.size wx).mono HF.out.kb.1) HF.out.kb.1 (by omega) ?_; intro v1 wn hQ hbn hgn hat; obtain ⟨B, b, rfl, _⟩ := Kd.Q_reads hQ; have hFn := HF.out.growC hgn hQ hbn hat; have hKn := blk_grown K1.out hgn (Kd.Q_ne HF.out.qc K1.out (by decide)); have hPn := blk_grown KP.out hgn (fun e => absurd (HSC.out gp e.symm) (Nat.lt_irrefl gp)); clear HF K1 KP p0 p1 p2 p3 p4 l0 l1 l2 l3 l4 l5; have HF := Lib.hid hFn; have K1 := Lib.hid hKn; have KP := Lib.hid hPn; clear hQ hgn hbn hat hFn hKn hPn)))
        go_roundw
        case rel => exact ⟨j + 1, B, D, b, dd, _, _, hjl, by rw [HC.out] <;> simp, by rw [HE.out] <;> simp, by go_num, HW.out, by rw [HC.out, HE.out]; exact HF.out, K1.out⟩
        case measure => simp [intOf]; omega
      have g4 : decide (dv ≤ now) = false := decide_eq_false h4
      have a2 : lo ak now D0 p = false := by simp only [lo, hdue, g3, g4, Bool.or_false]
      have HC := Lib.hid (show (ps.take (j + 1)).filter (isLost ak now D0) = cs by rw [HC0.out, if_neg (by simp [isLost, a1, a2])]; simp)
      have HE := Lib.hid (show (ps.take (j + 1)).filter (fun p => !isLost ak now D0 p) = ds ++ [p] by rw [HE0.out, if_pos (by simp [isLost, a1, a2])])
      go_upto_region 9 with (first | ((with_reducible refine gate_dst (N := 29) rfl ?_); go_must (refine Kd.Q_append k56 (w0 := wx) w.heap.size rfl (.tmp 26) (.tmp 28) 61 56 (.agg #[.int .u64 0, .int .u64 0, .int .u64 0, .bool false, .bool false]) 32 rfl Try.underlying61 info56 rfl (by decide) (by decide) (.slice D ds.length dd) ds p [.int .u64 p.f0, .int .u64 p.f1, .int .u64 p.f2, .bool p.f3, .bool p.f4] (fun _ => True) (fun _ => False) rfl (by first | (go_simp; done) | (go_simp; rfl)) (k56_mkM _ _ _ _) (fun _ hk => hk.elim) (fun _ _ => trivial) HF.out.qd ((Below.refl wx.heap.size wx).mono HF.out.kb.1) HF.out.kb.1 (by omega) ?_; intro v1 wn hQ hbn hgn hat; obtain ⟨B, b, rfl, _⟩ := Kd.Q_reads hQ; have hFn := HF.out.growD hgn hQ hbn hat; have hKn := blk_grown K1.out hgn (Kd.Q_ne HF.out.qd K1.out (by decide)); have hPn := blk_grown KP.out hgn (fun e => absurd (HSD.out gp e.symm) (Nat.lt_irrefl gp)); clear HF K1 KP p0 p1 p2 p3 p4 l0 l1 l2 l3 l4 l5; have HF := Lib.hid hFn; have K1 := Lib.hid hKn; have KP := Lib.hid hPn; clear hQ hgn hbn hat hFn hKn hPn)))
      obtain ⟨p0, p1, p2, p3, p4⟩ := pk_cells KP.out
      obtain ⟨l0, l1, l2, l3, l4, l5⟩ := ld_cells HF.out.led.blk
      have c0 : wn.cell? ⟨gp, 1, none⟩ = some (.int .u64 p.f1) ∧ wn.cell? ⟨w.heap.size, 0, none⟩ = some (.int .u64 r0) ∧ wn.cell? ⟨w.heap.size, 1, none⟩ = some (.int .u64 r1) ∧ wn.cell? ⟨w.heap.size, 2, none⟩ = some (.int .u64 r2) ∧ wn.cell? ⟨w.heap.size, 3, none⟩ = some (.int .u64 r3) ∧ wn.cell? ⟨w.heap.size, 4, none⟩ = some (.bool r4) := ⟨p1, rb_cells K1.out⟩
      go_region_held3 (fun w' => w'.cell? ⟨gp, 1, none⟩ = some (.int .u64 p.f1) ∧ w'.cell? ⟨w.heap.size, 0, none⟩ = some (.int .u64 r0) ∧ w'.cell? ⟨w.heap.size, 1, none⟩ = some (.int .u64 r1) ∧ w'.cell? ⟨w.heap.size, 2, none⟩ = some (.int .u64 r2) ∧ w'.cell? ⟨w.heap.size, 3, none⟩ = some (.int .u64 r3) ∧ w'.cell? ⟨w.heap.size, 4, none⟩ = some (.bool r4)) (first | go_keep | exact keep6 (by assumption) (by assumption)) ((go_at_call 26; refine (rtt_Rtt_Lost.calls r0 r1 r2 r3 r4 D0 _ HD.out).mono ?_; rintro e wy ⟨rfl, hby⟩))
      have hf_ := HF.out.below (below_step (below_drew (Below.refl wn.heap.size wn)) hby)
      have k_ := blk_below K1.out (below_step (below_drew (Below.refl wn.heap.size wn)) hby)
      have kp_ := blk_below KP.out (below_step (below_drew (Below.refl wn.heap.size wn)) hby)
      clear HF K1 KP p0 p1 p2 p3 p4 l0 l1 l2 l3 l4 l5
      have HF := Lib.hid hf_
      have K1 := Lib.hid k_
      have KP := Lib.hid kp_
      clear hf_ k_ kp_
      obtain ⟨p0, p1, p2, p3, p4⟩ := pk_cells KP.out
      obtain ⟨l0, l1, l2, l3, l4, l5⟩ := ld_cells HF.out.led.blk
      clear c0 hby
      cases wt' with
      | false =>
        have HW := Lib.hid (show (ps.take (j + 1)).foldl (nxt ak now D0) (la, false) = (dv, true) by rw [HW0.out]; simp [nxt, a1, a2, hdue])
        have u2 := blk_frozen HF.out.led.blk 2
        have u3 := blk_frozen HF.out.led.blk 3
        have hf9 := HF.out.next dv
        have k9 := (Below.heap_setCell _ ⟨g, 3, none⟩ (.bool true) w.heap.size (by show w.heap.size ≠ g; omega)).trans ((Below.heap_setCell wy ⟨g, 2, none⟩ (.int .u64 dv) w.heap.size (by show w.heap.size ≠ g; omega)).trans K1.out)
        clear HF K1
        have HF := Lib.hid hf9
        have K1 := Lib.hid k9
        clear hf9 k9 h1 h2 h3 h4 hdue
        go_wp2_with fail
        go_roundw
        case rel => exact ⟨j + 1, C, B, cc, b, _, _, hjl, by rw [HC.out] <;> simp, by rw [HE.out] <;> simp, by go_num, HW.out, by rw [HC.out, HE.out]; exact HF.out, K1.out⟩
        case measure => simp [intOf]; omega
      | true =>
        by_cases h5 : dv < la'
        · have g5 : decide (dv < la') = true := decide_eq_true h5
          have HW := Lib.hid (show (ps.take (j + 1)).foldl (nxt ak now D0) (la, false) = (dv, true) by rw [HW0.out]; simp [nxt, a1, a2, hdue, h5])
          clear h5
          have u2 := blk_frozen HF.out.led.blk 2
          have u3 := blk_frozen HF.out.led.blk 3
          have hf9 := HF.out.next dv
          have k9 := (Below.heap_setCell _ ⟨g, 3, none⟩ (.bool true) w.heap.size (by show w.heap.size ≠ g; omega)).trans ((Below.heap_setCell wy ⟨g, 2, none⟩ (.int .u64 dv) w.heap.size (by show w.heap.size ≠ g; omega)).trans K1.out)
          clear HF K1
          have HF := Lib.hid hf9
          have K1 := Lib.hid k9
          clear hf9 k9 h1 h2 h3 h4 hdue
          go_wp2_with fail
          go_roundw
          case rel => exact ⟨j + 1, C, B, cc, b, _, _, hjl, by rw [HC.out] <;> simp, by rw [HE.out] <;> simp, by go_num, HW.out, by rw [HC.out, HE.out]; exact HF.out, K1.out⟩
          case measure => simp [intOf]; omega
        · have g5 : decide (dv < la') = false := decide_eq_false h5
          have HW := Lib.hid (show (ps.take (j + 1)).foldl (nxt ak now D0) (la, false) = (la', true) by rw [HW0.out]; simp [nxt, a1, a2, hdue, h5])
          clear h5 h1 h2 h3 h4 hdue
          go_wp2_with fail
          go_roundw
          case rel => exact ⟨j + 1, C, B, cc, b, _, _, hjl, by rw [HC.out] <;> simp, by rw [HE.out] <;> simp, by go_num, HW.out, by rw [HC.out, HE.out]; exact HF.out, K1.out⟩
          case measure => simp [intOf]; omega
    · have hje : j = ps.length := by omega
      subst hje
      have e1 : decide ((ps.length : Int) < (ps.length : Int)) = false := decide_eq_false (by omega)
      have hfo := HF.out
      have hw0 := HW00.out
      rw [List.take_length] at hfo hw0 ⊢
      clear HF HW00
      obtain ⟨cs, hcs⟩ : ∃ cs, ps.filter (isLost ak now D0) = cs := ⟨_, rfl⟩
      obtain ⟨ds, hds⟩ : ∃ ds, ps.filter (fun p => !isLost ak now D0 p) = ds := ⟨_, rfl⟩
      rw [hcs] at hfo ⊢
      rw [hds] at hfo ⊢
      have HCS := Lib.hid hcs
      have HDS := Lib.hid hds
      have HF := Lib.hid hfo
      have HW := Lib.hid hw0
      clear hcs hds hfo hw0
      obtain ⟨l0, l1, l2, l3, l4, l5⟩ := ld_cells HF.out.led.blk
      have u0 := blk_frozen HF.out.led.blk 0
      have HL := Lib.hid (HF.out.led.row (Kd.Q_lower HF.out.qd hbase))
      have HQ := Lib.hid (Kd.Q_set HF.out.qc HF.out.led.blk t56 0 (.slice D ds.length dd))
      have HB := Lib.hid (HF.out.bel.setCell (p := ⟨g, 0, none⟩) HF.out.led.old (.slice D ds.length dd))
      have HK := Lib.hid (HF.out.kb.set_ 0 (.slice D ds.length dd))
      go_wp2_with fail
      go_ret
      unfold FP
      rw [HCS.out, HDS.out, HW.out]
      exact ⟨C, D, cc, dd, rfl, HQ.out, HL.out, HB.out, HK.out⟩
end Go.Proofs.Ytclmnpdabnogkaa.LossFind
