/- Fit: an event of a given kind, of any; its numbers are as many as the kind has. Condition: its rows are short. -/
import Derived.Test.YtclmnpdabnogkaaEvOwn
namespace Go.Proofs.Ytclmnpdabnogkaa.FitWalk
open Go.RowKit Go.Proofs.Ytclmnpdabnogkaa.PEventChecks Go.Proofs.Ytclmnpdabnogkaa.EvPure Go.Proofs.Ytclmnpdabnogkaa.EvCalls Go.Proofs.Ytclmnpdabnogkaa.EvClone Go.Proofs.Ytclmnpdabnogkaa.EvOwn Go.Proofs.YtclmnpdabnogkaaW.PrintWords Go.Proofs.YtclmnpdabnogkaaW.PrintLast Go.Proofs.YtclmnpdabnogkaaW.PrintMore

/-- An event in the box that is made first, its rows its own; behind it the answer's box, empty still. -/
structure FS (w wr : World) (k a : Int) (A2 : Option Addr) (c2 : Nat) (A3 : Option Addr) (c3 : Nat) (l2 l3 : List Int) : Prop where
  own : Own wr w.heap.size w.heap.size k a A2 c2 A3 c3 l2 l3
  res : wr.heap[w.heap.size + 1]? = some (Ev 0 0 none 0 0 none 0 0)
  bel : Below w.heap.size w wr
section
variable {w wr wn : World} {k a : Int} {A2 : Option Addr} {c2 : Nat} {A3 : Option Addr} {c3 : Nat} {l2 l3 : List Int}
theorem FS.below (h : FS w wr k a A2 c2 A3 c3 l2 l3) (hb : Below wr.heap.size wr wn) : FS w wn k a A2 c2 A3 c3 l2 l3 := ⟨h.own.below hb, blk_below h.res hb, below_step h.bel hb⟩
theorem FS.put (h : FS w wr k a A2 c2 A3 c3 l2 l3) {k' a' : Int} {B2 : Option Addr} {d2 : Nat} {B3 : Option Addr} {d3 : Nat} {m2 m3 : List Int} (j : Nat) (v : Value) (ho : Own (wr.setCell ⟨w.heap.size, j, none⟩ v) w.heap.size w.heap.size k' a' B2 d2 B3 d3 m2 m3) : FS w (wr.setCell ⟨w.heap.size, j, none⟩ v) k' a' B2 d2 B3 d3 m2 m3 :=
  ⟨ho, (Below.heap_setCell wr _ _ _ (by simp)).trans h.res, below_set h.bel (Nat.le_refl _)⟩
theorem FS.kind (h : FS w wr k a A2 c2 A3 c3 l2 l3) (k' : Int) : FS w (wr.setCell ⟨w.heap.size, 0, none⟩ (.int .u8 k')) k' a A2 c2 A3 c3 l2 l3 := h.put 0 _ (h.own.kind k')
theorem FS.time (h : FS w wr k a A2 c2 A3 c3 l2 l3) (a' : Int) : FS w (wr.setCell ⟨w.heap.size, 1, none⟩ (.int .u64 a')) k a' A2 c2 A3 c3 l2 l3 := h.put 1 _ (h.own.time a')
theorem FS.cut2 (h : FS w wr k a A2 c2 A3 c3 l2 l3) {m : Nat} (hm : m ≤ l2.length) : FS w (wr.setCell ⟨w.heap.size, 2, none⟩ (.slice A2 m c2)) k a A2 c2 A3 c3 (l2.take m) l3 := by
  have hq := Kd.Q_take h.own.q2 hm
  have hl : (l2.take m).length = m := by simp [hm]
  refine h.put 2 _ ⟨?_, ?_, Kd.Q_set h.own.q3 h.own.blk t5 2 _, h.own.old⟩
  · rw [hl]; exact blk_put h.own.blk 2 _ rfl
  · rw [hl]; exact Kd.Q_set hq h.own.blk t36 2 _
theorem FS.cut3 (h : FS w wr k a A2 c2 A3 c3 l2 l3) {m : Nat} (hm : m ≤ l3.length) : FS w (wr.setCell ⟨w.heap.size, 3, none⟩ (.slice A3 m c3)) k a A2 c2 A3 c3 l2 (l3.take m) := by
  have hq := Kd.Q_take h.own.q3 hm
  have hl : (l3.take m).length = m := by simp [hm]
  refine h.put 3 _ ⟨?_, Kd.Q_set h.own.q2 h.own.blk t36 3 _, ?_, h.own.old⟩
  · rw [hl]; exact blk_put h.own.blk 3 _ rfl
  · rw [hl]; exact Kd.Q_set hq h.own.blk t5 3 _
theorem FS.nil3 (h : FS w wr k a A2 c2 A3 c3 l2 l3) : FS w (wr.setCell ⟨w.heap.size, 3, none⟩ (.slice none 0 0)) k a A2 c2 none 0 l2 [] :=
  h.put 3 _ ⟨blk_put h.own.blk 3 _ rfl, Kd.Q_set h.own.q2 h.own.blk t36 3 _, Kd.Q_nil _ _ _ _ _, h.own.old⟩
theorem FS.res_grown (h : FS w wr k a A2 c2 A3 c3 l2 l3) (hg : wr.grownBy wn (Value.slice A2 l2.length c2).ownBlock) : wn.heap[w.heap.size + 1]? = some (Ev 0 0 none 0 0 none 0 0) :=
  blk_grown h.res hg (Kd.Q_ne h.own.q2 h.res (by decide))
theorem FS.grow2 {B2 : Option Addr} {d2 : Nat} {m2 : List Int} (h : FS w wr k a A2 c2 A3 c3 l2 l3) (hg : wr.grownBy wn (Value.slice A2 l2.length c2).ownBlock) (hbn : Below w.heap.size w wn) (hq : (Kd.int .u64).Q 36 wn w.heap.size (fun _ => True) (.slice B2 m2.length d2) m2) :
    FS w (wn.setCell ⟨w.heap.size, 2, none⟩ (.slice B2 m2.length d2)) k a B2 d2 A3 c3 m2 l3 :=
  ⟨(h.own.grow2 hg hq).2, (Below.heap_setCell wn _ _ _ (by simp)).trans (h.res_grown hg), below_set hbn (Nat.le_refl _)⟩
theorem FS.item {g o : Nat} (h : FS w wr k a (some ⟨g, o, none⟩) c2 A3 c3 l2 l3) (i : Int) (h0 : 0 ≤ i) (hi : i < l2.length) (x : Int) :
    FS w (wr.setCell ⟨g, o + i.toNat, none⟩ (.int .u64 x)) k a (some ⟨g, o, none⟩) c2 A3 c3 (l2.set i.toNat x) l3 ∧ w.heap.size ≤ g ∧ wr.cell? ⟨g, o + i.toNat, none⟩ = some (.int .u64 (rd l2 i)) ∧ wr.frozen? ⟨g, o + i.toNat, none⟩ = false := by
  have hq := Kd.Q_putg h.own.q2 i h0 hi x
  have hc := Kd.Q_cell 0 h.own.q2 i h0 hi
  obtain ⟨g', o', cap, he, hle, _, cells, hcl⟩ := Kd.Q_form h.own.q2 (by omega)
  injection he with he
  injection he with he
  injection he with he1
  rw [← he1] at hcl hle
  have h3 : (Kd.int .u8).Q 5 (wr.setCell ⟨g, o + i.toNat, none⟩ (.int .u64 x)) w.heap.size (fun _ => True) (.slice A3 l3.length c3) l3 :=
    Kd.Q_grown2 h.own.q3 rfl hq.2 (fun k hk => by injection hk with hk; subst hk; exact Kd.Q_ne h.own.q3 hcl (by decide))
  have hne : some w.heap.size ≠ some g := by
    intro e
    injection e with e
    rw [← e, h.own.blk] at hcl
    simp [EvOwn.Ev] at hcl
  have hne2 : some (w.heap.size + 1) ≠ some g := by
    intro e
    injection e with e
    rw [← e, h.res] at hcl
    simp [EvOwn.Ev] at hcl
  refine ⟨⟨⟨?_, ?_, h3, h.own.old⟩, ?_, below_set h.bel hle⟩, hle, hc.1, hc.2⟩
  · have := blk_grown h.own.blk hq.2 hne
    rw [List.length_set]; exact this
  · rw [List.length_set]
    exact hq.1
  · exact blk_grown h.res hq.2 hne2
end

theorem fs_new {w wr : World} {k a k' a' : Int} {A2 A3 B2 B3 : Option Addr} {n2 n3 c2 c3 d2 d3 : Nat} {l2 l3 : List Int} (hb : wr.heap[w.heap.size]? = some (Ev k' a' B2 n2 d2 B3 n3 d3))
    (hr : wr.heap[w.heap.size + 1]? = some (Ev 0 0 none 0 0 none 0 0)) (h2 : (Kd.int .u64).Q 36 wr w.heap.size (fun _ => True) (.slice A2 l2.length c2) l2) (h3 : (Kd.int .u8).Q 5 wr w.heap.size (fun _ => True) (.slice A3 l3.length c3) l3) (hw : Below w.heap.size w wr) :
    FS w ((((wr.setCell ⟨w.heap.size, 0, none⟩ (.int .u8 k)).setCell ⟨w.heap.size, 1, none⟩ (.int .u64 a)).setCell ⟨w.heap.size, 2, none⟩ (.slice A2 l2.length c2)).setCell ⟨w.heap.size, 3, none⟩ (.slice A3 l3.length c3)) k a A2 c2 A3 c3 l2 l3 := by
  have b0 := blk_put hb 0 (.int .u8 k) rfl
  have b1 := blk_put b0 1 (.int .u64 a) rfl
  have b2 := blk_put b1 2 (.slice A2 l2.length c2) rfl
  have b3 := blk_put b2 3 (.slice A3 l3.length c3) rfl
  refine ⟨⟨b3, ?_, ?_, Nat.le_refl _⟩, ?_, ?_⟩
  · exact Kd.Q_set (Kd.Q_set (Kd.Q_set (Kd.Q_set h2 hb t36 0 _) b0 t36 1 _) b1 t36 2 _) b2 t36 3 _
  · exact Kd.Q_set (Kd.Q_set (Kd.Q_set (Kd.Q_set h3 hb t5 0 _) b0 t5 1 _) b1 t5 2 _) b2 t5 3 _
  · exact (Below.heap_setCell _ _ _ _ (by simp)).trans ((Below.heap_setCell _ _ _ _ (by simp)).trans ((Below.heap_setCell _ _ _ _ (by simp)).trans ((Below.heap_setCell _ _ _ _ (by simp)).trans hr)))
  · exact below_set (below_set (below_set (below_set hw (Nat.le_refl _)) (Nat.le_refl _)) (Nat.le_refl _)) (Nat.le_refl _)

/-- How long the row is that lies at an address. -/
def lenAt (w : World) (p : Addr) : Nat := match w.cell? p with | some (.slice _ n _) => n | _ => 0
theorem FS.len {w wr : World} {k a : Int} {A2 : Option Addr} {c2 : Nat} {A3 : Option Addr} {c3 : Nat} {l2 l3 : List Int} (h : FS w wr k a A2 c2 A3 c3 l2 l3) : lenAt wr ⟨w.heap.size, 2, none⟩ = l2.length := by
  unfold lenAt
  rw [(ev_cells h.own.blk).2.2.1]
theorem FS.fin {w wr : World} {k a : Int} {A2 : Option Addr} {c2 : Nat} {A3 : Option Addr} {c3 : Nat} {l2 l3 : List Int} (h : FS w wr k a A2 c2 A3 c3 l2 l3) {wf : World}
    (hf : (((wr.setCell ⟨w.heap.size + 1, 0, none⟩ (.int .u8 k)).setCell ⟨w.heap.size + 1, 1, none⟩ (.int .u64 a)).setCell ⟨w.heap.size + 1, 2, none⟩ (.slice A2 l2.length c2)).setCell ⟨w.heap.size + 1, 3, none⟩ (.slice A3 l3.length c3) = wf) :
    wf.heap[w.heap.size + 1]? = some (.cells #[.int .u8 k, .int .u64 a, .slice A2 l2.length c2, .slice A3 l3.length c3] 40 (0, 0)) ∧ (Kd.int .u64).C wf A2 l2.length l2 ∧ l2.length ≤ c2 ∧ (Kd.int .u8).C wf A3 l3.length l3 ∧ l3.length ≤ c3 ∧ Below w.heap.size w wf := by
  have b0 := blk_put h.res 0 (.int .u8 k) rfl
  have b1 := blk_put b0 1 (.int .u64 a) rfl
  have b2 := blk_put b1 2 (.slice A2 l2.length c2) rfl
  have b3 := blk_put b2 3 (.slice A3 l3.length c3) rfl
  have q2 := Kd.Q_set (Kd.Q_set (Kd.Q_set (Kd.Q_set h.own.q2 h.res t36 0 (.int .u8 k)) b0 t36 1 (.int .u64 a)) b1 t36 2 (.slice A2 l2.length c2)) b2 t36 3 (.slice A3 l3.length c3)
  have q3 := Kd.Q_set (Kd.Q_set (Kd.Q_set (Kd.Q_set h.own.q3 h.res t5 0 (.int .u8 k)) b0 t5 1 (.int .u64 a)) b1 t5 2 (.slice A2 l2.length c2)) b2 t5 3 (.slice A3 l3.length c3)
  subst hf
  have e2 := Kd.Q_reads' q2
  have e3 := Kd.Q_reads' q3
  exact ⟨b3, e2.2.2, e2.2.1, e3.2.2, e3.2.1, below_set (below_set (below_set (below_set h.bel (by omega)) (by omega)) (by omega)) (by omega)⟩
theorem wraps_u64 (n : Int) (h₀ : 0 ≤ n) (h₁ : n < 2 ^ 64) : IntKind.u64.wrap n = n := by rw [IntKind.wrap_u64]; omega
theorem mask_u64 (x : Int) (h0 : 0 ≤ x) (h1 : x ≤ 18446744073709551615) : 0 ≤ bits .and .u64 x 4611686018427387903 ∧ bits .and .u64 x 4611686018427387903 ≤ 4611686018427387903 := by
  have h := Go.bits_mask .u64 64 (by decide) wraps_u64 62 (by decide) x h0 (by omega)
  have e : ((2 : Int) ^ 62 - 1) = 4611686018427387903 := by decide
  rw [e] at h
  rw [h]
  omega
set_option maxRecDepth 100000 in
set_option maxHeartbeats 4000000 in
theorem fit_calls (k a : Int) (A2 A3 : Option Addr) (c2 c3 : Nat) (l2 l3 : List Int) (kk : Int) (w : World) (h2 : (Kd.int .u64).C w A2 l2.length l2) (h3 : (Kd.int .u8).C w A3 l3.length l3) (n2 : l2.length ≤ 30) (n3 : l3.length ≤ 100)
    (ha : 0 ≤ a) (ha9 : a ≤ 18446744073709551615) (hk : 0 ≤ kk) (hk9 : kk ≤ 255) (hr2 : ∀ x ∈ l2, 0 ≤ x ∧ x ≤ 18446744073709551615) :
    Calls Try.prog 18 #[.agg #[.int .u8 k, .int .u64 a, .slice A2 l2.length c2, .slice A3 l3.length c3], .int .u8 kk] w fun e w' => ∃ (B2 B3 : Option Addr) (d2 d3 : Nat) (m2 m3 : List Int), e = .returned (.agg #[.int .u8 (kk % 19 + 1), .int .u64 (a % 1125899906842625), .slice B2 m2.length d2, .slice B3 m3.length d3]) ∧
      ((m2.length : Int) = EvPure.mn (kk % 19).toNat ∧ (∀ x ∈ m2, 0 ≤ x ∧ x ≤ 4611686018427387903) ∧ m3.length ≤ 20 ∧ (dt (kk % 19).toNat = false → m3.length = 0)) ∧ (Kd.int .u64).C w' B2 m2.length m2 ∧ m2.length ≤ d2 ∧ (Kd.int .u8).C w' B3 m3.length m3 ∧ m3.length ≤ d3 ∧ Below w.heap.size w w' := by
  have H2 := Lib.hid h2
  have H3 := Lib.hid h3
  have HR2 := Lib.hid hr2
  clear h2 h3 hr2
  obtain ⟨t, ht⟩ : ∃ t : Nat, kk % 19 = t := ⟨(kk % 19).toNat, by omega⟩
  have htt : (kk % 19).toNat = t := by omega
  have ht19 : t < 19 := by omega
  rw [htt]
  clear htt
  go_enter Try.func18, Try.ntmps18
  go_upto_region 1 with (fail)
  have k1 : ((w.alloc (EvOwn.Ev k a A2 l2.length c2 A3 l3.length c3)).alloc (EvOwn.Ev 0 0 none 0 0 none 0 0)).heap[w.heap.size]? = some (EvOwn.Ev k a A2 l2.length c2 A3 l3.length c3) := blk_alloc (blk_new w _) _
  have k2 : ((w.alloc (EvOwn.Ev k a A2 l2.length c2 A3 l3.length c3)).alloc (EvOwn.Ev 0 0 none 0 0 none 0 0)).heap[w.heap.size + 1]? = some (EvOwn.Ev 0 0 none 0 0 none 0 0) := by
    have h := blk_new (w.alloc (EvOwn.Ev k a A2 l2.length c2 A3 l3.length c3)) (EvOwn.Ev 0 0 none 0 0 none 0 0)
    rw [alloc_size] at h
    exact h
  have hb1 := below_alloc (below_alloc (Below.refl w.heap.size w) (EvOwn.Ev k a A2 l2.length c2 A3 l3.length c3)) (EvOwn.Ev 0 0 none 0 0 none 0 0)
  show Code.wp _ _ _ _ ((w.alloc (EvOwn.Ev k a A2 l2.length c2 A3 l3.length c3)).alloc (EvOwn.Ev 0 0 none 0 0 none 0 0))
  generalize (w.alloc (EvOwn.Ev k a A2 l2.length c2 A3 l3.length c3)).alloc (EvOwn.Ev 0 0 none 0 0 none 0 0) = w1 at *
  have HB := Lib.hid hb1
  have K1 := Lib.hid k1
  have K2 := Lib.hid k2
  clear hb1 k1 k2
  obtain ⟨a0, a1, a2, a3⟩ := ev_cells K1.out
  go_wp2_with fail
  refine (clone_calls k a A2 A3 c2 c3 l2 l3 _ (Kd.C_below H2.out HB.out) (Kd.C_below H3.out HB.out) (by omega) (by omega)).mono ?_
  rintro e w4 ⟨v2, v3, rfl, hq2, hq3, hb4⟩
  obtain ⟨C2, e2, rfl, he2, _⟩ := Kd.Q_reads hq2
  obtain ⟨C3, e3, rfl, he3, _⟩ := Kd.Q_reads hq3
  have hf := fs_new (w := w) (k := k) (a := a) (blk_below K1.out hb4) (blk_below K2.out hb4) (Kd.Q_lower hq2 HB.out.size) (Kd.Q_lower hq3 HB.out.size) (below_step HB.out hb4)
  obtain ⟨y0, y1, y2, y3⟩ := ev_cells (blk_below K1.out hb4)
  have f0 := blk_frozen (blk_below K1.out hb4) 0
  have f1 := blk_frozen (blk_below K1.out hb4) 1
  have f2 := blk_frozen (blk_below K1.out hb4) 2
  have f3 := blk_frozen (blk_below K1.out hb4) 3
  clear a0 a1 a2 a3 K1 K2 HB hq2 hq3 hb4
  have HF := Lib.hid hf
  clear hf
  go_upto_region 2 with (fail)
  generalize (((w4.setCell ⟨w.heap.size, 0, none⟩ (.int .u8 k)).setCell ⟨w.heap.size, 1, none⟩ (.int .u64 a)).setCell ⟨w.heap.size, 2, none⟩ (.slice C2 l2.length e2)).setCell ⟨w.heap.size, 3, none⟩ (.slice C3 l3.length e3) = w5 at *
  clear y0 y1 y2 y3 f0 f1 f2 f3
  obtain ⟨y0, y1, y2, y3⟩ := ev_cells HF.out.own.blk
  have f0 := blk_frozen HF.out.own.blk 0
  have f1 := blk_frozen HF.out.own.blk 1
  go_upto_region 4 with (fail)
  have hf := (HF.out.kind (1 + (t : Int))).time (a % 1125899906842625)
  generalize (w5.setCell ⟨w.heap.size, 0, none⟩ (.int .u8 (1 + (t : Int)))).setCell ⟨w.heap.size, 1, none⟩ (.int .u64 (a % 1125899906842625)) = w6 at *
  rw [show (1 : Int) + (t : Int) = t + 1 by omega] at hf
  clear HF y0 y1 y2 y3 f0 f1 he2 he3
  have HF := Lib.hid hf
  clear hf
  obtain ⟨y0, y1, y2, y3⟩ := ev_cells HF.out.own.blk
  rw [ht]
  go_wp2_with fail
  refine (many_calls t ht19 _).mono ?_
  rintro e w7 ⟨rfl, hb7⟩
  have hf := HF.out.below hb7
  clear HF y0 y1 y2 y3 hb7
  have HF := Lib.hid hf
  clear hf
  obtain ⟨m, hm⟩ : ∃ m : Nat, EvPure.mn t = m := ⟨_, rfl⟩
  have hm8 : m ≤ 8 := by have := row_short t ht19; omega
  have HM := Lib.hid hm
  rw [hm]
  obtain ⟨b, hb⟩ : ∃ b : Bool, dt t = b := ⟨_, rfl⟩
  have HD := Lib.hid hb
  rw [hb]
  clear hm hb
  go_upto_region 7 with (fail)
  go_loopw [] (fun wr => ∃ (N2 : Option Addr) (f2 : Nat) (l : List Int), FS w wr (t + 1) (a % 1125899906842625) N2 f2 C3 e3 l l3 ∧ l.length ≤ 30 ∧ ∀ x ∈ l, 0 ≤ x ∧ x ≤ 18446744073709551615) (fun wr => m - lenAt wr ⟨w.heap.size, 2, none⟩)
  case atStart => exact ⟨_, _, _, HF.out, n2, HR2.out⟩
  case round =>
    clear HF
    obtain ⟨N2, f2, l, hf, hl, hx⟩ := hrel
    have HF := Lib.hid hf
    have HX := Lib.hid hx
    clear hf hx
    obtain ⟨y0, y1, y2, y3⟩ := ev_cells HF.out.own.blk
    by_cases hlm : l.length < m
    · have l1 : (l.length : Int) < (m : Int) := by omega
      have l7 : 0 ≤ (l.length : Int) * 7 ∧ (l.length : Int) * 7 ≤ 18446744073709551615 := by omega
      obtain ⟨x7, hx7⟩ : ∃ x7, (l.length : Int) * 7 = x7 := ⟨_, rfl⟩
      rw [hx7] at l7
      go_wp2_with (first | ((with_reducible refine gate_dst (N := 37) rfl ?_); go_must (refine Kd.Q_append (Kd.int .u64) (w0 := wr) w.heap.size rfl (.tmp 30) (.tmp 36) 37 36 (.int .u64 0) 8 rfl Try.underlying37 info36 rfl (by decide) (by omega) (.slice N2 l.length f2) l x7 [.int .u64 x7] (fun _ => True) (fun _ => False) rfl (by first | (go_simp; done) | (go_simp; rfl)) ?aPp (fun _ hk => hk.elim) ?aFp ?aOp ?aBp ?aSp ?aLp ?_; (case aPp => rfl); (case aFp => exact fun _ _ => trivial); (case aOp => exact HF.out.own.q2); (case aBp => exact (Below.refl wr.heap.size wr).mono HF.out.bel.size); (case aSp => exact HF.out.bel.size); (case aLp => omega); intro v1 wn hQ hbn hgn _; obtain ⟨M2, h2, rfl, _⟩ := Kd.Q_reads hQ; have how := HF.out.grow2 hgn (HF.out.bel.trans hbn) hQ; have hbk := (HF.out.own.grow2 hgn hQ).1; obtain ⟨y0, y1, y2, y3⟩ := ev_cells hbk; have u := blk_frozen hbk 2; have HOW := Lib.hid how; clear hQ hgn hbn how hbk; generalize hnl : (l ++ [x7]).length = nl at *)))
      go_roundw
      case rel =>
        subst hnl
        refine ⟨_, _, _, HOW.out, by simp; omega, ?_⟩
        intro x hx
        rcases List.mem_append.mp hx with hx | hx
        · exact HX.out x hx
        · rw [List.mem_singleton.mp hx]; exact l7
      case measure =>
        subst hnl
        rw [HOW.out.len, HF.out.len]
        simp
        omega
    · have l1 : decide ((l.length : Int) < (m : Int)) = false := decide_eq_false (by omega)
      have l2f : m ≤ f2 := by have := (Kd.Q_reads' HF.out.own.q2).2.1; omega
      have u2 := blk_frozen HF.out.own.blk 2
      go_upto_region 8 with (fail)
      have hf := HF.out.cut2 (m := m) (by omega)
      generalize wr.setCell ⟨w.heap.size, 2, none⟩ (.slice N2 m f2) = w8 at *
      have hlt : (l.take m).length = m := by simp; omega
      have hx8 : ∀ x ∈ l.take m, 0 ≤ x ∧ x ≤ 18446744073709551615 := fun x hx => HX.out x (List.mem_of_mem_take hx)
      clear HF HX y0 y1 y2 y3 u2 l2f l1 hlm hl
      generalize l.take m = l8 at *
      have HF := Lib.hid hf
      have HX := Lib.hid hx8
      clear hf hx8
      obtain ⟨y0, y1, y2, y3⟩ := ev_cells HF.out.own.blk
      rw [hlt] at y2
      go_wp2_with fail
      go_loopw [47] (fun v wr2 => ∃ (j : Nat) (l : List Int), v = .int .i64 j ∧ j ≤ m ∧ FS w wr2 (t + 1) (a % 1125899906842625) N2 f2 C3 e3 l l3 ∧ l.length = m ∧ (∀ x ∈ l, 0 ≤ x ∧ x ≤ 18446744073709551615) ∧ ∀ x ∈ l.take j, 0 ≤ x ∧ x ≤ 4611686018427387903) (fun v _ => m - (intOf v).toNat)
      case atStart => exact ⟨0, l8, rfl, Nat.zero_le _, HF.out, hlt, HX.out, by simp⟩
      case round =>
        clear HF HX y0 y1 y2 y3
        obtain ⟨j, l9, rfl, hj, hf, hl9, hx, hxj⟩ := hrel
        have HF := Lib.hid hf
        have HX := Lib.hid hx
        have HXJ := Lib.hid hxj
        clear hf hx hxj
        obtain ⟨y0, y1, y2, y3⟩ := ev_cells HF.out.own.blk
        rw [hl9] at y2
        by_cases hjm : j < m
        · have l1 : (j : Int) < (m : Int) := by omega
          obtain ⟨g, o, cap, hN2, _⟩ := Kd.Q_form HF.out.own.q2 (by omega)
          injection hN2 with hN2
          subst hN2
          obtain ⟨hf9, hg9, c9, u9⟩ := HF.out.item (j : Int) (by omega) (by omega) 5
          clear hf9
          rw [Int.toNat_natCast] at c9 u9
          have hrx : 0 ≤ rd l9 (j : Int) ∧ rd l9 (j : Int) ≤ 18446744073709551615 := by
            unfold rd
            rw [Int.toNat_natCast, List.getD_eq_getElem?_getD, List.getElem?_eq_getElem (by omega)]
            exact HX.out _ (List.getElem_mem _)
          generalize rd l9 (j : Int) = x9 at *
          have hmx := mask_u64 x9 hrx.1 hrx.2
          have HY := Lib.hid (HF.out.item (j : Int) (by omega) (by omega) (bits .and .u64 x9 4611686018427387903)).1
          go_wp2_with fail
          go_roundw
          case rel =>
            have hf := HY.out
            rw [Int.toNat_natCast] at hf
            generalize bits .and .u64 x9 4611686018427387903 = xm at *
            refine ⟨j + 1, l9.set j xm, by go_num, by omega, hf, by rw [List.length_set]; exact hl9, ?_, ?_⟩
            · intro x hx
              rcases List.mem_or_eq_of_mem_set hx with hx | rfl
              · exact HX.out x hx
              · omega
            · intro x hx
              rw [List.take_add_one, List.getElem?_set_self (by omega)] at hx
              rcases List.mem_append.mp hx with hx | hx
              · rw [List.take_set_of_le (Nat.le_refl _)] at hx
                exact HXJ.out x hx
              · simp at hx
                omega
          case measure => simp [intOf]; omega
        · have hje : j = m := by omega
          subst hje
          have l1 : decide ((j : Int) < (j : Int)) = false := decide_eq_false (by omega)
          have hxa : ∀ x ∈ l9, 0 ≤ x ∧ x ≤ 4611686018427387903 := by
            have := HXJ.out
            rw [List.take_of_length_le (by omega)] at this
            exact this
          clear HXJ HX
          have HX := Lib.hid hxa
          clear hxa
          obtain ⟨_, hq3, _⟩ := Kd.Q_reads' HF.out.own.q3
          cases b with
          | false =>
            have u3 := blk_frozen HF.out.own.blk 3
            have hf := HF.out.nil3
            clear HF hq3
            go_upto_region 16 with (fail)
            clear y0 y1 y2 y3 u3
            generalize wr.setCell ⟨w.heap.size, 3, none⟩ (.slice none 0 0) = w9 at *
            have HF := Lib.hid hf
            clear hf
            obtain ⟨y0, y1, y2, y3⟩ := ev_cells HF.out.own.blk
            rw [hl9] at y2
            obtain ⟨z0, z1, z2, z3⟩ := ev_cells HF.out.res
            have q0 := blk_frozen HF.out.res 0
            have q1 := blk_frozen HF.out.res 1
            have q2 := blk_frozen HF.out.res 2
            have q3 := blk_frozen HF.out.res 3
            go_wp2_with fail
            obtain ⟨hblk, hA, hB, hC, hD, hE⟩ := HF.out.fin rfl
            rw [hl9] at hblk hA hB hC hE
            refine bodyPost_ret (results_one (P := Try.prog) (p := 4) rfl _ _ (w.heap.size + 1) 40 _ (0, 0) _ rfl hblk Try.underlying40 rfl (by kernel_rfl)) rfl ?_
            exact ⟨_, _, _, _, l9, [], by rw [hl9], ⟨by rw [hl9]; exact HM.out.symm, HX.out, by simp, fun _ => rfl⟩, by rw [hl9]; exact hA, by rw [hl9]; exact hB, hC, hD, hE⟩
          | true =>
            have u3 := blk_frozen HF.out.own.blk 3
            obtain ⟨p, hp⟩ : ∃ p : Nat, (if l3.length < 20 then l3.length else 20) = p := ⟨_, rfl⟩
            have hp2 : (if (20 : Int) < (l3.length : Int) then (20 : Int) else (l3.length : Int)) = (p : Int) := by rw [← hp]; split <;> split <;> omega
            have hp3 : p ≤ l3.length ∧ p ≤ 20 := by rw [← hp]; split <;> omega
            have hf := HF.out.cut3 hp3.1
            have hp4 : p ≤ e3 := by omega
            have hl3 : (l3.take p).length = p := by simp; omega
            have hp20 : p ≤ 20 := hp3.2
            clear HF hq3 hp
            generalize l3.take p = l33 at *
            go_upto_region 16 with (fail)
            clear y0 y1 y2 y3 u3
            generalize wr.setCell ⟨w.heap.size, 3, none⟩ (.slice C3 p e3) = w9 at *
            have HF := Lib.hid hf
            clear hf
            obtain ⟨y0, y1, y2, y3⟩ := ev_cells HF.out.own.blk
            rw [hl9] at y2
            rw [hl3] at y3
            obtain ⟨z0, z1, z2, z3⟩ := ev_cells HF.out.res
            have q0 := blk_frozen HF.out.res 0
            have q1 := blk_frozen HF.out.res 1
            have q2 := blk_frozen HF.out.res 2
            have q3 := blk_frozen HF.out.res 3
            go_wp2_with fail
            obtain ⟨hblk, hA, hB, hC, hD, hE⟩ := HF.out.fin rfl
            rw [hl9, hl3] at hblk hA hC hE
            rw [hl9] at hB
            rw [hl3] at hD
            refine bodyPost_ret (results_one (P := Try.prog) (p := 4) rfl _ _ (w.heap.size + 1) 40 _ (0, 0) _ rfl hblk Try.underlying40 rfl (by kernel_rfl)) rfl ?_
            exact ⟨_, _, _, _, l9, l33, by rw [hl9, hl3], ⟨by rw [hl9]; exact HM.out.symm, HX.out, by omega, fun h => by rw [HD.out] at h; cases h⟩, by rw [hl9]; exact hA, by rw [hl9]; exact hB, by rw [hl3]; exact hC, by rw [hl3]; exact hD, hE⟩
end Go.Proofs.Ytclmnpdabnogkaa.FitWalk
