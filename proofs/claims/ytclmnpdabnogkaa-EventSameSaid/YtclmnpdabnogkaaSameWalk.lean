/- The call of the law EventSame answers true for every input, and nothing that was there has changed. No condition. -/
import Derived.Test.YtclmnpdabnogkaaEvClone
import Derived.Test.YtclmnpdabnogkaaEvSame
import Derived.Test.YtclmnpdabnogkaaEvLight
import Derived.Deep.RegionHeld3
import Derived.Deep.DeepMust
namespace Go.Proofs.Ytclmnpdabnogkaa.SameWalk
open Go.RowKit Go.Proofs.Ytclmnpdabnogkaa.PEventChecks Go.Proofs.Ytclmnpdabnogkaa.EvCalls Go.Proofs.Ytclmnpdabnogkaa.EvClone Go.Proofs.Ytclmnpdabnogkaa.EvSame Go.Proofs.Ytclmnpdabnogkaa.EvLight Go.Proofs.YtclmnpdabnogkaaW.PrintWords Go.Proofs.YtclmnpdabnogkaaW.PrintLast Go.Proofs.YtclmnpdabnogkaaW.PrintMore

/-- An event as it lies in a box. -/
def Ev (k a : Int) (A2 : Option Addr) (n2 c2 : Nat) (A3 : Option Addr) (n3 c3 : Nat) : Obj := .cells #[.int .u8 k, .int .u64 a, .slice A2 n2 c2, .slice A3 n3 c3] 40

theorem keep4 {w w' : World} {p0 p1 p2 p3 : Addr} {x0 x1 x2 x3 : Value} (hb : Below w.heap.size w w') (h : w.cell? p0 = some x0 ∧ w.cell? p1 = some x1 ∧ w.cell? p2 = some x2 ∧ w.cell? p3 = some x3) :
    w'.cell? p0 = some x0 ∧ w'.cell? p1 = some x1 ∧ w'.cell? p2 = some x2 ∧ w'.cell? p3 = some x3 := ⟨pw_cell_below hb h.1, pw_cell_below hb h.2.1, pw_cell_below hb h.2.2.1, pw_cell_below hb h.2.2.2⟩
theorem ev_cells {w : World} {g : Nat} {k a : Int} {A2 : Option Addr} {n2 c2 : Nat} {A3 : Option Addr} {n3 c3 : Nat} (h : w.heap[g]? = some (Ev k a A2 n2 c2 A3 n3 c3)) :
    w.cell? ⟨g, 0, none⟩ = some (.int .u8 k) ∧ w.cell? ⟨g, 1, none⟩ = some (.int .u64 a) ∧ w.cell? ⟨g, 2, none⟩ = some (.slice A2 n2 c2) ∧ w.cell? ⟨g, 3, none⟩ = some (.slice A3 n3 c3) :=
  ⟨blk_cell h 0, blk_cell h 1, blk_cell h 2, blk_cell h 3⟩
/-- Two boxes, both new. -/
structure Two (w0 wr : World) (OA OB : Obj) : Prop where
  a : wr.heap[w0.heap.size]? = some OA
  b : wr.heap[w0.heap.size + 1]? = some OB
  bel : Below w0.heap.size w0 wr
theorem two_new (w : World) (OA OB : Obj) : Two w ((w.alloc OA).alloc OB) OA OB :=
  ⟨blk_alloc (blk_new w _) _, by have h := blk_new (w.alloc OA) OB; rw [alloc_size] at h; exact h, below_alloc (below_alloc (Below.refl _ _) _) _⟩
theorem Two.below {w0 wr w' : World} {OA OB : Obj} (h : Two w0 wr OA OB) (hb : Below wr.heap.size wr w') : Two w0 w' OA OB := ⟨blk_below h.a hb, blk_below h.b hb, below_step h.bel hb⟩

/-- An event in a box, its rows its own, all not below base. -/
structure Own (wr : World) (base g : Nat) (k a : Int) (A2 : Option Addr) (c2 : Nat) (A3 : Option Addr) (c3 : Nat) (l2 l3 : List Int) : Prop where
  blk : wr.heap[g]? = some (Ev k a A2 l2.length c2 A3 l3.length c3)
  q2 : (Kd.int .u64).Q 36 wr base (fun _ => True) (.slice A2 l2.length c2) l2
  q3 : (Kd.int .u8).Q 5 wr base (fun _ => True) (.slice A3 l3.length c3) l3
  old : base ≤ g
theorem Own.below {wr w' : World} {base g : Nat} {k a : Int} {A2 : Option Addr} {c2 : Nat} {A3 : Option Addr} {c3 : Nat} {l2 l3 : List Int} (h : Own wr base g k a A2 c2 A3 c3 l2 l3) (hb : Below wr.heap.size wr w') : Own w' base g k a A2 c2 A3 c3 l2 l3 :=
  ⟨blk_below h.blk hb, Kd.Q_below h.q2 hb, Kd.Q_below h.q3 hb, h.old⟩
theorem own_new {wr : World} {base : Nat} {k a : Int} {A2 : Option Addr} {c2 : Nat} {A3 : Option Addr} {c3 : Nat} {l2 l3 : List Int} (hs : base ≤ wr.heap.size)
    (h2 : (Kd.int .u64).Q 36 wr base (fun _ => True) (.slice A2 l2.length c2) l2) (h3 : (Kd.int .u8).Q 5 wr base (fun _ => True) (.slice A3 l3.length c3) l3) :
    Own (wr.alloc (Ev k a A2 l2.length c2 A3 l3.length c3)) base wr.heap.size k a A2 c2 A3 c3 l2 l3 :=
  ⟨blk_new wr _, Kd.Q_alloc h2 _, Kd.Q_alloc h3 _, hs⟩

theorem Two.far {w0 wr wn : World} {OA OB : Obj} {bd : Nat} (h : Two w0 wr OA OB) (hb : Below bd wr wn) (hbd : w0.heap.size + 2 ≤ bd) : Two w0 wn OA OB :=
  ⟨(hb.block _ (by omega)).trans h.a, (hb.block _ (by omega)).trans h.b, h.bel.trans (hb.mono (by omega))⟩
theorem Own.far {wr wn : World} {bd base g : Nat} {k a : Int} {A2 : Option Addr} {c2 : Nat} {A3 : Option Addr} {c3 : Nat} {l2 l3 : List Int} (h : Own wr base g k a A2 c2 A3 c3 l2 l3)
    (hs : g < bd ∧ (∀ k, (Value.slice A2 l2.length c2).ownBlock = some k → k < bd) ∧ ∀ k, (Value.slice A3 l3.length c3).ownBlock = some k → k < bd) (hb : Below bd wr wn) : Own wn base g k a A2 c2 A3 c3 l2 l3 :=
  ⟨(hb.block _ hs.1).trans h.blk, Kd.Q_mono (Kd.Q_step (Kd.Q_tight rfl h.q2) (fun k hk _ => hb.block k (hs.2.1 k hk.symm))) (fun _ _ => trivial), Kd.Q_mono (Kd.Q_step (Kd.Q_tight rfl h.q3) (fun k hk _ => hb.block k (hs.2.2 k hk.symm))) (fun _ _ => trivial), h.old⟩
theorem t36 : ∀ q, q ∈ 36 :: (Kd.int .u64).E → q ≠ 40 := by intro q hq; simp [Kd.int, Kd.scalar] at hq; omega
theorem t5 : ∀ q, q ∈ 5 :: (Kd.int .u8).E → q ≠ 40 := by intro q hq; simp [Kd.int, Kd.scalar] at hq; omega
section
variable {wr wn : World} {base g : Nat} {k a : Int} {A2 : Option Addr} {c2 : Nat} {A3 : Option Addr} {c3 : Nat} {l2 l3 : List Int}
theorem Own.kind (h : Own wr base g k a A2 c2 A3 c3 l2 l3) (k' : Int) : Own (wr.setCell ⟨g, 0, none⟩ (.int .u8 k')) base g k' a A2 c2 A3 c3 l2 l3 :=
  ⟨blk_put h.blk 0 _ rfl, Kd.Q_set h.q2 h.blk t36 0 _, Kd.Q_set h.q3 h.blk t5 0 _, h.old⟩
theorem Own.time (h : Own wr base g k a A2 c2 A3 c3 l2 l3) (a' : Int) : Own (wr.setCell ⟨g, 1, none⟩ (.int .u64 a')) base g k a' A2 c2 A3 c3 l2 l3 :=
  ⟨blk_put h.blk 1 _ rfl, Kd.Q_set h.q2 h.blk t36 1 _, Kd.Q_set h.q3 h.blk t5 1 _, h.old⟩
theorem Own.grow2 {B2 : Option Addr} {d2 : Nat} {m2 : List Int} (h : Own wr base g k a A2 c2 A3 c3 l2 l3) (hg : wr.grownBy wn (Value.slice A2 l2.length c2).ownBlock) (hq : (Kd.int .u64).Q 36 wn base (fun _ => True) (.slice B2 m2.length d2) m2) :
    wn.heap[g]? = some (Ev k a A2 l2.length c2 A3 l3.length c3) ∧ Own (wn.setCell ⟨g, 2, none⟩ (.slice B2 m2.length d2)) base g k a B2 d2 A3 c3 m2 l3 := by
  have hb := blk_grown h.blk hg (Kd.Q_ne h.q2 h.blk (by decide))
  have h3 : (Kd.int .u8).Q 5 wn base (fun _ => True) (.slice A3 l3.length c3) l3 := by
    refine Kd.Q_grown2 h.q3 rfl hg (fun k hk => ?_)
    obtain ⟨cells, hc⟩ := Kd.Q_typed h.q2 k hk
    exact Kd.Q_ne h.q3 hc (by decide)
  exact ⟨hb, blk_put hb 2 _ rfl, Kd.Q_set hq hb t36 2 _, Kd.Q_set h3 hb t5 2 _, h.old⟩
theorem Own.grow3 {B3 : Option Addr} {d3 : Nat} {m3 : List Int} (h : Own wr base g k a A2 c2 A3 c3 l2 l3) (hg : wr.grownBy wn (Value.slice A3 l3.length c3).ownBlock) (hq : (Kd.int .u8).Q 5 wn base (fun _ => True) (.slice B3 m3.length d3) m3) :
    wn.heap[g]? = some (Ev k a A2 l2.length c2 A3 l3.length c3) ∧ Own (wn.setCell ⟨g, 3, none⟩ (.slice B3 m3.length d3)) base g k a A2 c2 B3 d3 l2 m3 := by
  have hb := blk_grown h.blk hg (Kd.Q_ne h.q3 h.blk (by decide))
  have h2 : (Kd.int .u64).Q 36 wn base (fun _ => True) (.slice A2 l2.length c2) l2 := by
    refine Kd.Q_grown2 h.q2 rfl hg (fun k hk => ?_)
    obtain ⟨cells, hc⟩ := Kd.Q_typed h.q3 k hk
    exact Kd.Q_ne h.q2 hc (by decide)
  exact ⟨hb, blk_put hb 3 _ rfl, Kd.Q_set h2 hb t36 3 _, Kd.Q_set hq hb t5 3 _, h.old⟩
theorem Own.above (h : Own wr base g k a A2 c2 A3 c3 l2 l3) {p : Addr} (hp : p.block < base) (u : Value) : Own (wr.setCell p u) base g k a A2 c2 A3 c3 l2 l3 :=
  ⟨(Below.heap_setCell wr p u g (by have := h.old; omega)).trans h.blk,
   Kd.Q_mono (Kd.Q_far (Kd.Q_bound h.q2) (fun k hk => by have := hk.2.1; omega) u) (fun _ _ => trivial),
   Kd.Q_mono (Kd.Q_far (Kd.Q_bound h.q3) (fun k hk => by have := hk.2.1; omega) u) (fun _ _ => trivial), h.old⟩
theorem Own.first {r o : Nat} (h : Own wr base g k a (some ⟨r, o, none⟩) c2 A3 c3 l2 l3) (h0 : 0 < l2.length) (x : Int) :
    Own (wr.setCell ⟨r, o, none⟩ (.int .u64 x)) base g k a (some ⟨r, o, none⟩) c2 A3 c3 (l2.set 0 x) l3 ∧ base ≤ r ∧ wr.cell? ⟨r, o, none⟩ = some (.int .u64 (rd l2 0)) ∧ wr.frozen? ⟨r, o, none⟩ = false := by
  have hq := Kd.Q_putg h.q2 0 (by omega) (by omega) x
  have hc := Kd.Q_cell 0 h.q2 0 (by omega) (by omega)
  have hb : base ≤ r := by
    obtain ⟨g', o', cap, he, hle, _⟩ := Kd.Q_form h.q2 h0
    injection he with he
    injection he with he
    injection he with he1
    omega
  have h3 : (Kd.int .u8).Q 5 (wr.setCell ⟨r, o, none⟩ (.int .u64 x)) base (fun _ => True) (.slice A3 l3.length c3) l3 := by
    refine Kd.Q_grown2 h.q3 rfl hq.2 (fun k hk => ?_)
    obtain ⟨g', o', cap, he, _, _, cells, hcl⟩ := Kd.Q_form h.q2 h0
    injection he with he
    injection he with he
    injection he with he1
    injection hk with hk
    subst hk
    rw [← he1] at hcl
    exact Kd.Q_ne h.q3 hcl (by decide)
  have hne : some g ≠ some r := by
    obtain ⟨g', o', cap, he, _, _, cells, hcl⟩ := Kd.Q_form h.q2 h0
    injection he with he
    injection he with he
    injection he with he1
    intro e
    injection e with e
    rw [← he1, ← e, h.blk] at hcl
    simp [Ev] at hcl
  refine ⟨⟨?_, ?_, h3, h.old⟩, hb, hc.1, hc.2⟩
  · have := blk_grown h.blk hq.2 hne
    simpa using this
  · rw [List.length_set]
    exact hq.1
end

set_option maxRecDepth 100000 in
set_option maxHeartbeats 20000000 in
theorem walk {w : World} (ka aa : Int) (A2 A3 : Option Addr) (c2 c3 : Nat) (l2 l3 : List Int) (kb ab : Int) (B2 B3 : Option Addr) (d2 d3 : Nat) (m2 m3 : List Int) (k i : Int)
    (hk : 0 ≤ k) (hk9 : k ≤ 255) (_hka : 0 ≤ ka) (_hka9 : ka ≤ 255) (_haa : 0 ≤ aa) (_haa9 : aa ≤ 18446744073709551615)
    (hA2 : (Kd.int .u64).C w A2 l2.length l2) (hc2 : l2.length ≤ c2) (hA3 : (Kd.int .u8).C w A3 l3.length l3) (hc3 : l3.length ≤ c3)
    (hB2 : (Kd.int .u64).C w B2 m2.length m2) (hd2 : m2.length ≤ d2) (hB3 : (Kd.int .u8).C w B3 m3.length m3) (hd3 : m3.length ≤ d3)
    (hr2 : ∀ x ∈ l2, 0 ≤ x ∧ x ≤ 18446744073709551615) :
    Calls Try.prog 4 #[.agg #[.int .u8 ka, .int .u64 aa, .slice A2 l2.length c2, .slice A3 l3.length c3], .agg #[.int .u8 kb, .int .u64 ab, .slice B2 m2.length d2, .slice B3 m3.length d3], .int .u8 k, .int .i64 i] w fun e w' => e = .returned (.bool true) ∧ Below w.heap.size w w' := by
  have HA2 := Lib.hid hA2
  have HA3 := Lib.hid hA3
  have HB2 := Lib.hid hB2
  have HB3 := Lib.hid hB3
  have HR2 := Lib.hid hr2
  clear hA2 hA3 hB2 hB3 hr2
  go_enter Try.func4, Try.ntmps4
  go_upto_region 1 with (fail)
  have h2 := two_new w (Ev ka aa A2 l2.length c2 A3 l3.length c3) (Ev kb ab B2 m2.length d2 B3 m3.length d3)
  show Code.wp _ _ _ _ ((w.alloc (Ev ka aa A2 l2.length c2 A3 l3.length c3)).alloc (Ev kb ab B2 m2.length d2 B3 m3.length d3))
  generalize (w.alloc (Ev ka aa A2 l2.length c2 A3 l3.length c3)).alloc (Ev kb ab B2 m2.length d2 B3 m3.length d3) = w1 at *
  go_wp2_with fail
  refine (awake_calls _).mono ?_
  rintro e w2 ⟨rfl, hb2⟩
  have h3 := h2.below hb2
  clear h2 hb2
  obtain ⟨a0, a1, a2, a3⟩ := ev_cells h3.a
  obtain ⟨b0, b1, b2, b3⟩ := ev_cells h3.b
  have HT := Lib.hid h3
  clear h3
  go_wp2_with fail
  have hl := light_two ka aa A2 A3 c2 c3 l2 l3 kb ab B2 B3 d2 d3 m2 m3 _ _ (blk_new w2 _)
    (Kd.C_below HA2.out (below_alloc HT.out.bel _)) hc2 (Kd.C_below HA3.out (below_alloc HT.out.bel _)) hc3 (Kd.C_below HB2.out (below_alloc HT.out.bel _)) hd2 (Kd.C_below HB3.out (below_alloc HT.out.bel _)) hd3
  refine hl.mono ?_
  clear hl
  rintro e w3 ⟨rfl, hb3⟩
  have h3 := HT.out.below (below_step (below_alloc (Below.refl _ _) _) hb3)
  clear a0 a1 a2 a3 b0 b1 b2 b3 HT hb3
  obtain ⟨lt, hlt⟩ : ∃ lt, (sh ⟨ka, aa, l2, l3⟩ && sh ⟨kb, ab, m2, m3⟩) = lt := ⟨_, rfl⟩
  rw [hlt]
  cases lt with
  | false =>
    go_wp2_with fail
    go_ret
    exact ⟨rfl, h3.bel⟩
  | true =>
    have hlen : (l2.length ≤ 30 ∧ l3.length ≤ 100) ∧ m2.length ≤ 30 ∧ m3.length ≤ 100 := by
      simpa [sh] using hlt
    clear hlt
    obtain ⟨⟨n1, n2⟩, n3, n4⟩ := hlen
    have hold3 : w.heap.size + 2 ≤ w3.heap.size := by have := blk_lt h3.b; omega
    obtain ⟨a0, a1, a2, a3⟩ := ev_cells h3.a
    have HT := Lib.hid h3
    clear h3
    go_wp2_with fail
    refine (clone_calls ka aa A2 A3 c2 c3 l2 l3 _ (Kd.C_below HA2.out HT.out.bel) (Kd.C_below HA3.out HT.out.bel) (by omega) (by omega)).mono ?_
    rintro e w4 ⟨v2, v3, rfl, hq2, hq3, hb4⟩
    obtain ⟨C2, e2, rfl, he2, _⟩ := Kd.Q_reads hq2
    obtain ⟨C3, e3, rfl, he3, _⟩ := Kd.Q_reads hq3
    have hown := own_new (k := ka) (a := aa) hb4.size hq2 hq3
    have h5 := HT.out.below (below_alloc hb4 (Ev ka aa C2 l2.length e2 C3 l3.length e3))
    clear a0 a1 a2 a3 HT hq2 hq3
    have HB4 := Lib.hid hb4
    clear hb4
    go_upto_region 6 with (fail)
    show Code.wp _ _ _ _ (w4.alloc (Ev ka aa C2 l2.length e2 C3 l3.length e3))
    generalize w4.alloc (Ev ka aa C2 l2.length e2 C3 l3.length e3) = w5 at *
    clear HB4
    generalize w4.heap.size = gc at *
    have HC := Lib.hid hown
    have HT := Lib.hid h5
    clear hown h5
    obtain ⟨a0, a1, a2, a3⟩ := ev_cells HT.out.a
    obtain ⟨x0, x1, x2, x3⟩ := ev_cells HC.out.blk
    go_wp2_with fail
    have hsame := same_calls ka aa A2 A3 c2 c3 l2 l3 ka aa C2 C3 e2 e3 l2 l3 w5 (by omega) (Kd.C_below HA2.out HT.out.bel) hc2 (Kd.C_below HA3.out HT.out.bel) hc3 (Kd.Q_reads' HC.out.q2).2.2 he2 (Kd.Q_reads' HC.out.q3).2.2 he3
    rw [sm_self] at hsame
    refine hsame.mono ?_
    clear hsame
    rintro e w6 ⟨rfl, hb6⟩
    have h6 := HT.out.below hb6
    have hc6 := HC.out.below hb6
    clear a0 a1 a2 a3 x0 x1 x2 x3 HT HC hb6
    obtain ⟨a0, a1, a2, a3⟩ := ev_cells h6.a
    have HT := Lib.hid h6
    have HC := Lib.hid hc6
    clear h6 hc6
    go_wp2_with fail
    refine (clone_calls ka aa A2 A3 c2 c3 l2 l3 _ (Kd.C_below HA2.out HT.out.bel) (Kd.C_below HA3.out HT.out.bel) (by omega) (by omega)).mono ?_
    rintro e w7 ⟨v2, v3, rfl, hq2, hq3, hb7⟩
    obtain ⟨D2, f2, rfl, hf2, _⟩ := Kd.Q_reads hq2
    obtain ⟨D3, f3, rfl, hf3, _⟩ := Kd.Q_reads hq3
    have hown := own_new (k := ka) (a := aa) hb7.size hq2 hq3
    have h8 := HT.out.below (below_alloc hb7 (Ev ka aa D2 l2.length f2 D3 l3.length f3))
    have hc8 := HC.out.below (below_alloc hb7 (Ev ka aa D2 l2.length f2 D3 l3.length f3))
    have hsep : gc < w6.heap.size ∧ (∀ k, (Value.slice C2 l2.length e2).ownBlock = some k → k < w6.heap.size) ∧ ∀ k, (Value.slice C3 l3.length e3).ownBlock = some k → k < w6.heap.size :=
      ⟨blk_lt HC.out.blk, Kd.Q_lt HC.out.q2, Kd.Q_lt HC.out.q3⟩
    have hold : w.heap.size + 2 ≤ w6.heap.size := by have := blk_lt HT.out.b; omega
    clear a0 a1 a2 a3 HT HC hq2 hq3 hb7
    go_upto_region 9 with (fail)
    show Code.wp _ _ _ _ (w7.alloc (Ev ka aa D2 l2.length f2 D3 l3.length f3))
    generalize w7.alloc (Ev ka aa D2 l2.length f2 D3 l3.length f3) = w8 at *
    generalize w7.heap.size = gd at *
    generalize w6.heap.size = bd at *
    have HT := Lib.hid h8
    have HC := Lib.hid hc8
    have HD := Lib.hid hown
    have HS := Lib.hid hsep
    clear h8 hc8 hown hsep
    go_upto_block 0 with (fail)
    have hq4 : k % 4 = 0 ∨ k % 4 = 1 ∨ k % 4 = 2 ∨ k % 4 = 3 := by omega
    generalize k % 4 = q at *
    go_cut [] (fun wc => ∃ (kd ad : Int) (F2 F3 : Option Addr) (f2 f3 : Nat) (n2 n3 : List Int), Two w wc (Ev ka aa A2 l2.length c2 A3 l3.length c3) (Ev kb ab B2 m2.length d2 B3 m3.length d3) ∧ Own wc w3.heap.size gc ka aa C2 e2 C3 e3 l2 l3 ∧ Own wc bd gd kd ad F2 f2 F3 f3 n2 n3 ∧ sm ka aa l2 l3 kd ad n2 n3 = false)
    case first =>
      obtain ⟨x0, x1, x2, x3⟩ := ev_cells HD.out.blk
      have z0 := blk_frozen HD.out.blk 0
      have z1 := blk_frozen HD.out.blk 1
      have hD := HD.out.old
      have hb8 : bd ≤ w8.heap.size := by have := blk_lt HD.out.blk; omega
      have hku : IntKind.u64.wrap k = k := by rw [IntKind.wrap_u64]; omega
      by_cases hq0 : q = 0
      · have e0 : (q == 0) = true := by simp [hq0]
        clear hq4 hq0
        go_wp2_with fail
        go_meet
        case rel => exact ⟨_, _, _, _, _, _, _, _, HT.out.far ((Below.refl bd w8).setCell hD _) hold, HC.out.far HS.out ((Below.refl bd w8).setCell hD _), HD.out.time _, sm_at (by first | omega | (rw [IntKind.wrap_u64]; omega))⟩
      by_cases hq1 : q = 1
      · have e0 : (q == 0) = false := by simp [hq0]
        have e1 : (q == 1) = true := by simp [hq1]
        clear hq4 hq0 hq1
        go_wp2_with (first | ((with_reducible refine gate_dst (N := 48) rfl ?_); go_must (refine Kd.Q_append (Kd.int .u64) (w0 := w8) bd rfl (.tmp 44) (.tmp 47) 37 36 (.int .u64 0) 8 rfl Try.underlying37 info36 rfl (by decide) (by omega) (.slice D2 l2.length f2) l2 k [.int .u64 k] (fun _ => True) (fun _ => False) rfl (by first | (go_simp; done) | (go_simp; rfl)) ?aPp (fun _ hk => hk.elim) ?aFp ?aOp ?aBp ?aSp ?aLp ?_; (case aPp => rfl); (case aFp => exact fun _ _ => trivial); (case aOp => exact HD.out.q2); (case aBp => exact Below.refl bd w8); (case aSp => exact hb8); (case aLp => omega); intro v1 wn hQ hbn hgn _; obtain ⟨N2, h2, rfl, _⟩ := Kd.Q_reads hQ; obtain ⟨hbk, how⟩ := HD.out.grow2 hgn hQ; obtain ⟨y0, y1, y2, y3⟩ := ev_cells hbk; have u := blk_frozen hbk 2; have HOW := Lib.hid how; have HBN := Lib.hid hbn; clear hQ hgn hbn how hbk; generalize hnl : (l2 ++ [k]).length = nl at *)))
        go_meet
        case rel =>
          subst hnl
          exact ⟨_, _, _, _, _, _, _, _, HT.out.far (HBN.out.trans ((Below.refl bd wn).setCell hD _)) hold, HC.out.far HS.out (HBN.out.trans ((Below.refl bd wn).setCell hD _)), HOW.out, sm_more k⟩
      by_cases hq2 : q = 2
      · have e0 : (q == 0) = false := by simp [hq0]
        have e1 : (q == 1) = false := by simp [hq1]
        have e2 : (q == 2) = true := by simp [hq2]
        clear hq4 hq0 hq1 hq2
        go_wp2_with (first | ((with_reducible refine gate_dst (N := 56) rfl ?_); refine Kd.Q_append (Kd.int .u8) (w0 := w8) bd rfl (.tmp 53) (.tmp 55) 38 5 (.int .u8 0) 1 rfl Try.underlying38 info5 rfl (by decide) (by omega) (.slice D3 l3.length f3) l3 k [.int .u8 k] (fun _ => True) (fun _ => False) rfl (by first | (go_simp; done) | (go_simp; rfl)) ?aPr (fun _ hk => hk.elim) ?aFr ?aOr ?aBr ?aSr ?aLr ?_; (case aPr => rfl); (case aFr => exact fun _ _ => trivial); (case aOr => exact HD.out.q3); (case aBr => exact Below.refl bd w8); (case aSr => exact hb8); (case aLr => omega); intro v1 wn hQ hbn hgn _; obtain ⟨N2, h2, rfl, _⟩ := Kd.Q_reads hQ; obtain ⟨hbk, how⟩ := HD.out.grow3 hgn hQ; obtain ⟨y0, y1, y2, y3⟩ := ev_cells hbk; have u := blk_frozen hbk 3; have HOW := Lib.hid how; have HBN := Lib.hid hbn; clear hQ hgn hbn how hbk; generalize hnl : (l3 ++ [k]).length = nl at *))
        go_meet
        case rel =>
          subst hnl
          exact ⟨_, _, _, _, _, _, _, _, HT.out.far (HBN.out.trans ((Below.refl bd wn).setCell hD _)) hold, HC.out.far HS.out (HBN.out.trans ((Below.refl bd wn).setCell hD _)), HOW.out, sm_data k⟩
      · have e0 : (q == 0) = false := by simp [hq0]
        have e1 : (q == 1) = false := by simp [hq1]
        have e2 : (q == 2) = false := by simp [hq2]
        clear hq4 hq0 hq1 hq2
        go_wp2_with fail
        go_meet
        case rel => exact ⟨_, _, _, _, _, _, _, _, HT.out.far ((Below.refl bd w8).setCell hD _) hold, HC.out.far HS.out ((Below.refl bd w8).setCell hD _), HD.out.kind _, sm_kind (by first | omega | (rw [IntKind.wrap_u8]; omega))⟩
    case rest =>
      clear HT HC HD
      obtain ⟨kd, ad, F2, F3, f2, f3, p2, p3, hT, hC, hD, hsm⟩ := hcut
      have HT := Lib.hid hT
      have HC := Lib.hid hC
      have HD := Lib.hid hD
      have HSM := Lib.hid hsm
      clear hT hC hD hsm hq4
      go_upto_region 17 with (fail)
      go_cut [11] (fun v wx => v = .bool (hd ka aa l2 l3 kb ab m2 m3) ∧ Below wc.heap.size wc wx)
      case first =>
        obtain ⟨a0, a1, a2, a3⟩ := ev_cells HT.out.a
        obtain ⟨b0, b1, b2, b3⟩ := ev_cells HT.out.b
        have s1 := Kd.C_string (P := Try.prog) (A := A3) (c := c3) Try.underlying38 Try.underlying5 Try.underlying9 (Kd.C_below HA3.out HT.out.bel)
        have s2 := Kd.C_string (P := Try.prog) (A := B3) (c := d3) Try.underlying38 Try.underlying5 Try.underlying9 (Kd.C_below HB3.out HT.out.bel)
        by_cases h1 : ka = kb
        · have g1 : (ka == kb) = true := by simp [h1]
          have g1' : decide (ka = kb) = true := by simp [h1]
          clear h1
          by_cases h2 : aa = ab
          · have g2 : (aa == ab) = true := by simp [h2]
            have g2' : decide (aa = ab) = true := by simp [h2]
            clear h2
            by_cases h4 : ((strOfNums l3).toList == (strOfNums m3).toList) = true
            · by_cases h3 : l2.length = m2.length
              · have g3 : ((l2.length : Int) == (m2.length : Int)) = true := by simp [h3]
                have g3' : decide (l2.length = m2.length) = true := by simp [h3]
                clear h3
                go_wp2_with fail
                go_meet
                case rel => exact ⟨by simp [hd, g1', g2', g3', h4], Below.refl _ _⟩
              · have g3 : ((l2.length : Int) == (m2.length : Int)) = false := by simp; omega
                have g3' : decide (l2.length = m2.length) = false := by simp [h3]
                clear h3
                go_wp2_with fail
                go_meet
                case rel => exact ⟨by simp [hd, g1', g2', g3', h4], Below.refl _ _⟩
            · have h4' : ((strOfNums l3).toList == (strOfNums m3).toList) = false := by simpa using h4
              clear h4
              go_wp2_with fail
              go_meet
              case rel => exact ⟨by simp [hd, g1', g2', h4'], Below.refl _ _⟩
          · have g2 : (aa == ab) = false := by simp [h2]
            have g2' : decide (aa = ab) = false := by simp [h2]
            clear h2
            go_wp2_with fail
            go_meet
            case rel => exact ⟨by simp [hd, g1', g2'], Below.refl _ _⟩
        · have g1 : (ka == kb) = false := by simp [h1]
          have g1' : decide (ka = kb) = false := by simp [h1]
          clear h1
          go_wp2_with fail
          go_meet
          case rel => exact ⟨by simp [hd, g1'], Below.refl _ _⟩
      case rest =>
        obtain ⟨rfl, hbx⟩ := hcut
        have hT := HT.out.below hbx
        have hC := HC.out.below hbx
        have hD := HD.out.below hbx
        clear HT HC HD hbx
        have HT := Lib.hid hT
        have HC := Lib.hid hC
        have HD := Lib.hid hD
        clear hT hC hD
        obtain ⟨hv, hhv⟩ : ∃ hv, hd ka aa l2 l3 kb ab m2 m3 = hv := ⟨_, rfl⟩
        rw [hhv]
        go_upto_block 1 with (fail)
        go_cut [11] (fun v wx => v = .bool (sm ka aa l2 l3 kb ab m2 m3) ∧ Below wc.heap.size wc wx)
        case first =>
          go_wp2_with fail
          go_loopw [11, 12] (fun v i wr => ∃ (j : Nat) (sj : Bool), j ≤ l2.length ∧ i = .int .i64 j ∧ v = .bool sj ∧ Below wc.heap.size wc wr ∧ ((hv = true ∧ pre l2 m2 j = true ∧ sj = true) ∨ (sj = false ∧ sm ka aa l2 l3 kb ab m2 m3 = false))) (fun _ i _ => l2.length - (intOf i).toNat)
          case atStart =>
            refine ⟨0, hv, Nat.zero_le _, rfl, rfl, Below.refl _ _, ?_⟩
            cases hv with
            | true => exact .inl ⟨rfl, rfl, rfl⟩
            | false => exact .inr ⟨rfl, by simp [sm, hhv]⟩
          case round =>
            obtain ⟨j, sj, hj, rfl, rfl, hb, hs⟩ := hrel
            have hT := HT.out.below hb
            obtain ⟨a0, a1, a2, a3⟩ := ev_cells hT.a
            obtain ⟨b0, b1, b2, b3⟩ := ev_cells hT.b
            have HB := Lib.hid hb
            have HT1 := Lib.hid hT
            clear hb hT
            rcases hs with ⟨rfl, hp, rfl⟩ | ⟨rfl, hsmf⟩
            · have hlen : l2.length = m2.length := by
                have h := hhv
                simp only [hd, Bool.and_eq_true, decide_eq_true_eq] at h
                exact h.2.2.1
              by_cases hj2 : j < l2.length
              · obtain ⟨adA, rfl, hcA⟩ := Kd.at_int (Kd.C_below HA2.out HT1.out.bel) j (by omega) (by omega)
                obtain ⟨adB, rfl, hcB⟩ := Kd.at_int (Kd.C_below HB2.out HT1.out.bel) j (by omega) (by omega)
                rw [Int.toNat_natCast] at hcA hcB
                have HPS := Lib.hid (pre_succ l2 m2 j)
                have j1 : (j : Int) < (l2.length : Int) := by omega
                have j2 : (j : Int) < (m2.length : Int) := by omega
                have j0 : (0 : Int) ≤ (j : Int) := by omega
                rw [hp] at HPS
                generalize rd l2 j = xa at *
                generalize rd m2 j = xb at *
                clear hp
                go_wp2_with fail
                have c0 : wr.cell? ⟨w.heap.size, 2, none⟩ = some (Value.slice (some adA) l2.length c2) ∧ wr.cell? ⟨w.heap.size + 1, 2, none⟩ = some (Value.slice (some adB) m2.length d2) ∧ wr.cell? (adA.add j) = some (Value.int .u64 xa) ∧ wr.cell? (adB.add j) = some (Value.int .u64 xb) := ⟨a2, b2, hcA, hcB⟩
                go_region_held3 (fun w' => w'.cell? ⟨w.heap.size, 2, none⟩ = some (Value.slice (some adA) l2.length c2) ∧ w'.cell? ⟨w.heap.size + 1, 2, none⟩ = some (Value.slice (some adB) m2.length d2) ∧ w'.cell? (adA.add j) = some (Value.int .u64 xa) ∧ w'.cell? (adB.add j) = some (Value.int .u64 xb)) (first | go_keep | exact keep4 (by assumption) (by assumption)) (fail)
                have hbd : Below wr.heap.size wr wr.drew := below_drew (Below.refl _ _)
                generalize wr.drew = w9 at *
                have HB9 := Lib.hid (below_step HB.out hbd)
                clear hbd c0
                by_cases hx : xa = xb
                · have hx1 : (xa == xb) = true := by simp [hx]
                  have hp1 : pre l2 m2 (j + 1) = true := by rw [HPS.out]; simp [hx]
                  have HP1 := Lib.hid hp1
                  clear hp1 hx
                  go_wp2_with fail
                  go_roundw
                  case rel => exact ⟨j + 1, (xa == xb), by omega, by go_num, rfl, HB9.out, .inl ⟨by simp, HP1.out, hx1⟩⟩
                  case measure => simp [intOf]; omega
                · have hx1 : (xa == xb) = false := by simp [hx]
                  have hp1 : pre l2 m2 (j + 1) = false := by rw [HPS.out]; simp [hx]
                  have hsf : sm ka aa l2 l3 kb ab m2 m3 = false := by
                    have : pre l2 m2 l2.length = false := by
                      cases hq : pre l2 m2 l2.length with
                      | false => rfl
                      | true =>
                        have := pre_mono l2 m2 (j := j + 1) hq (by omega)
                        rw [hp1] at this
                        cases this
                    simp [sm, this]
                  have HSF := Lib.hid hsf
                  clear hp1 hx hsf
                  go_wp2_with fail
                  go_roundw
                  case rel => exact ⟨j + 1, (xa == xb), by omega, by go_num, rfl, HB9.out, .inr ⟨hx1, HSF.out⟩⟩
                  case measure => simp [intOf]; omega
              · have hje : j = l2.length := by omega
                subst hje
                have hst : sm ka aa l2 l3 kb ab m2 m3 = true := by simp [sm, hhv, hp]
                have HST := Lib.hid hst
                clear hp hst
                go_wp2_with fail
                go_meet
                case rel => exact ⟨by rw [HST.out], HB.out⟩
            · have HSF := Lib.hid hsmf
              clear hsmf
              go_wp2_with fail
              go_meet
              case rel => exact ⟨by rw [HSF.out], HB.out⟩
        case rest =>
          obtain ⟨rfl, hbx⟩ := hcut
          have hT := HT.out.below hbx
          have hC := HC.out.below hbx
          have hD := HD.out.below hbx
          clear HT HC HD hbx
          have HT := Lib.hid hT
          have HC := Lib.hid hC
          have HD := Lib.hid hD
          clear hT hC hD
          obtain ⟨a0, a1, a2, a3⟩ := ev_cells HT.out.a
          obtain ⟨vn, hvn⟩ : ∃ vn, nu l2 i = vn := ⟨_, rfl⟩
          have HN := Lib.hid hvn
          by_cases hi0 : 0 ≤ i
          · by_cases hi : i < (l2.length : Int)
            · obtain ⟨adA, rfl, hcA⟩ := Kd.at_int (Kd.C_below HA2.out HT.out.bel) i hi0 (by omega)
              have hv : rd l2 i = vn := by rw [← hvn]; unfold nu; rw [if_pos ⟨hi0, hi⟩]
              rw [hv] at hcA
              have hl0 : 0 < l2.length := by omega
              clear hvn hv
              go_upto_region 25 with (fail)
              clear a0 a1 a2 a3
              obtain ⟨r, o, cap, hC2, _⟩ := Kd.Q_form HC.out.q2 hl0
              obtain rfl : C2 = some ⟨r, o, none⟩ := by injection hC2
              clear hC2
              obtain ⟨hown, hbr, hcell, hfr⟩ := HC.out.first hl0 (IntKind.u64.wrap (rd l2 0 + 1))
              obtain ⟨x0, x1, x2, x3⟩ := ev_cells HC.out.blk
              have hr0 : 0 ≤ rd l2 0 ∧ rd l2 0 ≤ 18446744073709551615 := by
                unfold rd
                rw [List.getD_eq_getElem?_getD, List.getElem?_eq_getElem (by simpa using hl0)]
                exact HR2.out _ (List.getElem_mem _)
              have hsf : sm ka aa l2 l3 ka aa (l2.set 0 (IntKind.u64.wrap (rd l2 0 + 1))) l3 = false := by
                refine sm_first hl0 ?_
                have : rd (l2.set 0 (IntKind.u64.wrap (rd l2 0 + 1))) 0 = IntKind.u64.wrap (rd l2 0 + 1) := by
                  rw [show rd (l2.set 0 (IntKind.u64.wrap (rd l2 0 + 1))) 0 = (l2.set 0 (IntKind.u64.wrap (rd l2 0 + 1))).getD 0 0 from rfl, List.getD_eq_getElem?_getD, List.getElem?_set_self hl0]
                  rfl
                rw [this, IntKind.wrap_u64]
                omega
              have hrb : r < bd := HS.out.2.1 r rfl
              have hT10 := HT.out.far ((Below.refl w3.heap.size wc).setCell (p := ⟨r, o, none⟩) hbr (.int .u64 (IntKind.u64.wrap (rd l2 0 + 1)))) hold3
              have hD10 := HD.out.above (p := ⟨r, o, none⟩) hrb (.int .u64 (IntKind.u64.wrap (rd l2 0 + 1)))
              have l0 : (0 : Int) < (l2.length : Int) := by omega
              generalize hx : IntKind.u64.wrap (rd l2 0 + 1) = xv at *
              generalize rd l2 0 = xo at *
              go_upto_region 27 with (fail)
              clear x0 x1 x2 x3 hcell hfr
              generalize wc.setCell ⟨r, o, none⟩ (.int .u64 xv) = w10 at *
              clear HT HC HD
              obtain ⟨a0, a1, a2, a3⟩ := ev_cells hT10.a
              obtain ⟨x0, x1, x2, x3⟩ := ev_cells hown.blk
              have HSF := Lib.hid hsf
              have HT := Lib.hid hT10
              have HC := Lib.hid hown
              have HD := Lib.hid hD10
              clear hsf hT10 hown hD10
              rw [List.length_set] at x2
              go_wp2_with fail
              have q1 := same_calls ka aa _ A3 c2 c3 l2 l3 ka aa (some ⟨r, o, none⟩) C3 e2 e3 (l2.set 0 xv) l3 _ (by omega) (Kd.C_below HA2.out HT.out.bel) hc2 (Kd.C_below HA3.out HT.out.bel) hc3 (Kd.Q_reads' HC.out.q2).2.2 (by rw [List.length_set]; exact he2) (Kd.Q_reads' HC.out.q3).2.2 he3
              rw [HSF.out, List.length_set] at q1
              refine q1.mono ?_
              clear q1
              rintro e w14 ⟨rfl, hb14⟩
              have hT := HT.out.below hb14
              have hD := HD.out.below hb14
              clear HT HC HD a0 a1 a2 a3 x0 x1 x2 x3 hb14
              have HT := Lib.hid hT
              have HD := Lib.hid hD
              clear hT hD
              obtain ⟨a0, a1, a2, a3⟩ := ev_cells HT.out.a
              obtain ⟨b0, b1, b2, b3⟩ := ev_cells HT.out.b
              obtain ⟨y0, y1, y2, y3⟩ := ev_cells HD.out.blk
              go_wp2_with fail
              have q1 := same_calls ka aa _ A3 c2 c3 l2 l3 kd ad F2 F3 f2 f3 p2 p3 _ (by omega) (Kd.C_below HA2.out HT.out.bel) hc2 (Kd.C_below HA3.out HT.out.bel) hc3 (Kd.Q_reads' HD.out.q2).2.2 (Kd.Q_reads' HD.out.q2).2.1 (Kd.Q_reads' HD.out.q3).2.2 (Kd.Q_reads' HD.out.q3).2.1
              rw [HSM.out] at q1
              refine q1.mono ?_
              clear q1
              rintro e w11 ⟨rfl, hb11⟩
              have hT := HT.out.below hb11
              clear HT HD a0 a1 a2 a3 b0 b1 b2 b3 y0 y1 y2 y3 hb11
              obtain ⟨a0, a1, a2, a3⟩ := ev_cells hT.a
              obtain ⟨b0, b1, b2, b3⟩ := ev_cells hT.b
              have HT := Lib.hid hT
              clear hT
              go_wp2_with fail
              refine (same_calls ka aa _ A3 c2 c3 l2 l3 kb ab B2 B3 d2 d3 m2 m3 _ (by omega) (Kd.C_below HA2.out HT.out.bel) hc2 (Kd.C_below HA3.out HT.out.bel) hc3 (Kd.C_below HB2.out HT.out.bel) hd2 (Kd.C_below HB3.out HT.out.bel) hd3).mono ?_
              rintro e w12 ⟨rfl, hb12⟩
              have hT := HT.out.below hb12
              clear HT a0 a1 a2 a3 b0 b1 b2 b3 hb12
              obtain ⟨a0, a1, a2, a3⟩ := ev_cells hT.a
              have HT := Lib.hid hT
              clear hT
              go_wp2_with fail
              have q1 := num_calls ka aa _ A3 c2 c3 l2 l3 i _ (Kd.C_below HA2.out HT.out.bel) hc2 (Kd.C_below HA3.out HT.out.bel) hc3
              rw [HN.out] at q1
              refine q1.mono ?_
              clear q1
              rintro e w13 ⟨rfl, hb13⟩
              have HE := Lib.hid (below_step HT.out.bel hb13)
              clear hb13
              go_wp2_with fail
              go_ret
              exact ⟨rfl, HE.out⟩
            · have hv : vn = 0 := by rw [← hvn]; unfold nu; rw [if_neg (fun h => hi h.2)]
              subst hv
              have hi' : decide (i < (l2.length : Int)) = false := decide_eq_false hi
              clear hvn hi
              obtain ⟨x0, x1, x2, x3⟩ := ev_cells HC.out.blk
              by_cases hl0 : 0 < l2.length
              · go_upto_region 25 with (fail)
                clear a0 a1 a2 a3 x0 x1 x2 x3
                obtain ⟨r, o, cap, hC2, _⟩ := Kd.Q_form HC.out.q2 hl0
                obtain rfl : C2 = some ⟨r, o, none⟩ := by injection hC2
                clear hC2
                obtain ⟨hown, hbr, hcell, hfr⟩ := HC.out.first hl0 (IntKind.u64.wrap (rd l2 0 + 1))
                obtain ⟨x0, x1, x2, x3⟩ := ev_cells HC.out.blk
                have hr0 : 0 ≤ rd l2 0 ∧ rd l2 0 ≤ 18446744073709551615 := by
                  unfold rd
                  rw [List.getD_eq_getElem?_getD, List.getElem?_eq_getElem (by simpa using hl0)]
                  exact HR2.out _ (List.getElem_mem _)
                have hsf : sm ka aa l2 l3 ka aa (l2.set 0 (IntKind.u64.wrap (rd l2 0 + 1))) l3 = false := by
                  refine sm_first hl0 ?_
                  have : rd (l2.set 0 (IntKind.u64.wrap (rd l2 0 + 1))) 0 = IntKind.u64.wrap (rd l2 0 + 1) := by
                    rw [show rd (l2.set 0 (IntKind.u64.wrap (rd l2 0 + 1))) 0 = (l2.set 0 (IntKind.u64.wrap (rd l2 0 + 1))).getD 0 0 from rfl, List.getD_eq_getElem?_getD, List.getElem?_set_self hl0]
                    rfl
                  rw [this, IntKind.wrap_u64]
                  omega
                have hrb : r < bd := HS.out.2.1 r rfl
                have hT10 := HT.out.far ((Below.refl w3.heap.size wc).setCell (p := ⟨r, o, none⟩) hbr (.int .u64 (IntKind.u64.wrap (rd l2 0 + 1)))) hold3
                have hD10 := HD.out.above (p := ⟨r, o, none⟩) hrb (.int .u64 (IntKind.u64.wrap (rd l2 0 + 1)))
                have l0 : (0 : Int) < (l2.length : Int) := by omega
                generalize hx : IntKind.u64.wrap (rd l2 0 + 1) = xv at *
                generalize rd l2 0 = xo at *
                go_upto_region 27 with (fail)
                clear x0 x1 x2 x3 hcell hfr
                generalize wc.setCell ⟨r, o, none⟩ (.int .u64 xv) = w10 at *
                clear HT HC HD
                obtain ⟨a0, a1, a2, a3⟩ := ev_cells hT10.a
                obtain ⟨x0, x1, x2, x3⟩ := ev_cells hown.blk
                have HSF := Lib.hid hsf
                have HT := Lib.hid hT10
                have HC := Lib.hid hown
                have HD := Lib.hid hD10
                clear hsf hT10 hown hD10
                rw [List.length_set] at x2
                go_wp2_with fail
                have q1 := same_calls ka aa _ A3 c2 c3 l2 l3 ka aa (some ⟨r, o, none⟩) C3 e2 e3 (l2.set 0 xv) l3 _ (by omega) (Kd.C_below HA2.out HT.out.bel) hc2 (Kd.C_below HA3.out HT.out.bel) hc3 (Kd.Q_reads' HC.out.q2).2.2 (by rw [List.length_set]; exact he2) (Kd.Q_reads' HC.out.q3).2.2 he3
                rw [HSF.out, List.length_set] at q1
                refine q1.mono ?_
                clear q1
                rintro e w14 ⟨rfl, hb14⟩
                have hT := HT.out.below hb14
                have hD := HD.out.below hb14
                clear HT HC HD a0 a1 a2 a3 x0 x1 x2 x3 hb14
                have HT := Lib.hid hT
                have HD := Lib.hid hD
                clear hT hD
                obtain ⟨a0, a1, a2, a3⟩ := ev_cells HT.out.a
                obtain ⟨b0, b1, b2, b3⟩ := ev_cells HT.out.b
                obtain ⟨y0, y1, y2, y3⟩ := ev_cells HD.out.blk
                go_wp2_with fail
                have q1 := same_calls ka aa A2 A3 c2 c3 l2 l3 kd ad F2 F3 f2 f3 p2 p3 _ (by omega) (Kd.C_below HA2.out HT.out.bel) hc2 (Kd.C_below HA3.out HT.out.bel) hc3 (Kd.Q_reads' HD.out.q2).2.2 (Kd.Q_reads' HD.out.q2).2.1 (Kd.Q_reads' HD.out.q3).2.2 (Kd.Q_reads' HD.out.q3).2.1
                rw [HSM.out] at q1
                refine q1.mono ?_
                clear q1
                rintro e w11 ⟨rfl, hb11⟩
                have hT := HT.out.below hb11
                clear HT HD a0 a1 a2 a3 b0 b1 b2 b3 y0 y1 y2 y3 hb11
                obtain ⟨a0, a1, a2, a3⟩ := ev_cells hT.a
                obtain ⟨b0, b1, b2, b3⟩ := ev_cells hT.b
                have HT := Lib.hid hT
                clear hT
                go_wp2_with fail
                refine (same_calls ka aa A2 A3 c2 c3 l2 l3 kb ab B2 B3 d2 d3 m2 m3 _ (by omega) (Kd.C_below HA2.out HT.out.bel) hc2 (Kd.C_below HA3.out HT.out.bel) hc3 (Kd.C_below HB2.out HT.out.bel) hd2 (Kd.C_below HB3.out HT.out.bel) hd3).mono ?_
                rintro e w12 ⟨rfl, hb12⟩
                have hT := HT.out.below hb12
                clear HT a0 a1 a2 a3 b0 b1 b2 b3 hb12
                obtain ⟨a0, a1, a2, a3⟩ := ev_cells hT.a
                have HT := Lib.hid hT
                clear hT
                go_wp2_with fail
                have q1 := num_calls ka aa A2 A3 c2 c3 l2 l3 i _ (Kd.C_below HA2.out HT.out.bel) hc2 (Kd.C_below HA3.out HT.out.bel) hc3
                rw [HN.out] at q1
                refine q1.mono ?_
                clear q1
                rintro e w13 ⟨rfl, hb13⟩
                have HE := Lib.hid (below_step HT.out.bel hb13)
                clear hb13
                go_wp2_with fail
                go_ret
                exact ⟨rfl, HE.out⟩
              · have l0 : decide ((0 : Int) < (l2.length : Int)) = false := decide_eq_false (by omega)
                go_upto_region 29 with (fail)
                clear a0 a1 a2 a3 x0 x1 x2 x3
                obtain ⟨a0, a1, a2, a3⟩ := ev_cells HT.out.a
                obtain ⟨b0, b1, b2, b3⟩ := ev_cells HT.out.b
                obtain ⟨y0, y1, y2, y3⟩ := ev_cells HD.out.blk
                go_wp2_with fail
                have q1 := same_calls ka aa A2 A3 c2 c3 l2 l3 kd ad F2 F3 f2 f3 p2 p3 _ (by omega) (Kd.C_below HA2.out HT.out.bel) hc2 (Kd.C_below HA3.out HT.out.bel) hc3 (Kd.Q_reads' HD.out.q2).2.2 (Kd.Q_reads' HD.out.q2).2.1 (Kd.Q_reads' HD.out.q3).2.2 (Kd.Q_reads' HD.out.q3).2.1
                rw [HSM.out] at q1
                refine q1.mono ?_
                clear q1
                rintro e w11 ⟨rfl, hb11⟩
                have hT := HT.out.below hb11
                clear HT HD a0 a1 a2 a3 b0 b1 b2 b3 y0 y1 y2 y3 hb11
                obtain ⟨a0, a1, a2, a3⟩ := ev_cells hT.a
                obtain ⟨b0, b1, b2, b3⟩ := ev_cells hT.b
                have HT := Lib.hid hT
                clear hT
                go_wp2_with fail
                refine (same_calls ka aa A2 A3 c2 c3 l2 l3 kb ab B2 B3 d2 d3 m2 m3 _ (by omega) (Kd.C_below HA2.out HT.out.bel) hc2 (Kd.C_below HA3.out HT.out.bel) hc3 (Kd.C_below HB2.out HT.out.bel) hd2 (Kd.C_below HB3.out HT.out.bel) hd3).mono ?_
                rintro e w12 ⟨rfl, hb12⟩
                have hT := HT.out.below hb12
                clear HT a0 a1 a2 a3 b0 b1 b2 b3 hb12
                obtain ⟨a0, a1, a2, a3⟩ := ev_cells hT.a
                have HT := Lib.hid hT
                clear hT
                go_wp2_with fail
                have q1 := num_calls ka aa A2 A3 c2 c3 l2 l3 i _ (Kd.C_below HA2.out HT.out.bel) hc2 (Kd.C_below HA3.out HT.out.bel) hc3
                rw [HN.out] at q1
                refine q1.mono ?_
                clear q1
                rintro e w13 ⟨rfl, hb13⟩
                have HE := Lib.hid (below_step HT.out.bel hb13)
                clear hb13
                go_wp2_with fail
                go_ret
                exact ⟨rfl, HE.out⟩
          · have hv : vn = 0 := by rw [← hvn]; unfold nu; rw [if_neg (fun h => hi0 h.1)]
            subst hv
            have hi' : decide (i ≥ 0) = false := decide_eq_false hi0
            clear hvn hi0
            obtain ⟨x0, x1, x2, x3⟩ := ev_cells HC.out.blk
            by_cases hl0 : 0 < l2.length
            · go_upto_region 25 with (fail)
              clear a0 a1 a2 a3 x0 x1 x2 x3
              obtain ⟨r, o, cap, hC2, _⟩ := Kd.Q_form HC.out.q2 hl0
              obtain rfl : C2 = some ⟨r, o, none⟩ := by injection hC2
              clear hC2
              obtain ⟨hown, hbr, hcell, hfr⟩ := HC.out.first hl0 (IntKind.u64.wrap (rd l2 0 + 1))
              obtain ⟨x0, x1, x2, x3⟩ := ev_cells HC.out.blk
              have hr0 : 0 ≤ rd l2 0 ∧ rd l2 0 ≤ 18446744073709551615 := by
                unfold rd
                rw [List.getD_eq_getElem?_getD, List.getElem?_eq_getElem (by simpa using hl0)]
                exact HR2.out _ (List.getElem_mem _)
              have hsf : sm ka aa l2 l3 ka aa (l2.set 0 (IntKind.u64.wrap (rd l2 0 + 1))) l3 = false := by
                refine sm_first hl0 ?_
                have : rd (l2.set 0 (IntKind.u64.wrap (rd l2 0 + 1))) 0 = IntKind.u64.wrap (rd l2 0 + 1) := by
                  rw [show rd (l2.set 0 (IntKind.u64.wrap (rd l2 0 + 1))) 0 = (l2.set 0 (IntKind.u64.wrap (rd l2 0 + 1))).getD 0 0 from rfl, List.getD_eq_getElem?_getD, List.getElem?_set_self hl0]
                  rfl
                rw [this, IntKind.wrap_u64]
                omega
              have hrb : r < bd := HS.out.2.1 r rfl
              have hT10 := HT.out.far ((Below.refl w3.heap.size wc).setCell (p := ⟨r, o, none⟩) hbr (.int .u64 (IntKind.u64.wrap (rd l2 0 + 1)))) hold3
              have hD10 := HD.out.above (p := ⟨r, o, none⟩) hrb (.int .u64 (IntKind.u64.wrap (rd l2 0 + 1)))
              have l0 : (0 : Int) < (l2.length : Int) := by omega
              generalize hx : IntKind.u64.wrap (rd l2 0 + 1) = xv at *
              generalize rd l2 0 = xo at *
              go_upto_region 27 with (fail)
              clear x0 x1 x2 x3 hcell hfr
              generalize wc.setCell ⟨r, o, none⟩ (.int .u64 xv) = w10 at *
              clear HT HC HD
              obtain ⟨a0, a1, a2, a3⟩ := ev_cells hT10.a
              obtain ⟨x0, x1, x2, x3⟩ := ev_cells hown.blk
              have HSF := Lib.hid hsf
              have HT := Lib.hid hT10
              have HC := Lib.hid hown
              have HD := Lib.hid hD10
              clear hsf hT10 hown hD10
              rw [List.length_set] at x2
              go_wp2_with fail
              have q1 := same_calls ka aa _ A3 c2 c3 l2 l3 ka aa (some ⟨r, o, none⟩) C3 e2 e3 (l2.set 0 xv) l3 _ (by omega) (Kd.C_below HA2.out HT.out.bel) hc2 (Kd.C_below HA3.out HT.out.bel) hc3 (Kd.Q_reads' HC.out.q2).2.2 (by rw [List.length_set]; exact he2) (Kd.Q_reads' HC.out.q3).2.2 he3
              rw [HSF.out, List.length_set] at q1
              refine q1.mono ?_
              clear q1
              rintro e w14 ⟨rfl, hb14⟩
              have hT := HT.out.below hb14
              have hD := HD.out.below hb14
              clear HT HC HD a0 a1 a2 a3 x0 x1 x2 x3 hb14
              have HT := Lib.hid hT
              have HD := Lib.hid hD
              clear hT hD
              obtain ⟨a0, a1, a2, a3⟩ := ev_cells HT.out.a
              obtain ⟨b0, b1, b2, b3⟩ := ev_cells HT.out.b
              obtain ⟨y0, y1, y2, y3⟩ := ev_cells HD.out.blk
              go_wp2_with fail
              have q1 := same_calls ka aa A2 A3 c2 c3 l2 l3 kd ad F2 F3 f2 f3 p2 p3 _ (by omega) (Kd.C_below HA2.out HT.out.bel) hc2 (Kd.C_below HA3.out HT.out.bel) hc3 (Kd.Q_reads' HD.out.q2).2.2 (Kd.Q_reads' HD.out.q2).2.1 (Kd.Q_reads' HD.out.q3).2.2 (Kd.Q_reads' HD.out.q3).2.1
              rw [HSM.out] at q1
              refine q1.mono ?_
              clear q1
              rintro e w11 ⟨rfl, hb11⟩
              have hT := HT.out.below hb11
              clear HT HD a0 a1 a2 a3 b0 b1 b2 b3 y0 y1 y2 y3 hb11
              obtain ⟨a0, a1, a2, a3⟩ := ev_cells hT.a
              obtain ⟨b0, b1, b2, b3⟩ := ev_cells hT.b
              have HT := Lib.hid hT
              clear hT
              go_wp2_with fail
              refine (same_calls ka aa A2 A3 c2 c3 l2 l3 kb ab B2 B3 d2 d3 m2 m3 _ (by omega) (Kd.C_below HA2.out HT.out.bel) hc2 (Kd.C_below HA3.out HT.out.bel) hc3 (Kd.C_below HB2.out HT.out.bel) hd2 (Kd.C_below HB3.out HT.out.bel) hd3).mono ?_
              rintro e w12 ⟨rfl, hb12⟩
              have hT := HT.out.below hb12
              clear HT a0 a1 a2 a3 b0 b1 b2 b3 hb12
              obtain ⟨a0, a1, a2, a3⟩ := ev_cells hT.a
              have HT := Lib.hid hT
              clear hT
              go_wp2_with fail
              have q1 := num_calls ka aa A2 A3 c2 c3 l2 l3 i _ (Kd.C_below HA2.out HT.out.bel) hc2 (Kd.C_below HA3.out HT.out.bel) hc3
              rw [HN.out] at q1
              refine q1.mono ?_
              clear q1
              rintro e w13 ⟨rfl, hb13⟩
              have HE := Lib.hid (below_step HT.out.bel hb13)
              clear hb13
              go_wp2_with fail
              go_ret
              exact ⟨rfl, HE.out⟩
            · have l0 : decide ((0 : Int) < (l2.length : Int)) = false := decide_eq_false (by omega)
              go_upto_region 29 with (fail)
              clear a0 a1 a2 a3 x0 x1 x2 x3
              obtain ⟨a0, a1, a2, a3⟩ := ev_cells HT.out.a
              obtain ⟨b0, b1, b2, b3⟩ := ev_cells HT.out.b
              obtain ⟨y0, y1, y2, y3⟩ := ev_cells HD.out.blk
              go_wp2_with fail
              have q1 := same_calls ka aa A2 A3 c2 c3 l2 l3 kd ad F2 F3 f2 f3 p2 p3 _ (by omega) (Kd.C_below HA2.out HT.out.bel) hc2 (Kd.C_below HA3.out HT.out.bel) hc3 (Kd.Q_reads' HD.out.q2).2.2 (Kd.Q_reads' HD.out.q2).2.1 (Kd.Q_reads' HD.out.q3).2.2 (Kd.Q_reads' HD.out.q3).2.1
              rw [HSM.out] at q1
              refine q1.mono ?_
              clear q1
              rintro e w11 ⟨rfl, hb11⟩
              have hT := HT.out.below hb11
              clear HT HD a0 a1 a2 a3 b0 b1 b2 b3 y0 y1 y2 y3 hb11
              obtain ⟨a0, a1, a2, a3⟩ := ev_cells hT.a
              obtain ⟨b0, b1, b2, b3⟩ := ev_cells hT.b
              have HT := Lib.hid hT
              clear hT
              go_wp2_with fail
              refine (same_calls ka aa A2 A3 c2 c3 l2 l3 kb ab B2 B3 d2 d3 m2 m3 _ (by omega) (Kd.C_below HA2.out HT.out.bel) hc2 (Kd.C_below HA3.out HT.out.bel) hc3 (Kd.C_below HB2.out HT.out.bel) hd2 (Kd.C_below HB3.out HT.out.bel) hd3).mono ?_
              rintro e w12 ⟨rfl, hb12⟩
              have hT := HT.out.below hb12
              clear HT a0 a1 a2 a3 b0 b1 b2 b3 hb12
              obtain ⟨a0, a1, a2, a3⟩ := ev_cells hT.a
              have HT := Lib.hid hT
              clear hT
              go_wp2_with fail
              have q1 := num_calls ka aa A2 A3 c2 c3 l2 l3 i _ (Kd.C_below HA2.out HT.out.bel) hc2 (Kd.C_below HA3.out HT.out.bel) hc3
              rw [HN.out] at q1
              refine q1.mono ?_
              clear q1
              rintro e w13 ⟨rfl, hb13⟩
              have HE := Lib.hid (below_step HT.out.bel hb13)
              clear hb13
              go_wp2_with fail
              go_ret
              exact ⟨rfl, HE.out⟩
end Go.Proofs.Ytclmnpdabnogkaa.SameWalk
