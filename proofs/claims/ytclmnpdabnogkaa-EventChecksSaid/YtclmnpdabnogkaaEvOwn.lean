/- An event in a box with rows of its own: what stays as the memory grows. No condition. -/
import Derived.Test.YtclmnpdabnogkaaEvClone
import Derived.Test.YtclmnpdabnogkaaEvSame
import Derived.Test.YtclmnpdabnogkaaEvLight
import Derived.Deep.RegionHeld3
import Derived.Deep.DeepMust
namespace Go.Proofs.Ytclmnpdabnogkaa.EvOwn
open Go.RowKit Go.Proofs.Ytclmnpdabnogkaa.PEventChecks Go.Proofs.Ytclmnpdabnogkaa.EvCalls Go.Proofs.Ytclmnpdabnogkaa.EvClone Go.Proofs.Ytclmnpdabnogkaa.EvSame Go.Proofs.Ytclmnpdabnogkaa.EvLight Go.Proofs.YtclmnpdabnogkaaW.PrintWords Go.Proofs.YtclmnpdabnogkaaW.PrintLast Go.Proofs.YtclmnpdabnogkaaW.PrintMore

/-- An event as it lies in a box. -/
def Ev (k a : Int) (A2 : Option Addr) (n2 c2 : Nat) (A3 : Option Addr) (n3 c3 : Nat) : Obj := .cells #[.int .u8 k, .int .u64 a, .slice A2 n2 c2, .slice A3 n3 c3] 40

theorem keep4 {w w' : World} {p0 p1 p2 p3 : Addr} {x0 x1 x2 x3 : Value} (hb : Below w.heap.size w w') (h : w.cell? p0 = some x0 ∧ w.cell? p1 = some x1 ∧ w.cell? p2 = some x2 ∧ w.cell? p3 = some x3) :
    w'.cell? p0 = some x0 ∧ w'.cell? p1 = some x1 ∧ w'.cell? p2 = some x2 ∧ w'.cell? p3 = some x3 := ⟨pw_cell_below hb h.1, pw_cell_below hb h.2.1, pw_cell_below hb h.2.2.1, pw_cell_below hb h.2.2.2⟩
theorem ev_cells {w : World} {g : Nat} {k a : Int} {A2 : Option Addr} {n2 c2 : Nat} {A3 : Option Addr} {n3 c3 : Nat} (h : w.heap[g]? = some (Ev k a A2 n2 c2 A3 n3 c3)) :
    w.cell? ⟨g, 0, none⟩ = some (.int .u8 k) ∧ w.cell? ⟨g, 1, none⟩ = some (.int .u64 a) ∧ w.cell? ⟨g, 2, none⟩ = some (.slice A2 n2 c2) ∧ w.cell? ⟨g, 3, none⟩ = some (.slice A3 n3 c3) :=
  ⟨blk_cell h 0, blk_cell h 1, blk_cell h 2, blk_cell h 3⟩
/-- Two boxes, both new. -/
structure Two (w0 wr : World) (OA OB : Obj) : Prop where
  a : wr.heap[w0.heap.size]? = some OA
  b : wr.heap[w0.heap.size + 1]? = some OB
  bel : Below w0.heap.size w0 wr
theorem two_new (w : World) (OA OB : Obj) : Two w ((w.alloc OA).alloc OB) OA OB :=
  ⟨blk_alloc (blk_new w _) _, by have h := blk_new (w.alloc OA) OB; rw [alloc_size] at h; exact h, below_alloc (below_alloc (Below.refl _ _) _) _⟩
theorem Two.below {w0 wr w' : World} {OA OB : Obj} (h : Two w0 wr OA OB) (hb : Below wr.heap.size wr w') : Two w0 w' OA OB := ⟨blk_below h.a hb, blk_below h.b hb, below_step h.bel hb⟩

/-- An event in a box, its rows its own, all not below base. -/
structure Own (wr : World) (base g : Nat) (k a : Int) (A2 : Option Addr) (c2 : Nat) (A3 : Option Addr) (c3 : Nat) (l2 l3 : List Int) : Prop where
  blk : wr.heap[g]? = some (Ev k a A2 l2.length c2 A3 l3.length c3)
  q2 : (Kd.int .u64).Q 36 wr base (fun _ => True) (.slice A2 l2.length c2) l2
  q3 : (Kd.int .u8).Q 5 wr base (fun _ => True) (.slice A3 l3.length c3) l3
  old : base ≤ g
theorem Own.below {wr w' : World} {base g : Nat} {k a : Int} {A2 : Option Addr} {c2 : Nat} {A3 : Option Addr} {c3 : Nat} {l2 l3 : List Int} (h : Own wr base g k a A2 c2 A3 c3 l2 l3) (hb : Below wr.heap.size wr w') : Own w' base g k a A2 c2 A3 c3 l2 l3 :=
  ⟨blk_below h.blk hb, Kd.Q_below h.q2 hb, Kd.Q_below h.q3 hb, h.old⟩
theorem own_new {wr : World} {base : Nat} {k a : Int} {A2 : Option Addr} {c2 : Nat} {A3 : Option Addr} {c3 : Nat} {l2 l3 : List Int} (hs : base ≤ wr.heap.size)
    (h2 : (Kd.int .u64).Q 36 wr base (fun _ => True) (.slice A2 l2.length c2) l2) (h3 : (Kd.int .u8).Q 5 wr base (fun _ => True) (.slice A3 l3.length c3) l3) :
    Own (wr.alloc (Ev k a A2 l2.length c2 A3 l3.length c3)) base wr.heap.size k a A2 c2 A3 c3 l2 l3 :=
  ⟨blk_new wr _, Kd.Q_alloc h2 _, Kd.Q_alloc h3 _, hs⟩

theorem Two.far {w0 wr wn : World} {OA OB : Obj} {bd : Nat} (h : Two w0 wr OA OB) (hb : Below bd wr wn) (hbd : w0.heap.size + 2 ≤ bd) : Two w0 wn OA OB :=
  ⟨(hb.block _ (by omega)).trans h.a, (hb.block _ (by omega)).trans h.b, h.bel.trans (hb.mono (by omega))⟩
theorem Own.far {wr wn : World} {bd base g : Nat} {k a : Int} {A2 : Option Addr} {c2 : Nat} {A3 : Option Addr} {c3 : Nat} {l2 l3 : List Int} (h : Own wr base g k a A2 c2 A3 c3 l2 l3)
    (hs : g < bd ∧ (∀ k, (Value.slice A2 l2.length c2).ownBlock = some k → k < bd) ∧ ∀ k, (Value.slice A3 l3.length c3).ownBlock = some k → k < bd) (hb : Below bd wr wn) : Own wn base g k a A2 c2 A3 c3 l2 l3 :=
  ⟨(hb.block _ hs.1).trans h.blk, Kd.Q_mono (Kd.Q_step (Kd.Q_tight rfl h.q2) (fun k hk _ => hb.block k (hs.2.1 k hk.symm))) (fun _ _ => trivial), Kd.Q_mono (Kd.Q_step (Kd.Q_tight rfl h.q3) (fun k hk _ => hb.block k (hs.2.2 k hk.symm))) (fun _ _ => trivial), h.old⟩
theorem t36 : ∀ q, q ∈ 36 :: (Kd.int .u64).E → q ≠ 40 := by intro q hq; simp [Kd.int, Kd.scalar] at hq; omega
theorem t5 : ∀ q, q ∈ 5 :: (Kd.int .u8).E → q ≠ 40 := by intro q hq; simp [Kd.int, Kd.scalar] at hq; omega
section
variable {wr wn : World} {base g : Nat} {k a : Int} {A2 : Option Addr} {c2 : Nat} {A3 : Option Addr} {c3 : Nat} {l2 l3 : List Int}
theorem Own.kind (h : Own wr base g k a A2 c2 A3 c3 l2 l3) (k' : Int) : Own (wr.setCell ⟨g, 0, none⟩ (.int .u8 k')) base g k' a A2 c2 A3 c3 l2 l3 :=
  ⟨blk_put h.blk 0 _ rfl, Kd.Q_set h.q2 h.blk t36 0 _, Kd.Q_set h.q3 h.blk t5 0 _, h.old⟩
theorem Own.time (h : Own wr base g k a A2 c2 A3 c3 l2 l3) (a' : Int) : Own (wr.setCell ⟨g, 1, none⟩ (.int .u64 a')) base g k a' A2 c2 A3 c3 l2 l3 :=
  ⟨blk_put h.blk 1 _ rfl, Kd.Q_set h.q2 h.blk t36 1 _, Kd.Q_set h.q3 h.blk t5 1 _, h.old⟩
theorem Own.grow2 {B2 : Option Addr} {d2 : Nat} {m2 : List Int} (h : Own wr base g k a A2 c2 A3 c3 l2 l3) (hg : wr.grownBy wn (Value.slice A2 l2.length c2).ownBlock) (hq : (Kd.int .u64).Q 36 wn base (fun _ => True) (.slice B2 m2.length d2) m2) :
    wn.heap[g]? = some (Ev k a A2 l2.length c2 A3 l3.length c3) ∧ Own (wn.setCell ⟨g, 2, none⟩ (.slice B2 m2.length d2)) base g k a B2 d2 A3 c3 m2 l3 := by
  have hb := blk_grown h.blk hg (Kd.Q_ne h.q2 h.blk (by decide))
  have h3 : (Kd.int .u8).Q 5 wn base (fun _ => True) (.slice A3 l3.length c3) l3 := by
    refine Kd.Q_grown2 h.q3 rfl hg (fun k hk => ?_)
    obtain ⟨cells, hc⟩ := Kd.Q_typed h.q2 k hk
    exact Kd.Q_ne h.q3 hc (by decide)
  exact ⟨hb, blk_put hb 2 _ rfl, Kd.Q_set hq hb t36 2 _, Kd.Q_set h3 hb t5 2 _, h.old⟩
theorem Own.grow3 {B3 : Option Addr} {d3 : Nat} {m3 : List Int} (h : Own wr base g k a A2 c2 A3 c3 l2 l3) (hg : wr.grownBy wn (Value.slice A3 l3.length c3).ownBlock) (hq : (Kd.int .u8).Q 5 wn base (fun _ => True) (.slice B3 m3.length d3) m3) :
    wn.heap[g]? = some (Ev k a A2 l2.length c2 A3 l3.length c3) ∧ Own (wn.setCell ⟨g, 3, none⟩ (.slice B3 m3.length d3)) base g k a A2 c2 B3 d3 l2 m3 := by
  have hb := blk_grown h.blk hg (Kd.Q_ne h.q3 h.blk (by decide))
  have h2 : (Kd.int .u64).Q 36 wn base (fun _ => True) (.slice A2 l2.length c2) l2 := by
    refine Kd.Q_grown2 h.q2 rfl hg (fun k hk => ?_)
    obtain ⟨cells, hc⟩ := Kd.Q_typed h.q3 k hk
    exact Kd.Q_ne h.q2 hc (by decide)
  exact ⟨hb, blk_put hb 3 _ rfl, Kd.Q_set h2 hb t36 3 _, Kd.Q_set hq hb t5 3 _, h.old⟩
theorem Own.above (h : Own wr base g k a A2 c2 A3 c3 l2 l3) {p : Addr} (hp : p.block < base) (u : Value) : Own (wr.setCell p u) base g k a A2 c2 A3 c3 l2 l3 :=
  ⟨(Below.heap_setCell wr p u g (by have := h.old; omega)).trans h.blk,
   Kd.Q_mono (Kd.Q_far (Kd.Q_bound h.q2) (fun k hk => by have := hk.2.1; omega) u) (fun _ _ => trivial),
   Kd.Q_mono (Kd.Q_far (Kd.Q_bound h.q3) (fun k hk => by have := hk.2.1; omega) u) (fun _ _ => trivial), h.old⟩
theorem Own.first {r o : Nat} (h : Own wr base g k a (some ⟨r, o, none⟩) c2 A3 c3 l2 l3) (h0 : 0 < l2.length) (x : Int) :
    Own (wr.setCell ⟨r, o, none⟩ (.int .u64 x)) base g k a (some ⟨r, o, none⟩) c2 A3 c3 (l2.set 0 x) l3 ∧ base ≤ r ∧ wr.cell? ⟨r, o, none⟩ = some (.int .u64 (rd l2 0)) ∧ wr.frozen? ⟨r, o, none⟩ = false := by
  have hq := Kd.Q_putg h.q2 0 (by omega) (by omega) x
  have hc := Kd.Q_cell 0 h.q2 0 (by omega) (by omega)
  have hb : base ≤ r := by
    obtain ⟨g', o', cap, he, hle, _⟩ := Kd.Q_form h.q2 h0
    injection he with he
    injection he with he
    injection he with he1
    omega
  have h3 : (Kd.int .u8).Q 5 (wr.setCell ⟨r, o, none⟩ (.int .u64 x)) base (fun _ => True) (.slice A3 l3.length c3) l3 := by
    refine Kd.Q_grown2 h.q3 rfl hq.2 (fun k hk => ?_)
    obtain ⟨g', o', cap, he, _, _, cells, hcl⟩ := Kd.Q_form h.q2 h0
    injection he with he
    injection he with he
    injection he with he1
    injection hk with hk
    subst hk
    rw [← he1] at hcl
    exact Kd.Q_ne h.q3 hcl (by decide)
  have hne : some g ≠ some r := by
    obtain ⟨g', o', cap, he, _, _, cells, hcl⟩ := Kd.Q_form h.q2 h0
    injection he with he
    injection he with he
    injection he with he1
    intro e
    injection e with e
    rw [← he1, ← e, h.blk] at hcl
    simp [Ev] at hcl
  refine ⟨⟨?_, ?_, h3, h.old⟩, hb, hc.1, hc.2⟩
  · have := blk_grown h.blk hq.2 hne
    simpa using this
  · rw [List.length_set]
    exact hq.1
end

end Go.Proofs.Ytclmnpdabnogkaa.EvOwn
