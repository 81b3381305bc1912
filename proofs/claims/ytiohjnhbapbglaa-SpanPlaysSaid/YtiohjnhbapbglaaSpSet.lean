/- A set as it lies in memory; New, Add, Len. Conditions: no row is long. -/
import Derived.Test.YtiohjnhbapbglaaSpPure
import Derived.Lib.Hide
import Derived.WalkKit
import Derived.OpenShut
import Derived.SizedLaws
import Derived.Deep.RegionHeld3
import Derived.Deep.DeepMust
import Derived.Deep.QuietTactic
import Derived.Deep.RegionLaw
import Derived.OwnWalk
import Derived.Lib.SliceRun
namespace Go.Proofs.Ytiohjnhbapbglaa.SpSet
open Go.RowKit Go.Proofs.Ytiohjnhbapbglaa.PSpanPlays Go.Proofs.Ytiohjnhbapbglaa.SpPure Go.Proofs.YtiohjnhbapbglaaW.PrintWords Go.Proofs.YtiohjnhbapbglaaW.PrintLast Go.Proofs.YtiohjnhbapbglaaW.PrintMore

def SB (A : Option Addr) (n c : Nat) (lim : Int) : Obj := .cells #[.slice A n c, .int .i64 lim] 98
def RG (x : S28) : Obj := .cells #[.int .u64 x.f0, .int .u64 x.f1] 28
theorem t28 : ∀ q, q ∈ 28 :: k28.E → q ≠ 98 := by decide
/-- A set, and its row. -/
structure St (w : World) (base g : Nat) (A : Option Addr) (c : Nat) (l : List S28) (lim : Int) : Prop where
  blk : w.heap[g]? = some (SB A l.length c lim)
  q : k28.Q 28 w base (fun _ => True) (.slice A l.length c) l
  old : base ≤ g
theorem sb_cells {w : World} {g : Nat} {A : Option Addr} {n c : Nat} {lim : Int} (h : w.heap[g]? = some (SB A n c lim)) : w.cell? ⟨g, 0, none⟩ = some (.slice A n c) ∧ w.cell? ⟨g, 1, none⟩ = some (.int .i64 lim) := ⟨blk_cell h 0, blk_cell h 1⟩
theorem rg_cells {w : World} {g : Nat} {x : S28} (h : w.heap[g]? = some (RG x)) : w.cell? ⟨g, 0, none⟩ = some (.int .u64 x.f0) ∧ w.cell? ⟨g, 1, none⟩ = some (.int .u64 x.f1) := ⟨blk_cell h 0, blk_cell h 1⟩
section
variable {w wn : World} {base g : Nat} {A : Option Addr} {c : Nat} {l : List S28} {lim : Int}
theorem St.below (h : St w base g A c l lim) (hb : Below w.heap.size w wn) : St wn base g A c l lim := ⟨blk_below h.blk hb, Kd.Q_below h.q hb, h.old⟩
theorem St.row (h : St w base g A c l lim) {B : Option Addr} {d : Nat} {m : List S28} (hq : k28.Q 28 w base (fun _ => True) (.slice B m.length d) m) : St (w.setCell ⟨g, 0, none⟩ (.slice B m.length d)) base g B d m lim := ⟨blk_put h.blk 0 _ rfl, Kd.Q_set hq h.blk t28 0 _, h.old⟩
theorem St.lt (h : St w base g A c l lim) : g < w.heap.size := blk_lt h.blk
theorem St.lower (h : St w base g A c l lim) {b : Nat} (hb : b ≤ base) : St w b g A c l lim := ⟨h.blk, Kd.Q_lower h.q hb, Nat.le_trans hb h.old⟩
end

set_option maxRecDepth 100000 in
theorem new_calls (lim : Int) (w : World) : Calls Try.prog 14 #[.int .i64 lim] w fun e w' => e = .returned (.pointer (some ⟨w.heap.size, 0, none⟩)) ∧ St w' w.heap.size w.heap.size none 0 [] (mx lim 1) ∧ Below w.heap.size w w' := by
  obtain ⟨m, hm⟩ : ∃ m, mx lim 1 = m := ⟨_, rfl⟩
  have hm2 : (if lim < 1 then 1 else lim) = m := hm
  have k1 := blk_new w (SB none 0 0 m)
  have hb := below_alloc (Below.refl w.heap.size w) (SB none 0 0 m)
  have HL := Lib.hid (show St (w.alloc (SB none 0 0 m)) w.heap.size w.heap.size none 0 [] m from ⟨k1, Kd.Q_nil _ _ _ _ _, Nat.le_refl _⟩)
  have HB := Lib.hid hb
  rw [hm]
  clear k1 hb hm
  go_enter Try.func14, Try.ntmps14
  go_wp2_with fail
  go_ret
  exact ⟨rfl, HL.out, HB.out⟩
theorem len_calls {w : World} {g : Nat} {A : Option Addr} {n c : Nat} {lim : Int} (h : w.heap[g]? = some (SB A n c lim)) : Calls Try.prog 28 #[.pointer (some ⟨g, 0, none⟩)] w fun e w' => e = .returned (.int .i64 n) ∧ w' = w := by
  obtain ⟨l0, l1⟩ := sb_cells h
  go_enter Try.func28, Try.ntmps28
  go_wp2_with fail
  go_ret
  exact ⟨rfl, rfl⟩
theorem keep4 {w w' : World} {p0 p1 p2 p3 : Addr} {x0 x1 x2 x3 : Value} (hb : Below w.heap.size w w') (h : w.cell? p0 = some x0 ∧ w.cell? p1 = some x1 ∧ w.cell? p2 = some x2 ∧ w.cell? p3 = some x3) :
    w'.cell? p0 = some x0 ∧ w'.cell? p1 = some x1 ∧ w'.cell? p2 = some x2 ∧ w'.cell? p3 = some x3 := ⟨pw_cell_below hb h.1, pw_cell_below hb h.2.1, pw_cell_below hb h.2.2.1, pw_cell_below hb h.2.2.2⟩

/-- What Add leaves. -/
def AP (w : World) (base g : Nat) (l : List S28) (lim : Int) (r : S28) (e : Ending) (w' : World) : Prop :=
  Below base w w' ∧ KeepBut w w' g none ∧
  ((r.f0 ≥ r.f1 ∧ e = .returned (.int .i64 0) ∧ ∃ B d, St w' base g B d l lim) ∨
   (r.f0 < r.f1 ∧ ((adds l false r).length : Int) > lim ∧ e = .returned (.int .i64 7) ∧ ∃ B d, St w' base g B d l lim) ∨
   (r.f0 < r.f1 ∧ ((adds l false r).length : Int) ≤ lim ∧ e = .returned (.int .i64 0) ∧ ∃ B d, St w' base g B d (adds l false r) lim))
set_option maxRecDepth 100000 in
set_option maxHeartbeats 4000000 in
theorem add_calls {w : World} {base g : Nat} {A : Option Addr} {c : Nat} {l : List S28} {lim : Int} (h : St w base g A c l lim) (hbs : base ≤ w.heap.size) (r : S28) (hl : l.length ≤ 1000) :
    Calls Try.prog 15 #[.pointer (some ⟨g, 0, none⟩), .agg #[.int .u64 r.f0, .int .u64 r.f1]] w fun e w' => AP w base g l lim r e w' := by
  have k1 := blk_new w (RG r)
  have hb1 := below_alloc (Below.refl w.heap.size w) (RG r)
  have h1 := h.below hb1
  have hlt := h.lt
  have HK := Lib.hid (KeepBut.of_below hb1 g none)
  have hs1 := hb1.size
  go_enter Try.func15, Try.ntmps15
  go_upto_region 1 with (fail)
  show Code.wp _ _ _ _ (w.alloc (RG r))
  generalize w.alloc (RG r) = w1 at *
  have hgp : g ≠ w.heap.size := by omega
  generalize hgp2 : w.heap.size = gp at *
  have HB := Lib.hid hb1
  have K1 := Lib.hid k1
  have HS := Lib.hid h1
  clear h hb1 k1 h1 hgp2
  obtain ⟨r0, r1⟩ := rg_cells K1.out
  obtain ⟨l0, l1⟩ := sb_cells HS.out.blk
  by_cases hr : r.f0 ≥ r.f1
  · have g1 : decide (r.f0 ≥ r.f1) = true := decide_eq_true hr
    have HBB := Lib.hid (HB.out.mono hbs)
    go_wp2_with fail
    go_ret
    exact ⟨HBB.out, HK.out, .inl ⟨hr, rfl, _, _, HS.out⟩⟩
  · have g1 : decide (r.f0 ≥ r.f1) = false := decide_eq_false hr
    go_upto_region 5 with (fail)
    have c0 : w1.cell? ⟨g, 0, none⟩ = some (.slice A l.length c) ∧ w1.cell? ⟨g, 1, none⟩ = some (.int .i64 lim) ∧ w1.cell? ⟨gp, 0, none⟩ = some (.int .u64 r.f0) ∧ w1.cell? ⟨gp, 1, none⟩ = some (.int .u64 r.f1) := ⟨l0, l1, r0, r1⟩
    go_region_held3 (fun w' => w'.cell? ⟨g, 0, none⟩ = some (.slice A l.length c) ∧ w'.cell? ⟨g, 1, none⟩ = some (.int .i64 lim) ∧ w'.cell? ⟨gp, 0, none⟩ = some (.int .u64 r.f0) ∧ w'.cell? ⟨gp, 1, none⟩ = some (.int .u64 r.f1)) (first | go_keep | exact keep4 (by assumption) (by assumption)) ((go_at_call 61; refine (span_added.calls (l.length + 1) A c l r.f0 r.f1 (adds l false r) _ (Kd.C_below (Kd.Q_reads' HS.out.q).2.2 (below_drew (Below.refl w1.heap.size w1))) (Kd.Q_reads' HS.out.q).2.1 (added_f l hl r)).mono ?_; rintro e wx ⟨v, rfl, hv, hbx⟩))
    obtain ⟨B, d, rfl, _⟩ := Kd.R_reads hv
    have hbw := below_step (below_drew (Below.refl w1.heap.size w1)) hbx
    have hs2 := HS.out.below hbw
    have hq2 := Kd.Q_lower (Kd.Q_of_R hv) (show base ≤ w1.drew.heap.size from Nat.le_trans hbs hs1)
    have HBB := Lib.hid ((HB.out.mono hbs).trans (hbw.mono (Nat.le_trans hbs hs1)))
    have HK2 := Lib.hid (HK.out.trans (KeepBut.of_below hbw g none) (.inl rfl))
    have HS2 := Lib.hid hs2
    have HQ2 := Lib.hid hq2
    obtain ⟨m, hm⟩ : ∃ m, (adds l false r).length = m := ⟨_, rfl⟩
    have HM := Lib.hid hm
    clear l0 l1 r0 r1 c0 HS K1 HB HK hv hbx hbw hs2 hq2
    rw [hm]
    clear hm
    obtain ⟨l0, l1⟩ := sb_cells HS2.out.blk
    by_cases hml : (m : Int) > lim
    · have g2 : decide ((m : Int) > lim) = true := decide_eq_true hml
      go_wp2_with fail
      go_ret
      exact ⟨HBB.out, HK2.out, .inr (.inl ⟨by omega, by rw [HM.out]; exact hml, rfl, _, _, HS2.out⟩)⟩
    · have g2 : decide ((m : Int) > lim) = false := decide_eq_false hml
      have u0 := blk_frozen HS2.out.blk 0
      have hs3 := HS2.out.row HQ2.out
      rw [HM.out] at hs3
      have HS3 := Lib.hid hs3
      have HB3 := Lib.hid (HBB.out.setCell (p := ⟨g, 0, none⟩) HS2.out.old (.slice B m d))
      have HK3 := Lib.hid (HK2.out.set_ 0 (.slice B m d))
      clear hs3
      go_wp2_with fail
      go_ret
      exact ⟨HB3.out, HK3.out, .inr (.inr ⟨by omega, by rw [HM.out]; omega, rfl, _, _, HS3.out⟩)⟩
end Go.Proofs.Ytiohjnhbapbglaa.SpSet
