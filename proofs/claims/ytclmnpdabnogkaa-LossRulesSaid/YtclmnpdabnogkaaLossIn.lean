/- Whether a packet's number lies in one range: the closure, IndexFunc, ContainsFunc. No condition. -/
import Derived.Test.YtclmnpdabnogkaaPLossTimesx1
import Derived.Lib.Hide
import Derived.WalkKit
import Derived.OpenShut
import Derived.SizedLaws
import Derived.Deep.RegionHeld3
import Derived.Deep.DeepMust
namespace Go.Proofs.Ytclmnpdabnogkaa.LossIn
open Go.RowKit Go.Proofs.Ytclmnpdabnogkaa.PLossTimes Go.Proofs.YtclmnpdabnogkaaW.PrintWords Go.Proofs.YtclmnpdabnogkaaW.PrintLast Go.Proofs.YtclmnpdabnogkaaW.PrintMore

set_option maxRecDepth 100000 in
set_option maxHeartbeats 2000000 in
theorem in_calls (f t n : Int) (gp : Nat) (w : World) (hp : w.cell? ⟨gp, 0, none⟩ = some (.int .u64 n)) :
    Calls Try.prog 32 #[.agg #[.int .u64 f, .int .u64 t], .pointer (some ⟨gp, 0, none⟩)] w fun e w' => e = .returned (.bool (decide (f ≤ n) && decide (n < t))) ∧ Below w.heap.size w w' := by
  have hb := below_alloc (Below.refl w.heap.size w) (.cells #[.int .u64 f, .int .u64 t] 65)
  have hp' := pw_cell_below hb hp
  have k1 := blk_new w (.cells #[.int .u64 f, .int .u64 t] 65)
  have HB := Lib.hid hb
  clear hb
  go_enter Try.func32, Try.ntmps32
  go_upto_region 1 with (fail)
  show Code.wp _ _ _ _ (w.alloc (.cells #[.int .u64 f, .int .u64 t] 65))
  generalize w.alloc (.cells #[.int .u64 f, .int .u64 t] 65) = w1 at *
  have c0 : w1.cell? ⟨w.heap.size, 0, none⟩ = some (.int .u64 f) := blk_cell k1 0
  have c1 : w1.cell? ⟨w.heap.size, 1, none⟩ = some (.int .u64 t) := blk_cell k1 1
  clear k1
  by_cases h1 : f ≤ n
  · have g1 : decide (f ≤ n) = true := decide_eq_true h1
    go_wp2_with fail
    go_ret
    exact ⟨by simp [g1], HB.out⟩
  · have g1 : decide (f ≤ n) = false := decide_eq_false h1
    go_wp2_with fail
    go_ret
    exact ⟨by simp, HB.out⟩

/-- The first place of one range in which a number lies. -/
theorem index_calls (f t n : Int) (r c gp : Nat) (w : World) (h0 : w.cell? ⟨r, 0, none⟩ = some (.int .u64 f)) (h1 : w.cell? ⟨r, 1, none⟩ = some (.int .u64 t)) (hp : w.cell? ⟨gp, 0, none⟩ = some (.int .u64 n)) :
    Calls Try.prog 34 #[.slice (some ⟨r, 0, none⟩) 1 c, .func (.func 32) #[] #[.pointer (some ⟨gp, 0, none⟩)]] w fun e w' => e = .returned (.int .i64 (if (decide (f ≤ n) && decide (n < t)) = true then 0 else -1)) ∧ Below w.heap.size w w' := by
  obtain ⟨q, hq⟩ : ∃ q, (decide (f ≤ n) && decide (n < t)) = q := ⟨_, rfl⟩
  rw [hq]
  have HQ := Lib.hid hq
  clear hq
  obtain ⟨z, hz⟩ : ∃ z : Int, (if q = true then 0 else -1) = z := ⟨_, rfl⟩
  rw [hz]
  have HZ := Lib.hid hz
  clear hz
  go_enter Try.func34, Try.ntmps34
  go_upto_region 2 with (fail)
  go_loopw [8] (fun v wr => (v = .int .i64 0 ∧ Below w.heap.size w wr) ∨ (v = .int .i64 1 ∧ Below w.heap.size w wr ∧ q = false)) (fun v _ => 1 - (intOf v).toNat)
  case atStart => exact .inl ⟨rfl, Below.refl _ _⟩
  case round =>
    rcases hrel with ⟨rfl, hb⟩ | ⟨rfl, hb, hno⟩
    · have g0 := pw_cell_below hb h0
      have g1 := pw_cell_below hb h1
      have gp' := pw_cell_below hb hp
      have HB := Lib.hid hb
      clear hb h0 h1
      go_wp2_with fail
      refine (in_calls f t n gp wr gp').mono ?_
      rintro e w2 ⟨rfl, hb2⟩
      have HB2 := Lib.hid (below_step HB.out hb2)
      clear hb2
      rw [HQ.out]
      cases q with
      | true =>
        obtain rfl : z = 0 := HZ.out.symm
        go_wp2_with fail
        go_ret
        exact ⟨rfl, HB2.out⟩
      | false =>
        go_wp2_with fail
        go_roundw
        case rel => exact .inr ⟨by go_num, HB2.out, trivial⟩
        case measure => simp [intOf]
    · have HB := Lib.hid hb
      subst hno
      obtain rfl : z = -1 := HZ.out.symm
      clear hb h0 h1
      go_wp2_with fail
      go_ret
      exact ⟨rfl, HB.out⟩
theorem contains_calls (f t n : Int) (r c gp : Nat) (w : World) (h0 : w.cell? ⟨r, 0, none⟩ = some (.int .u64 f)) (h1 : w.cell? ⟨r, 1, none⟩ = some (.int .u64 t)) (hp : w.cell? ⟨gp, 0, none⟩ = some (.int .u64 n)) :
    Calls Try.prog 31 #[.slice (some ⟨r, 0, none⟩) 1 c, .func (.func 32) #[] #[.pointer (some ⟨gp, 0, none⟩)]] w fun e w' => e = .returned (.bool (decide (f ≤ n) && decide (n < t))) ∧ Below w.heap.size w w' := by
  obtain ⟨q, hq⟩ : ∃ q, (decide (f ≤ n) && decide (n < t)) = q := ⟨_, rfl⟩
  have HI := Lib.hid (index_calls f t n r c gp w h0 h1 hp)
  rw [hq] at HI ⊢
  clear hq
  go_enter Try.func31, Try.ntmps31
  go_wp2_with fail
  refine HI.out.mono ?_
  rintro e w2 ⟨rfl, hb2⟩
  have HB := Lib.hid hb2
  clear hb2 h0 h1 hp
  cases q with
  | true =>
    have e1 : decide ((0 : Int) ≥ 0) = true := by decide
    rw [if_pos rfl]
    go_wp2_with fail
    go_ret
    exact ⟨rfl, HB.out⟩
  | false =>
    rw [if_neg (by simp)]
    go_wp2_with fail
    go_ret
    exact ⟨rfl, HB.out⟩
end Go.Proofs.Ytclmnpdabnogkaa.LossIn
