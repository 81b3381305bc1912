-- PRINTED BY print.sh 35421559b90ae4d0a3588c463048766b98c2df88dd9212a6774a882060cdf62d: not written by this session
import Derived.Test.YtloiihbhpmmaiaaPRttBoundsx0
namespace Go.Proofs.Ytloiihbhpmmaiaa.PRttBounds
open Go.RowKit Go.Proofs.YtloiihbhpmmaiaaW.PrintWords Go.Proofs.YtloiihbhpmmaiaaW.PrintLast Go.Proofs.YtloiihbhpmmaiaaW.PrintMore
attribute [local go_sem] max2_int min2_int max_two min_two max_three min_three max_four min_four   -- for this text's walks alone
set_option linter.unusedVariables false
set_option linter.unusedSimpArgs false

/-! ### rtt_New: function 14 -/
def rtt_New.f  : Option (Int × Int × Int × Int × Bool) := some (0, 0, 333000, 166500, false)
set_option maxHeartbeats 8000000 in
set_option maxRecDepth 100000 in
theorem rtt_New.calls  (r1 : Int) (r2 : Int) (r3 : Int) (r4 : Int) (r5 : Bool) (w : World) (h : rtt_New.f  = some (r1, r2, r3, r4, r5)) :
    Calls Try.prog 14 #[] w fun e w' => e = .returned (.agg #[.int .u64 r1, .int .u64 r2, .int .u64 r3, .int .u64 r4, .bool r5]) ∧ Below w.heap.size w w' := by
  have hu26 := Try.underlying26
  have HB := Aside0.mk (Below.refl w.heap.size w)
  have H : (some (0, 0, 333000, 166500, false)) = some (r1, r2, r3, r4, r5) := h
  clear h
  simp only [Option.some.injEq, Prod.mk.injEq] at H
  obtain ⟨rfl, rfl, rfl, rfl, rfl⟩ := H
  go_enter Try.func14, Try.ntmps14
  go_wp2_with (first | ((with_reducible refine gate_dst (N := 0) rfl ?_); refine box_event ?hg (N := 0) ?hd (cs := #[.int .u64 0, .int .u64 0, .int .u64 0, .int .u64 0, .bool false]) (t := 26) ?hr ?_; (case hd => rfl); (case hg => rfl); (case hr => first | (go_simp; done) | (go_simp; rfl)); intro gb101 hg w1 hbox hb; have n0_ := Aside0.mk (below_step (by repeat (first | (with_reducible first | exact HB.out | apply below_alloc | apply pw_below_drewN | apply below_drew1) | exact HB.out)) hb); have n1_ := Aside0.mk (hbox); have n2_ := Aside0.mk ((by rw [hg]; exact (below_size (by repeat (first | (with_reducible first | exact HB.out | apply below_alloc | apply pw_below_drewN | apply below_drew1) | exact HB.out))) : w.heap.size ≤ gb101)); have n3_ := Aside0.mk ((by rw [hg]; exact (below_size (by repeat (first | (with_reducible first | exact HB.out | apply below_alloc | apply pw_below_drewN | apply below_drew1) | exact HB.out))) : w.heap.size ≤ gb101)); clear HB; have HB := n0_; have BK101 := n1_; have GW101 := n2_; have GE101 := n3_; clear n0_ n1_ n2_ n3_; clear hb hbox hg; have hcz2_0 : w1.cell? ⟨gb101, 0, none⟩ = some (.int .u64 0) := (blk_cell BK101.out 0).trans rfl; have hcz2_1 : w1.cell? ⟨gb101, 1, none⟩ = some (.int .u64 0) := (blk_cell BK101.out 1).trans rfl; have hcz2_2 : w1.cell? ⟨gb101, 2, none⟩ = some (.int .u64 0) := (blk_cell BK101.out 2).trans rfl; have hcz2_3 : w1.cell? ⟨gb101, 3, none⟩ = some (.int .u64 0) := (blk_cell BK101.out 3).trans rfl; have hcz2_4 : w1.cell? ⟨gb101, 4, none⟩ = some (.bool false) := (blk_cell BK101.out 4).trans rfl; have hfz2_0 := blk_frozen BK101.out 0; have hfz2_1 := blk_frozen BK101.out 1; have hfz2_2 := blk_frozen BK101.out 2; have hfz2_3 := blk_frozen BK101.out 3; have hfz2_4 := blk_frozen BK101.out 4))
  refine bodyPost_ret (results_cell_row rfl _ _ gb101 26 #[.int .u64 0, .int .u64 0, .int .u64 333000, .int .u64 166500, .bool false] (0, 0) _ rfl (by (with_reducible repeat (first | refine blk_drewN ?_ _ | refine blk_drew ?_ | refine blk_alloc ?_ _)); refine blk_put (cs := #[.int .u64 0, .int .u64 0, .int .u64 333000, .int .u64 166500, .bool false]) ?_ 4 _ rfl; (with_reducible repeat (first | refine blk_drewN ?_ _ | refine blk_drew ?_ | refine blk_alloc ?_ _)); refine blk_put (cs := #[.int .u64 0, .int .u64 0, .int .u64 333000, .int .u64 0, .bool false]) ?_ 3 _ rfl; (with_reducible repeat (first | refine blk_drewN ?_ _ | refine blk_drew ?_ | refine blk_alloc ?_ _)); refine blk_put (cs := #[.int .u64 0, .int .u64 0, .int .u64 0, .int .u64 0, .bool false]) ?_ 2 _ rfl; (with_reducible repeat (first | refine blk_drewN ?_ _ | refine blk_drew ?_ | refine blk_alloc ?_ _)); refine blk_put (cs := #[.int .u64 0, .int .u64 0, .int .u64 0, .int .u64 0, .bool false]) ?_ 1 _ rfl; (with_reducible repeat (first | refine blk_drewN ?_ _ | refine blk_drew ?_ | refine blk_alloc ?_ _)); refine blk_put (cs := #[.int .u64 0, .int .u64 0, .int .u64 0, .int .u64 0, .bool false]) ?_ 0 _ rfl; (with_reducible repeat (first | refine blk_drewN ?_ _ | refine blk_drew ?_ | refine blk_alloc ?_ _)); exact BK101.out) Try.underlying26 rfl (by kernel_rfl)) rfl ?_
  exact ⟨by first | rfl | (simp [errW_none, errW_some] <;> rfl) | (simp [*, errW_none, errW_some] <;> rfl), by repeat (first | (with_reducible first | exact HB.out | apply below_alloc | apply pw_below_drewN | apply below_drew1 | refine below_set ?_ GE101.out) | exact HB.out)⟩

/-! ### rtt_Rtt_Measure: function 15 -/
def rtt_Rtt_Measure.j0 : Nat → Int → Int → Bool → Int → Int → Int → Int → Bool → Option (Int × Int × Int × Int × Bool)
  | 0, _, _, _, _, _, _, _, _ => none
  | k + 1, x1, x2, x41, x103000, x103001, x103002, x103003, x103004 => if x41 = true then (if (IntKind.u64.wrap (x1 - x2)) > x103002 then (some (x103000, x103001, IntKind.u64.wrap (Int.tdiv (IntKind.u64.wrap ((IntKind.u64.wrap (7 * x103002)) + (IntKind.u64.wrap (x1 - x2)))) 8), IntKind.u64.wrap (Int.tdiv (IntKind.u64.wrap ((IntKind.u64.wrap (3 * x103003)) + (IntKind.u64.wrap ((IntKind.u64.wrap (x1 - x2)) - x103002)))) 4), x103004)) else (some (x103000, x103001, IntKind.u64.wrap (Int.tdiv (IntKind.u64.wrap ((IntKind.u64.wrap (7 * x103002)) + (IntKind.u64.wrap (x1 - x2)))) 8), IntKind.u64.wrap (Int.tdiv (IntKind.u64.wrap ((IntKind.u64.wrap (3 * x103003)) + (IntKind.u64.wrap (x103002 - (IntKind.u64.wrap (x1 - x2)))))) 4), x103004))) else (if x1 > x103002 then (some (x103000, x103001, IntKind.u64.wrap (Int.tdiv (IntKind.u64.wrap ((IntKind.u64.wrap (7 * x103002)) + x1)) 8), IntKind.u64.wrap (Int.tdiv (IntKind.u64.wrap ((IntKind.u64.wrap (3 * x103003)) + (IntKind.u64.wrap (x1 - x103002)))) 4), x103004)) else (some (x103000, x103001, IntKind.u64.wrap (Int.tdiv (IntKind.u64.wrap ((IntKind.u64.wrap (7 * x103002)) + x1)) 8), IntKind.u64.wrap (Int.tdiv (IntKind.u64.wrap ((IntKind.u64.wrap (3 * x103003)) + (IntKind.u64.wrap (x103002 - x1)))) 4), x103004)))
def rtt_Rtt_Measure.f (k : Nat) (a0_0 : Int) (a0_1 : Int) (a0_2 : Int) (a0_3 : Int) (a0_4 : Bool) (a1 : Int) (a2 : Int) (a3 : Int) : Option (Int × Int × Int × Int × Bool) := if a0_4 = true then (if (mn a2 a3) ≤ (mn a1 1125899906842624) then (rtt_Rtt_Measure.j0 k (mn a1 1125899906842624) (mn a2 a3) (decide ((IntKind.u64.wrap ((mn a1 1125899906842624) - (mn a2 a3))) ≥ (mn a0_1 (mn a1 1125899906842624)))) (mn a1 1125899906842624) (mn a0_1 (mn a1 1125899906842624)) a0_2 a0_3 a0_4) else (rtt_Rtt_Measure.j0 k (mn a1 1125899906842624) (mn a2 a3) false (mn a1 1125899906842624) (mn a0_1 (mn a1 1125899906842624)) a0_2 a0_3 a0_4)) else (some (mn a1 1125899906842624, mn a1 1125899906842624, mn a1 1125899906842624, IntKind.u64.wrap (Int.tdiv (mn a1 1125899906842624) 2), true))
theorem rtt_Rtt_Measure.mono_l : ∀ k, (∀ y0 y1 y2 y3 y4 y5 y6 y7, LeO (rtt_Rtt_Measure.j0 k y0 y1 y2 y3 y4 y5 y6 y7) (rtt_Rtt_Measure.j0 (k + 1) y0 y1 y2 y3 y4 y5 y6 y7))
  | 0 => fun _ _ _ _ _ _ _ _ r h => by simp [rtt_Rtt_Measure.j0] at h
  | k + 1 => by
    have ih0 := rtt_Rtt_Measure.mono_l k
    · intro y0 y1 y2 y3 y4 y5 y6 y7
      unfold rtt_Rtt_Measure.j0
      repeat' first
      | (with_reducible exact ih0 _ _ _ _ _ _ _ _)
      | (with_reducible exact LeO.refl _)
      | (with_reducible exact LeO.none _)
      | (with_reducible refine LeO.ite ?_ ?_)
      | (with_reducible refine LeO.bind ?_ (fun _ => ?_))
      | exact ih0 _ _ _ _ _ _ _ _
      | exact LeO.none _
      | refine LeO.ite ?_ ?_
      | refine LeO.bind ?_ (fun _ => ?_)
theorem rtt_Rtt_Measure.mono : ∀ a0 a1 a2 a3 a4 a5 a6 a7 k, LeO (rtt_Rtt_Measure.f k a0 a1 a2 a3 a4 a5 a6 a7) (rtt_Rtt_Measure.f (k + 1) a0 a1 a2 a3 a4 a5 a6 a7) := by
  intro a0 a1 a2 a3 a4 a5 a6 a7 k
  have ih0 := rtt_Rtt_Measure.mono_l k
  unfold rtt_Rtt_Measure.f
  repeat' first
      | (with_reducible exact ih0 _ _ _ _ _ _ _ _)
      | (with_reducible exact LeO.refl _)
      | (with_reducible exact LeO.none _)
      | (with_reducible refine LeO.ite ?_ ?_)
      | (with_reducible refine LeO.bind ?_ (fun _ => ?_))
      | exact ih0 _ _ _ _ _ _ _ _
      | exact LeO.none _
      | refine LeO.ite ?_ ?_
      | refine LeO.bind ?_ (fun _ => ?_)
set_option maxHeartbeats 8000000 in
set_option maxRecDepth 100000 in
theorem rtt_Rtt_Measure.calls (k : Nat) (a0_0 : Int) (a0_1 : Int) (a0_2 : Int) (a0_3 : Int) (a0_4 : Bool) (a1 : Int) (a2 : Int) (a3 : Int) (r1 : Int) (r2 : Int) (r3 : Int) (r4 : Int) (r5 : Bool) (w : World) (h : rtt_Rtt_Measure.f k a0_0 a0_1 a0_2 a0_3 a0_4 a1 a2 a3 = some (r1, r2, r3, r4, r5)) :
    Calls Try.prog 15 #[.agg #[.int .u64 a0_0, .int .u64 a0_1, .int .u64 a0_2, .int .u64 a0_3, .bool a0_4], .int .u64 a1, .int .u64 a2, .int .u64 a3] w fun e w' => e = .returned (.agg #[.int .u64 r1, .int .u64 r2, .int .u64 r3, .int .u64 r4, .bool r5]) ∧ Below w.heap.size w w' := by
  have hu26 := Try.underlying26
  have HB := Aside0.mk (Below.refl w.heap.size w)
  have H : (if a0_4 = true then (if (mn a2 a3) ≤ (mn a1 1125899906842624) then (rtt_Rtt_Measure.j0 k (mn a1 1125899906842624) (mn a2 a3) (decide ((IntKind.u64.wrap ((mn a1 1125899906842624) - (mn a2 a3))) ≥ (mn a0_1 (mn a1 1125899906842624)))) (mn a1 1125899906842624) (mn a0_1 (mn a1 1125899906842624)) a0_2 a0_3 a0_4) else (rtt_Rtt_Measure.j0 k (mn a1 1125899906842624) (mn a2 a3) false (mn a1 1125899906842624) (mn a0_1 (mn a1 1125899906842624)) a0_2 a0_3 a0_4)) else (some (mn a1 1125899906842624, mn a1 1125899906842624, mn a1 1125899906842624, IntKind.u64.wrap (Int.tdiv (mn a1 1125899906842624) 2), true))) = some (r1, r2, r3, r4, r5) := h
  clear h
  obtain ⟨ji5, hji5⟩ : ∃ j_ : Int, (mn a1 1125899906842624) = j_ := ⟨_, rfl⟩
  replace H : (if a0_4 = true then (if (mn a2 a3) ≤ (ji5) then (rtt_Rtt_Measure.j0 k ji5 (mn a2 a3) (decide ((IntKind.u64.wrap ((ji5) - (mn a2 a3))) ≥ (mn a0_1 (ji5)))) ji5 (mn a0_1 (ji5)) a0_2 a0_3 a0_4) else (rtt_Rtt_Measure.j0 k ji5 (mn a2 a3) false ji5 (mn a0_1 (ji5)) a0_2 a0_3 a0_4)) else (some (ji5, ji5, ji5, IntKind.u64.wrap (Int.tdiv (ji5) 2), true))) = some (r1, r2, r3, r4, r5) := by first | (rw [hji5] at H; exact H) | (simp only [hji5] at H ⊢; exact H)
  (try (have hji5h : ji5 ≤ 1125899906842624 := by (rw [← hji5]; unfold mn; (repeat' split) <;> omega)))
  (try (have hji5g : ji5 ≤ 64 := by omega))
  have hji5_ : (if 1125899906842624 < a1 then 1125899906842624 else a1) = ji5 := hji5
  by_cases c6 : a0_4 = true
  · subst c6
    have H1 : (if (mn a2 a3) ≤ (ji5) then (rtt_Rtt_Measure.j0 k ji5 (mn a2 a3) (decide ((IntKind.u64.wrap ((ji5) - (mn a2 a3))) ≥ (mn a0_1 (ji5)))) ji5 (mn a0_1 (ji5)) a0_2 a0_3 true) else (rtt_Rtt_Measure.j0 k ji5 (mn a2 a3) false ji5 (mn a0_1 (ji5)) a0_2 a0_3 true)) = some (r1, r2, r3, r4, r5) := by rw [if_pos rfl] at H; exact H
    clear H
    have H := H1
    clear H1
    obtain ⟨ji7, hji7⟩ : ∃ j_ : Int, (mn a0_1 (ji5)) = j_ := ⟨_, rfl⟩
    replace H : (if (mn a2 a3) ≤ (ji5) then (rtt_Rtt_Measure.j0 k ji5 (mn a2 a3) (decide ((IntKind.u64.wrap ((ji5) - (mn a2 a3))) ≥ (ji7))) ji5 ji7 a0_2 a0_3 true) else (rtt_Rtt_Measure.j0 k ji5 (mn a2 a3) false ji5 ji7 a0_2 a0_3 true)) = some (r1, r2, r3, r4, r5) := by first | (rw [hji7] at H; exact H) | (simp only [hji7] at H ⊢; exact H)
    have hji7_ : (if (ji5) < a0_1 then (ji5) else a0_1) = ji7 := hji7
    obtain ⟨ji8, hji8⟩ : ∃ j_ : Int, (mn a2 a3) = j_ := ⟨_, rfl⟩
    replace H : (if (ji8) ≤ (ji5) then (rtt_Rtt_Measure.j0 k ji5 ji8 (decide ((IntKind.u64.wrap ((ji5) - (ji8))) ≥ (ji7))) ji5 ji7 a0_2 a0_3 true) else (rtt_Rtt_Measure.j0 k ji5 ji8 false ji5 ji7 a0_2 a0_3 true)) = some (r1, r2, r3, r4, r5) := by first | (rw [hji8] at H; exact H) | (simp only [hji8] at H ⊢; exact H)
    have hji8_ : (if a3 < a2 then a3 else a2) = ji8 := hji8
    have HC9 := Aside0.mk H
    clear H
    go_enter Try.func15, Try.ntmps15
    go_upto_region 6 with (first | ((with_reducible refine gate_dst (N := 4) rfl ?_); refine box_event ?hg (N := 4) ?hd (cs := #[.int .u64 a0_0, .int .u64 a0_1, .int .u64 a0_2, .int .u64 a0_3, .bool true]) (t := 26) ?hr ?_; (case hd => rfl); (case hg => rfl); (case hr => first | (go_simp; done) | (go_simp; rfl)); intro gb102 hg w10 hbox hb; have n0_ := Aside0.mk (below_step (by repeat (first | (with_reducible first | exact HB.out | apply below_alloc | apply pw_below_drewN | apply below_drew1) | exact HB.out)) hb); have n1_ := Aside0.mk (hbox); have n2_ := Aside0.mk ((by rw [hg]; exact (below_size (by repeat (first | (with_reducible first | exact HB.out | apply below_alloc | apply pw_below_drewN | apply below_drew1) | exact HB.out))) : w.heap.size ≤ gb102)); have n3_ := Aside0.mk ((by rw [hg]; exact (below_size (by repeat (first | (with_reducible first | exact HB.out | apply below_alloc | apply pw_below_drewN | apply below_drew1) | exact HB.out))) : w.heap.size ≤ gb102)); clear HB; have HB := n0_; have BK102 := n1_; have GW102 := n2_; have GE102 := n3_; clear n0_ n1_ n2_ n3_; clear hb hbox hg) | ((with_reducible refine gate_dst (N := 8) rfl ?_); refine box_event ?hg (N := 8) ?hd (cs := #[.int .u64 0, .int .u64 0, .int .u64 0, .int .u64 0, .bool false]) (t := 26) ?hr ?_; (case hd => rfl); (case hg => rfl); (case hr => first | (go_simp; done) | (go_simp; rfl)); intro gb103 hg w11 hbox hb; have n0_ := Aside0.mk (blk_below (g := gb102) (o := .cells #[.int .u64 a0_0, .int .u64 a0_1, .int .u64 a0_2, .int .u64 a0_3, .bool true] 26 (0, 0)) (by (with_reducible repeat (first | refine blk_drewN ?_ _ | refine blk_drew ?_ | refine blk_alloc ?_ _)); exact BK102.out) hb); have n1_ := Aside0.mk (below_step (by repeat (first | (with_reducible first | exact HB.out | apply below_alloc | apply pw_below_drewN | apply below_drew1 | refine below_set ?_ GE102.out) | exact HB.out)) hb); have n2_ := Aside0.mk (hbox); have n3_ := Aside0.mk ((by rw [hg]; exact (below_size (by repeat (first | (with_reducible first | exact HB.out | apply below_alloc | apply pw_below_drewN | apply below_drew1 | refine below_set ?_ GE102.out) | exact HB.out))) : w.heap.size ≤ gb103)); have n4_ := Aside0.mk ((by rw [hg]; exact (below_size (by repeat (first | (with_reducible first | exact HB.out | apply below_alloc | apply pw_below_drewN | apply below_drew1 | refine below_set ?_ GE102.out) | exact HB.out))) : w.heap.size ≤ gb103)); have n5_ := Aside0.mk ((by rw [hg]; exact Nat.ne_of_lt (blk_lt (g := gb102) (o := .cells #[.int .u64 a0_0, .int .u64 a0_1, .int .u64 a0_2, .int .u64 a0_3, .bool true] 26 (0, 0)) (by (with_reducible repeat (first | refine blk_drewN ?_ _ | refine blk_drew ?_ | refine blk_alloc ?_ _)); exact BK102.out)) : gb102 ≠ gb103)); have n6_ := Aside0.mk ((by rw [hg]; exact Nat.ne_of_gt (blk_lt (g := gb102) (o := .cells #[.int .u64 a0_0, .int .u64 a0_1, .int .u64 a0_2, .int .u64 a0_3, .bool true] 26 (0, 0)) (by (with_reducible repeat (first | refine blk_drewN ?_ _ | refine blk_drew ?_ | refine blk_alloc ?_ _)); exact BK102.out)) : gb103 ≠ gb102)); clear BK102; clear HB; have BK102 := n0_; have HB := n1_; have BK103 := n2_; have GW103 := n3_; have GE103 := n4_; have NB102_103 := n5_; have NB103_102 := n6_; clear n0_ n1_ n2_ n3_ n4_ n5_ n6_; clear hb hbox hg; have hnb12 := NB102_103.out; have hnc12 := NB103_102.out; have hcz13_0 : w11.cell? ⟨gb102, 0, none⟩ = some (.int .u64 a0_0) := (blk_cell BK102.out 0).trans rfl; have hcz13_1 : w11.cell? ⟨gb102, 1, none⟩ = some (.int .u64 a0_1) := (blk_cell BK102.out 1).trans rfl; have hcz13_2 : w11.cell? ⟨gb102, 2, none⟩ = some (.int .u64 a0_2) := (blk_cell BK102.out 2).trans rfl; have hcz13_3 : w11.cell? ⟨gb102, 3, none⟩ = some (.int .u64 a0_3) := (blk_cell BK102.out 3).trans rfl; have hcz13_4 : w11.cell? ⟨gb102, 4, none⟩ = some (.bool true) := (blk_cell BK102.out 4).trans rfl; have hfz13_0 := blk_frozen BK102.out 0; have hfz13_1 := blk_frozen BK102.out 1; have hfz13_2 := blk_frozen BK102.out 2; have hfz13_3 := blk_frozen BK102.out 3; have hfz13_4 := blk_frozen BK102.out 4))
    (try simp only [Act.put, List.setIfInBounds_toArray, List.set_cons_zero, List.set_cons_succ])
    go_cut [41] (fun v41 wc => ∃ (kq : Nat) (x41_8 : Bool), v41 = .bool x41_8 ∧ Aside0 (rtt_Rtt_Measure.j0 kq ji5 ji8 x41_8 ji5 ji7 a0_2 a0_3 true = some (r1, r2, r3, r4, r5)) ∧ Aside0 (kq ≤ k) ∧ Aside0 (wc.heap[gb102]? = some (.cells #[.int .u64 ji5, .int .u64 ji7, .int .u64 a0_2, .int .u64 a0_3, .bool true] 26 (0, 0))) ∧ Aside0 (wc.heap[gb103]? = some (.cells #[.int .u64 0, .int .u64 0, .int .u64 0, .int .u64 0, .bool false] 26 (0, 0))) ∧ Aside0 (Below w.heap.size w wc))
    case first =>
      have H := HC9.out
      clear HC9
      by_cases c14 : (ji8) ≤ (ji5)
      · rw [if_pos c14] at H
        have c14b0 : decide ((ji8) ≤ (ji5)) = true := decide_eq_true c14
        clear c14
        (first | rw [c14b0] | (simp only [i64_w, i32_w]; rw [c14b0]) | skip)
        have H' := Aside0.mk H
        clear H
        have hnb15 := NB102_103.out
        have hnc15 := NB103_102.out
        have hcz16_0 : w11.cell? ⟨gb102, 0, none⟩ = some (.int .u64 a0_0) := (blk_cell BK102.out 0).trans rfl
        have hcz16_1 : w11.cell? ⟨gb102, 1, none⟩ = some (.int .u64 a0_1) := (blk_cell BK102.out 1).trans rfl
        have hcz16_2 : w11.cell? ⟨gb102, 2, none⟩ = some (.int .u64 a0_2) := (blk_cell BK102.out 2).trans rfl
        have hcz16_3 : w11.cell? ⟨gb102, 3, none⟩ = some (.int .u64 a0_3) := (blk_cell BK102.out 3).trans rfl
        have hcz16_4 : w11.cell? ⟨gb102, 4, none⟩ = some (.bool true) := (blk_cell BK102.out 4).trans rfl
        have hfz16_0 := blk_frozen BK102.out 0
        have hfz16_1 := blk_frozen BK102.out 1
        have hfz16_2 := blk_frozen BK102.out 2
        have hfz16_3 := blk_frozen BK102.out 3
        have hfz16_4 := blk_frozen BK102.out 4
        go_wp2
        go_meet
        case rel => exact ⟨_, (decide ((IntKind.u64.wrap ((ji5) - (ji8))) ≥ (ji7))), (by first | rfl | (simp; done) | (simp only [← hji5, ← hji7, ← hji8] <;> (first | rfl | simp)) | (simp [*]; done)), H', ⟨by first | omega | exact Nat.le_refl _⟩, ⟨by (with_reducible repeat (first | refine blk_drewN ?_ _ | refine blk_drew ?_ | refine blk_alloc ?_ _)); refine blk_put (cs := #[.int .u64 ji5, .int .u64 a0_1, .int .u64 a0_2, .int .u64 a0_3, .bool true]) ?_ 1 _ rfl; (with_reducible repeat (first | refine blk_drewN ?_ _ | refine blk_drew ?_ | refine blk_alloc ?_ _)); refine blk_put (cs := #[.int .u64 a0_0, .int .u64 a0_1, .int .u64 a0_2, .int .u64 a0_3, .bool true]) ?_ 0 _ rfl; (with_reducible repeat (first | refine blk_drewN ?_ _ | refine blk_drew ?_ | refine blk_alloc ?_ _)); exact BK102.out⟩, ⟨by (with_reducible repeat (first | refine blk_drewN ?_ _ | refine blk_drew ?_ | refine blk_alloc ?_ _)); refine blk_far ?_ NB103_102.out _; (with_reducible repeat (first | refine blk_drewN ?_ _ | refine blk_drew ?_ | refine blk_alloc ?_ _)); refine blk_far ?_ NB103_102.out _; (with_reducible repeat (first | refine blk_drewN ?_ _ | refine blk_drew ?_ | refine blk_alloc ?_ _)); exact BK103.out⟩, ⟨by repeat (first | (with_reducible first | exact HB.out | apply below_alloc | apply pw_below_drewN | apply below_drew1 | refine below_set ?_ GE102.out | refine below_set ?_ GE103.out) | exact HB.out)⟩⟩
      · rw [if_neg c14] at H
        have c14b0 : decide ((ji8) ≤ (ji5)) = false := decide_eq_false c14
        clear c14
        (first | rw [c14b0] | (simp only [i64_w, i32_w]; rw [c14b0]) | skip)
        have H' := Aside0.mk H
        clear H
        go_wp2
        go_meet
        case rel => exact ⟨_, (false), (by first | rfl | (simp; done) | (simp [*]; done)), H', ⟨by first | omega | exact Nat.le_refl _⟩, ⟨by (with_reducible repeat (first | refine blk_drewN ?_ _ | refine blk_drew ?_ | refine blk_alloc ?_ _)); refine blk_put (cs := #[.int .u64 ji5, .int .u64 a0_1, .int .u64 a0_2, .int .u64 a0_3, .bool true]) ?_ 1 _ rfl; (with_reducible repeat (first | refine blk_drewN ?_ _ | refine blk_drew ?_ | refine blk_alloc ?_ _)); refine blk_put (cs := #[.int .u64 a0_0, .int .u64 a0_1, .int .u64 a0_2, .int .u64 a0_3, .bool true]) ?_ 0 _ rfl; (with_reducible repeat (first | refine blk_drewN ?_ _ | refine blk_drew ?_ | refine blk_alloc ?_ _)); exact BK102.out⟩, ⟨by (with_reducible repeat (first | refine blk_drewN ?_ _ | refine blk_drew ?_ | refine blk_alloc ?_ _)); refine blk_far ?_ NB103_102.out _; (with_reducible repeat (first | refine blk_drewN ?_ _ | refine blk_drew ?_ | refine blk_alloc ?_ _)); refine blk_far ?_ NB103_102.out _; (with_reducible repeat (first | refine blk_drewN ?_ _ | refine blk_drew ?_ | refine blk_alloc ?_ _)); exact BK103.out⟩, ⟨by repeat (first | (with_reducible first | exact HB.out | apply below_alloc | apply pw_below_drewN | apply below_drew1 | refine below_set ?_ GE102.out | refine below_set ?_ GE103.out) | exact HB.out)⟩⟩
    case rest =>
      clear HC9
      try clear c1
      try clear p2
      try clear c6
      try clear c12
      try clear c14
      try clear c14b0
      try clear c15
      try clear hcz13_0
      try clear hcz13_1
      try clear hcz13_2
      try clear hcz13_3
      try clear hcz13_4
      try clear hcz16_0
      try clear hcz16_1
      try clear hcz16_2
      try clear hcz16_3
      try clear hcz16_4
      try clear hfz13_0
      try clear hfz13_1
      try clear hfz13_2
      try clear hfz13_3
      try clear hfz13_4
      try clear hfz16_0
      try clear hfz16_1
      try clear hfz16_2
      try clear hfz16_3
      try clear hfz16_4
      obtain ⟨kq, x41_8, rfl, HA, HJ8, BK102, BK103, HB⟩ := hcut
      cases kq with
      | zero => exact absurd HA.out (by simp [rtt_Rtt_Measure.j0])
      | succ kj8 =>
        have H := HA.out
        clear HA
        simp only [rtt_Rtt_Measure.j0] at H
        by_cases c17 : x41_8 = true
        · subst c17
          have H1 : (if (IntKind.u64.wrap (ji5 - ji8)) > a0_2 then (some (ji5, ji7, IntKind.u64.wrap (Int.tdiv (IntKind.u64.wrap ((IntKind.u64.wrap (7 * a0_2)) + (IntKind.u64.wrap (ji5 - ji8)))) 8), IntKind.u64.wrap (Int.tdiv (IntKind.u64.wrap ((IntKind.u64.wrap (3 * a0_3)) + (IntKind.u64.wrap ((IntKind.u64.wrap (ji5 - ji8)) - a0_2)))) 4), true)) else (some (ji5, ji7, IntKind.u64.wrap (Int.tdiv (IntKind.u64.wrap ((IntKind.u64.wrap (7 * a0_2)) + (IntKind.u64.wrap (ji5 - ji8)))) 8), IntKind.u64.wrap (Int.tdiv (IntKind.u64.wrap ((IntKind.u64.wrap (3 * a0_3)) + (IntKind.u64.wrap (a0_2 - (IntKind.u64.wrap (ji5 - ji8)))))) 4), true))) = some (r1, r2, r3, r4, r5) := by rw [if_pos rfl] at H; exact H
          clear H
          have H := H1
          clear H1
          by_cases c18 : (IntKind.u64.wrap (ji5 - ji8)) > a0_2
          · rw [if_pos c18] at H
            have c18b0 : decide (a0_2 < (IntKind.u64.wrap (ji5 - ji8))) = true := decide_eq_true c18
            clear c18
            simp only [Option.some.injEq, Prod.mk.injEq] at H
            obtain ⟨rfl, rfl, rfl, rfl, rfl⟩ := H
            have hnb19 := NB102_103.out
            have hnc19 := NB103_102.out
            have hcz20_0 : wc.cell? ⟨gb102, 0, none⟩ = some (.int .u64 ji5) := (blk_cell BK102.out 0).trans rfl
            have hcz20_1 : wc.cell? ⟨gb102, 1, none⟩ = some (.int .u64 ji7) := (blk_cell BK102.out 1).trans rfl
            have hcz20_2 : wc.cell? ⟨gb102, 2, none⟩ = some (.int .u64 a0_2) := (blk_cell BK102.out 2).trans rfl
            have hcz20_3 : wc.cell? ⟨gb102, 3, none⟩ = some (.int .u64 a0_3) := (blk_cell BK102.out 3).trans rfl
            have hcz20_4 : wc.cell? ⟨gb102, 4, none⟩ = some (.bool true) := (blk_cell BK102.out 4).trans rfl
            have hfz20_0 := blk_frozen BK102.out 0
            have hfz20_1 := blk_frozen BK102.out 1
            have hfz20_2 := blk_frozen BK102.out 2
            have hfz20_3 := blk_frozen BK102.out 3
            have hfz20_4 := blk_frozen BK102.out 4
            have hcz21_0 : wc.cell? ⟨gb103, 0, none⟩ = some (.int .u64 0) := (blk_cell BK103.out 0).trans rfl
            have hcz21_1 : wc.cell? ⟨gb103, 1, none⟩ = some (.int .u64 0) := (blk_cell BK103.out 1).trans rfl
            have hcz21_2 : wc.cell? ⟨gb103, 2, none⟩ = some (.int .u64 0) := (blk_cell BK103.out 2).trans rfl
            have hcz21_3 : wc.cell? ⟨gb103, 3, none⟩ = some (.int .u64 0) := (blk_cell BK103.out 3).trans rfl
            have hcz21_4 : wc.cell? ⟨gb103, 4, none⟩ = some (.bool false) := (blk_cell BK103.out 4).trans rfl
            have hfz21_0 := blk_frozen BK103.out 0
            have hfz21_1 := blk_frozen BK103.out 1
            have hfz21_2 := blk_frozen BK103.out 2
            have hfz21_3 := blk_frozen BK103.out 3
            have hfz21_4 := blk_frozen BK103.out 4
            go_wp2
            refine bodyPost_ret (results_cell_row rfl _ _ gb103 26 #[.int .u64 ji5, .int .u64 ji7, .int .u64 (IntKind.u64.wrap (Int.tdiv (IntKind.u64.wrap ((IntKind.u64.wrap (7 * a0_2)) + (IntKind.u64.wrap (ji5 - ji8)))) 8)), .int .u64 (IntKind.u64.wrap (Int.tdiv (IntKind.u64.wrap ((IntKind.u64.wrap (3 * a0_3)) + (IntKind.u64.wrap ((IntKind.u64.wrap (ji5 - ji8)) - a0_2)))) 4)), .bool true] (0, 0) _ rfl (by (with_reducible repeat (first | refine blk_drewN ?_ _ | refine blk_drew ?_ | refine blk_alloc ?_ _)); refine blk_put (cs := #[.int .u64 ji5, .int .u64 ji7, .int .u64 (IntKind.u64.wrap (Int.tdiv (IntKind.u64.wrap ((IntKind.u64.wrap (7 * a0_2)) + (IntKind.u64.wrap (ji5 - ji8)))) 8)), .int .u64 (IntKind.u64.wrap (Int.tdiv (IntKind.u64.wrap ((IntKind.u64.wrap (3 * a0_3)) + (IntKind.u64.wrap ((IntKind.u64.wrap (ji5 - ji8)) - a0_2)))) 4)), .bool false]) ?_ 4 _ rfl; (with_reducible repeat (first | refine blk_drewN ?_ _ | refine blk_drew ?_ | refine blk_alloc ?_ _)); refine blk_put (cs := #[.int .u64 ji5, .int .u64 ji7, .int .u64 (IntKind.u64.wrap (Int.tdiv (IntKind.u64.wrap ((IntKind.u64.wrap (7 * a0_2)) + (IntKind.u64.wrap (ji5 - ji8)))) 8)), .int .u64 0, .bool false]) ?_ 3 _ rfl; (with_reducible repeat (first | refine blk_drewN ?_ _ | refine blk_drew ?_ | refine blk_alloc ?_ _)); refine blk_put (cs := #[.int .u64 ji5, .int .u64 ji7, .int .u64 0, .int .u64 0, .bool false]) ?_ 2 _ rfl; (with_reducible repeat (first | refine blk_drewN ?_ _ | refine blk_drew ?_ | refine blk_alloc ?_ _)); refine blk_put (cs := #[.int .u64 ji5, .int .u64 0, .int .u64 0, .int .u64 0, .bool false]) ?_ 1 _ rfl; (with_reducible repeat (first | refine blk_drewN ?_ _ | refine blk_drew ?_ | refine blk_alloc ?_ _)); refine blk_put (cs := #[.int .u64 0, .int .u64 0, .int .u64 0, .int .u64 0, .bool false]) ?_ 0 _ rfl; (with_reducible repeat (first | refine blk_drewN ?_ _ | refine blk_drew ?_ | refine blk_alloc ?_ _)); refine blk_far ?_ NB103_102.out _; (with_reducible repeat (first | refine blk_drewN ?_ _ | refine blk_drew ?_ | refine blk_alloc ?_ _)); refine blk_far ?_ NB103_102.out _; (with_reducible repeat (first | refine blk_drewN ?_ _ | refine blk_drew ?_ | refine blk_alloc ?_ _)); exact BK103.out) Try.underlying26 rfl (by kernel_rfl)) rfl ?_
            exact ⟨by first | rfl | (simp [errW_none, errW_some] <;> rfl) | (simp only [← hji5, ← hji7, ← hji8]; first | rfl | (simp [errW_none, errW_some] <;> rfl)) | (simp [*, errW_none, errW_some] <;> rfl), by repeat (first | (with_reducible first | exact HB.out | apply below_alloc | apply pw_below_drewN | apply below_drew1 | refine below_set ?_ GE102.out | refine below_set ?_ GE103.out) | exact HB.out)⟩
          · rw [if_neg c18] at H
            have c18b0 : decide (a0_2 < (IntKind.u64.wrap (ji5 - ji8))) = false := decide_eq_false c18
            clear c18
            simp only [Option.some.injEq, Prod.mk.injEq] at H
            obtain ⟨rfl, rfl, rfl, rfl, rfl⟩ := H
            have hnb22 := NB102_103.out
            have hnc22 := NB103_102.out
            have hcz23_0 : wc.cell? ⟨gb102, 0, none⟩ = some (.int .u64 ji5) := (blk_cell BK102.out 0).trans rfl
            have hcz23_1 : wc.cell? ⟨gb102, 1, none⟩ = some (.int .u64 ji7) := (blk_cell BK102.out 1).trans rfl
            have hcz23_2 : wc.cell? ⟨gb102, 2, none⟩ = some (.int .u64 a0_2) := (blk_cell BK102.out 2).trans rfl
            have hcz23_3 : wc.cell? ⟨gb102, 3, none⟩ = some (.int .u64 a0_3) := (blk_cell BK102.out 3).trans rfl
            have hcz23_4 : wc.cell? ⟨gb102, 4, none⟩ = some (.bool true) := (blk_cell BK102.out 4).trans rfl
            have hfz23_0 := blk_frozen BK102.out 0
            have hfz23_1 := blk_frozen BK102.out 1
            have hfz23_2 := blk_frozen BK102.out 2
            have hfz23_3 := blk_frozen BK102.out 3
            have hfz23_4 := blk_frozen BK102.out 4
            have hcz24_0 : wc.cell? ⟨gb103, 0, none⟩ = some (.int .u64 0) := (blk_cell BK103.out 0).trans rfl
            have hcz24_1 : wc.cell? ⟨gb103, 1, none⟩ = some (.int .u64 0) := (blk_cell BK103.out 1).trans rfl
            have hcz24_2 : wc.cell? ⟨gb103, 2, none⟩ = some (.int .u64 0) := (blk_cell BK103.out 2).trans rfl
            have hcz24_3 : wc.cell? ⟨gb103, 3, none⟩ = some (.int .u64 0) := (blk_cell BK103.out 3).trans rfl
            have hcz24_4 : wc.cell? ⟨gb103, 4, none⟩ = some (.bool false) := (blk_cell BK103.out 4).trans rfl
            have hfz24_0 := blk_frozen BK103.out 0
            have hfz24_1 := blk_frozen BK103.out 1
            have hfz24_2 := blk_frozen BK103.out 2
            have hfz24_3 := blk_frozen BK103.out 3
            have hfz24_4 := blk_frozen BK103.out 4
            go_wp2
            refine bodyPost_ret (results_cell_row rfl _ _ gb103 26 #[.int .u64 ji5, .int .u64 ji7, .int .u64 (IntKind.u64.wrap (Int.tdiv (IntKind.u64.wrap ((IntKind.u64.wrap (7 * a0_2)) + (IntKind.u64.wrap (ji5 - ji8)))) 8)), .int .u64 (IntKind.u64.wrap (Int.tdiv (IntKind.u64.wrap ((IntKind.u64.wrap (3 * a0_3)) + (IntKind.u64.wrap (a0_2 - (IntKind.u64.wrap (ji5 - ji8)))))) 4)), .bool true] (0, 0) _ rfl (by (with_reducible repeat (first | refine blk_drewN ?_ _ | refine blk_drew ?_ | refine blk_alloc ?_ _)); refine blk_put (cs := #[.int .u64 ji5, .int .u64 ji7, .int .u64 (IntKind.u64.wrap (Int.tdiv (IntKind.u64.wrap ((IntKind.u64.wrap (7 * a0_2)) + (IntKind.u64.wrap (ji5 - ji8)))) 8)), .int .u64 (IntKind.u64.wrap (Int.tdiv (IntKind.u64.wrap ((IntKind.u64.wrap (3 * a0_3)) + (IntKind.u64.wrap (a0_2 - (IntKind.u64.wrap (ji5 - ji8)))))) 4)), .bool false]) ?_ 4 _ rfl; (with_reducible repeat (first | refine blk_drewN ?_ _ | refine blk_drew ?_ | refine blk_alloc ?_ _)); refine blk_put (cs := #[.int .u64 ji5, .int .u64 ji7, .int .u64 (IntKind.u64.wrap (Int.tdiv (IntKind.u64.wrap ((IntKind.u64.wrap (7 * a0_2)) + (IntKind.u64.wrap (ji5 - ji8)))) 8)), .int .u64 0, .bool false]) ?_ 3 _ rfl; (with_reducible repeat (first | refine blk_drewN ?_ _ | refine blk_drew ?_ | refine blk_alloc ?_ _)); refine blk_put (cs := #[.int .u64 ji5, .int .u64 ji7, .int .u64 0, .int .u64 0, .bool false]) ?_ 2 _ rfl; (with_reducible repeat (first | refine blk_drewN ?_ _ | refine blk_drew ?_ | refine blk_alloc ?_ _)); refine blk_put (cs := #[.int .u64 ji5, .int .u64 0, .int .u64 0, .int .u64 0, .bool false]) ?_ 1 _ rfl; (with_reducible repeat (first | refine blk_drewN ?_ _ | refine blk_drew ?_ | refine blk_alloc ?_ _)); refine blk_put (cs := #[.int .u64 0, .int .u64 0, .int .u64 0, .int .u64 0, .bool false]) ?_ 0 _ rfl; (with_reducible repeat (first | refine blk_drewN ?_ _ | refine blk_drew ?_ | refine blk_alloc ?_ _)); refine blk_far ?_ NB103_102.out _; (with_reducible repeat (first | refine blk_drewN ?_ _ | refine blk_drew ?_ | refine blk_alloc ?_ _)); refine blk_far ?_ NB103_102.out _; (with_reducible repeat (first | refine blk_drewN ?_ _ | refine blk_drew ?_ | refine blk_alloc ?_ _)); exact BK103.out) Try.underlying26 rfl (by kernel_rfl)) rfl ?_
            exact ⟨by first | rfl | (simp [errW_none, errW_some] <;> rfl) | (simp only [← hji5, ← hji7, ← hji8]; first | rfl | (simp [errW_none, errW_some] <;> rfl)) | (simp [*, errW_none, errW_some] <;> rfl), by repeat (first | (with_reducible first | exact HB.out | apply below_alloc | apply pw_below_drewN | apply below_drew1 | refine below_set ?_ GE102.out | refine below_set ?_ GE103.out) | exact HB.out)⟩
        · replace c17 := Bool.eq_false_iff.mpr c17
          subst c17
          have H1 : (if ji5 > a0_2 then (some (ji5, ji7, IntKind.u64.wrap (Int.tdiv (IntKind.u64.wrap ((IntKind.u64.wrap (7 * a0_2)) + ji5)) 8), IntKind.u64.wrap (Int.tdiv (IntKind.u64.wrap ((IntKind.u64.wrap (3 * a0_3)) + (IntKind.u64.wrap (ji5 - a0_2)))) 4), true)) else (some (ji5, ji7, IntKind.u64.wrap (Int.tdiv (IntKind.u64.wrap ((IntKind.u64.wrap (7 * a0_2)) + ji5)) 8), IntKind.u64.wrap (Int.tdiv (IntKind.u64.wrap ((IntKind.u64.wrap (3 * a0_3)) + (IntKind.u64.wrap (a0_2 - ji5)))) 4), true))) = some (r1, r2, r3, r4, r5) := by rw [if_neg (show ¬ (false = true) by decide)] at H; exact H
          clear H
          have H := H1
          clear H1
          by_cases c25 : ji5 > a0_2
          · rw [if_pos c25] at H
            have c25b0 : decide (a0_2 < ji5) = true := decide_eq_true c25
            clear c25
            simp only [Option.some.injEq, Prod.mk.injEq] at H
            obtain ⟨rfl, rfl, rfl, rfl, rfl⟩ := H
            have hnb26 := NB102_103.out
            have hnc26 := NB103_102.out
            have hcz27_0 : wc.cell? ⟨gb102, 0, none⟩ = some (.int .u64 ji5) := (blk_cell BK102.out 0).trans rfl
            have hcz27_1 : wc.cell? ⟨gb102, 1, none⟩ = some (.int .u64 ji7) := (blk_cell BK102.out 1).trans rfl
            have hcz27_2 : wc.cell? ⟨gb102, 2, none⟩ = some (.int .u64 a0_2) := (blk_cell BK102.out 2).trans rfl
            have hcz27_3 : wc.cell? ⟨gb102, 3, none⟩ = some (.int .u64 a0_3) := (blk_cell BK102.out 3).trans rfl
            have hcz27_4 : wc.cell? ⟨gb102, 4, none⟩ = some (.bool true) := (blk_cell BK102.out 4).trans rfl
            have hfz27_0 := blk_frozen BK102.out 0
            have hfz27_1 := blk_frozen BK102.out 1
            have hfz27_2 := blk_frozen BK102.out 2
            have hfz27_3 := blk_frozen BK102.out 3
            have hfz27_4 := blk_frozen BK102.out 4
            have hcz28_0 : wc.cell? ⟨gb103, 0, none⟩ = some (.int .u64 0) := (blk_cell BK103.out 0).trans rfl
            have hcz28_1 : wc.cell? ⟨gb103, 1, none⟩ = some (.int .u64 0) := (blk_cell BK103.out 1).trans rfl
            have hcz28_2 : wc.cell? ⟨gb103, 2, none⟩ = some (.int .u64 0) := (blk_cell BK103.out 2).trans rfl
            have hcz28_3 : wc.cell? ⟨gb103, 3, none⟩ = some (.int .u64 0) := (blk_cell BK103.out 3).trans rfl
            have hcz28_4 : wc.cell? ⟨gb103, 4, none⟩ = some (.bool false) := (blk_cell BK103.out 4).trans rfl
            have hfz28_0 := blk_frozen BK103.out 0
            have hfz28_1 := blk_frozen BK103.out 1
            have hfz28_2 := blk_frozen BK103.out 2
            have hfz28_3 := blk_frozen BK103.out 3
            have hfz28_4 := blk_frozen BK103.out 4
            go_wp2
            refine bodyPost_ret (results_cell_row rfl _ _ gb103 26 #[.int .u64 ji5, .int .u64 ji7, .int .u64 (IntKind.u64.wrap (Int.tdiv (IntKind.u64.wrap ((IntKind.u64.wrap (7 * a0_2)) + ji5)) 8)), .int .u64 (IntKind.u64.wrap (Int.tdiv (IntKind.u64.wrap ((IntKind.u64.wrap (3 * a0_3)) + (IntKind.u64.wrap (ji5 - a0_2)))) 4)), .bool true] (0, 0) _ rfl (by (with_reducible repeat (first | refine blk_drewN ?_ _ | refine blk_drew ?_ | refine blk_alloc ?_ _)); refine blk_put (cs := #[.int .u64 ji5, .int .u64 ji7, .int .u64 (IntKind.u64.wrap (Int.tdiv (IntKind.u64.wrap ((IntKind.u64.wrap (7 * a0_2)) + ji5)) 8)), .int .u64 (IntKind.u64.wrap (Int.tdiv (IntKind.u64.wrap ((IntKind.u64.wrap (3 * a0_3)) + (IntKind.u64.wrap (ji5 - a0_2)))) 4)), .bool false]) ?_ 4 _ rfl; (with_reducible repeat (first | refine blk_drewN ?_ _ | refine blk_drew ?_ | refine blk_alloc ?_ _)); refine blk_put (cs := #[.int .u64 ji5, .int .u64 ji7, .int .u64 (IntKind.u64.wrap (Int.tdiv (IntKind.u64.wrap ((IntKind.u64.wrap (7 * a0_2)) + ji5)) 8)), .int .u64 0, .bool false]) ?_ 3 _ rfl; (with_reducible repeat (first | refine blk_drewN ?_ _ | refine blk_drew ?_ | refine blk_alloc ?_ _)); refine blk_put (cs := #[.int .u64 ji5, .int .u64 ji7, .int .u64 0, .int .u64 0, .bool false]) ?_ 2 _ rfl; (with_reducible repeat (first | refine blk_drewN ?_ _ | refine blk_drew ?_ | refine blk_alloc ?_ _)); refine blk_put (cs := #[.int .u64 ji5, .int .u64 0, .int .u64 0, .int .u64 0, .bool false]) ?_ 1 _ rfl; (with_reducible repeat (first | refine blk_drewN ?_ _ | refine blk_drew ?_ | refine blk_alloc ?_ _)); refine blk_put (cs := #[.int .u64 0, .int .u64 0, .int .u64 0, .int .u64 0, .bool false]) ?_ 0 _ rfl; (with_reducible repeat (first | refine blk_drewN ?_ _ | refine blk_drew ?_ | refine blk_alloc ?_ _)); refine blk_far ?_ NB103_102.out _; (with_reducible repeat (first | refine blk_drewN ?_ _ | refine blk_drew ?_ | refine blk_alloc ?_ _)); refine blk_far ?_ NB103_102.out _; (with_reducible repeat (first | refine blk_drewN ?_ _ | refine blk_drew ?_ | refine blk_alloc ?_ _)); exact BK103.out) Try.underlying26 rfl (by kernel_rfl)) rfl ?_
            exact ⟨by first | rfl | (simp [errW_none, errW_some] <;> rfl) | (simp only [← hji5, ← hji7, ← hji8]; first | rfl | (simp [errW_none, errW_some] <;> rfl)) | (simp [*, errW_none, errW_some] <;> rfl), by repeat (first | (with_reducible first | exact HB.out | apply below_alloc | apply pw_below_drewN | apply below_drew1 | refine below_set ?_ GE102.out | refine below_set ?_ GE103.out) | exact HB.out)⟩
          · rw [if_neg c25] at H
            have c25b0 : decide (a0_2 < ji5) = false := decide_eq_false c25
            clear c25
            simp only [Option.some.injEq, Prod.mk.injEq] at H
            obtain ⟨rfl, rfl, rfl, rfl, rfl⟩ := H
            have hnb29 := NB102_103.out
            have hnc29 := NB103_102.out
            have hcz30_0 : wc.cell? ⟨gb102, 0, none⟩ = some (.int .u64 ji5) := (blk_cell BK102.out 0).trans rfl
            have hcz30_1 : wc.cell? ⟨gb102, 1, none⟩ = some (.int .u64 ji7) := (blk_cell BK102.out 1).trans rfl
            have hcz30_2 : wc.cell? ⟨gb102, 2, none⟩ = some (.int .u64 a0_2) := (blk_cell BK102.out 2).trans rfl
            have hcz30_3 : wc.cell? ⟨gb102, 3, none⟩ = some (.int .u64 a0_3) := (blk_cell BK102.out 3).trans rfl
            have hcz30_4 : wc.cell? ⟨gb102, 4, none⟩ = some (.bool true) := (blk_cell BK102.out 4).trans rfl
            have hfz30_0 := blk_frozen BK102.out 0
            have hfz30_1 := blk_frozen BK102.out 1
            have hfz30_2 := blk_frozen BK102.out 2
            have hfz30_3 := blk_frozen BK102.out 3
            have hfz30_4 := blk_frozen BK102.out 4
            have hcz31_0 : wc.cell? ⟨gb103, 0, none⟩ = some (.int .u64 0) := (blk_cell BK103.out 0).trans rfl
            have hcz31_1 : wc.cell? ⟨gb103, 1, none⟩ = some (.int .u64 0) := (blk_cell BK103.out 1).trans rfl
            have hcz31_2 : wc.cell? ⟨gb103, 2, none⟩ = some (.int .u64 0) := (blk_cell BK103.out 2).trans rfl
            have hcz31_3 : wc.cell? ⟨gb103, 3, none⟩ = some (.int .u64 0) := (blk_cell BK103.out 3).trans rfl
            have hcz31_4 : wc.cell? ⟨gb103, 4, none⟩ = some (.bool false) := (blk_cell BK103.out 4).trans rfl
            have hfz31_0 := blk_frozen BK103.out 0
            have hfz31_1 := blk_frozen BK103.out 1
            have hfz31_2 := blk_frozen BK103.out 2
            have hfz31_3 := blk_frozen BK103.out 3
            have hfz31_4 := blk_frozen BK103.out 4
            go_wp2
            refine bodyPost_ret (results_cell_row rfl _ _ gb103 26 #[.int .u64 ji5, .int .u64 ji7, .int .u64 (IntKind.u64.wrap (Int.tdiv (IntKind.u64.wrap ((IntKind.u64.wrap (7 * a0_2)) + ji5)) 8)), .int .u64 (IntKind.u64.wrap (Int.tdiv (IntKind.u64.wrap ((IntKind.u64.wrap (3 * a0_3)) + (IntKind.u64.wrap (a0_2 - ji5)))) 4)), .bool true] (0, 0) _ rfl (by (with_reducible repeat (first | refine blk_drewN ?_ _ | refine blk_drew ?_ | refine blk_alloc ?_ _)); refine blk_put (cs := #[.int .u64 ji5, .int .u64 ji7, .int .u64 (IntKind.u64.wrap (Int.tdiv (IntKind.u64.wrap ((IntKind.u64.wrap (7 * a0_2)) + ji5)) 8)), .int .u64 (IntKind.u64.wrap (Int.tdiv (IntKind.u64.wrap ((IntKind.u64.wrap (3 * a0_3)) + (IntKind.u64.wrap (a0_2 - ji5)))) 4)), .bool false]) ?_ 4 _ rfl; (with_reducible repeat (first | refine blk_drewN ?_ _ | refine blk_drew ?_ | refine blk_alloc ?_ _)); refine blk_put (cs := #[.int .u64 ji5, .int .u64 ji7, .int .u64 (IntKind.u64.wrap (Int.tdiv (IntKind.u64.wrap ((IntKind.u64.wrap (7 * a0_2)) + ji5)) 8)), .int .u64 0, .bool false]) ?_ 3 _ rfl; (with_reducible repeat (first | refine blk_drewN ?_ _ | refine blk_drew ?_ | refine blk_alloc ?_ _)); refine blk_put (cs := #[.int .u64 ji5, .int .u64 ji7, .int .u64 0, .int .u64 0, .bool false]) ?_ 2 _ rfl; (with_reducible repeat (first | refine blk_drewN ?_ _ | refine blk_drew ?_ | refine blk_alloc ?_ _)); refine blk_put (cs := #[.int .u64 ji5, .int .u64 0, .int .u64 0, .int .u64 0, .bool false]) ?_ 1 _ rfl; (with_reducible repeat (first | refine blk_drewN ?_ _ | refine blk_drew ?_ | refine blk_alloc ?_ _)); refine blk_put (cs := #[.int .u64 0, .int .u64 0, .int .u64 0, .int .u64 0, .bool false]) ?_ 0 _ rfl; (with_reducible repeat (first | refine blk_drewN ?_ _ | refine blk_drew ?_ | refine blk_alloc ?_ _)); refine blk_far ?_ NB103_102.out _; (with_reducible repeat (first | refine blk_drewN ?_ _ | refine blk_drew ?_ | refine blk_alloc ?_ _)); refine blk_far ?_ NB103_102.out _; (with_reducible repeat (first | refine blk_drewN ?_ _ | refine blk_drew ?_ | refine blk_alloc ?_ _)); exact BK103.out) Try.underlying26 rfl (by kernel_rfl)) rfl ?_
            exact ⟨by first | rfl | (simp [errW_none, errW_some] <;> rfl) | (simp only [← hji5, ← hji7, ← hji8]; first | rfl | (simp [errW_none, errW_some] <;> rfl)) | (simp [*, errW_none, errW_some] <;> rfl), by repeat (first | (with_reducible first | exact HB.out | apply below_alloc | apply pw_below_drewN | apply below_drew1 | refine below_set ?_ GE102.out | refine below_set ?_ GE103.out) | exact HB.out)⟩
  · replace c6 := Bool.eq_false_iff.mpr c6
    subst c6
    have H1 : (some (ji5, ji5, ji5, IntKind.u64.wrap (Int.tdiv (ji5) 2), true)) = some (r1, r2, r3, r4, r5) := by rw [if_neg (show ¬ (false = true) by decide)] at H; exact H
    clear H
    have H := H1
    clear H1
    simp only [Option.some.injEq, Prod.mk.injEq] at H
    obtain ⟨rfl, rfl, rfl, rfl, rfl⟩ := H
    go_enter Try.func15, Try.ntmps15
    go_wp2_with (first | ((with_reducible refine gate_dst (N := 4) rfl ?_); refine box_event ?hg (N := 4) ?hd (cs := #[.int .u64 a0_0, .int .u64 a0_1, .int .u64 a0_2, .int .u64 a0_3, .bool false]) (t := 26) ?hr ?_; (case hd => rfl); (case hg => rfl); (case hr => first | (go_simp; done) | (go_simp; rfl)); intro gb102 hg w32 hbox hb; have n0_ := Aside0.mk (below_step (by repeat (first | (with_reducible first | exact HB.out | apply below_alloc | apply pw_below_drewN | apply below_drew1) | exact HB.out)) hb); have n1_ := Aside0.mk (hbox); have n2_ := Aside0.mk ((by rw [hg]; exact (below_size (by repeat (first | (with_reducible first | exact HB.out | apply below_alloc | apply pw_below_drewN | apply below_drew1) | exact HB.out))) : w.heap.size ≤ gb102)); have n3_ := Aside0.mk ((by rw [hg]; exact (below_size (by repeat (first | (with_reducible first | exact HB.out | apply below_alloc | apply pw_below_drewN | apply below_drew1) | exact HB.out))) : w.heap.size ≤ gb102)); clear HB; have HB := n0_; have BK102 := n1_; have GW102 := n2_; have GE102 := n3_; clear n0_ n1_ n2_ n3_; clear hb hbox hg) | ((with_reducible refine gate_dst (N := 8) rfl ?_); refine box_event ?hg (N := 8) ?hd (cs := #[.int .u64 0, .int .u64 0, .int .u64 0, .int .u64 0, .bool false]) (t := 26) ?hr ?_; (case hd => rfl); (case hg => rfl); (case hr => first | (go_simp; done) | (go_simp; rfl)); intro gb103 hg w33 hbox hb; have n0_ := Aside0.mk (blk_below (g := gb102) (o := .cells #[.int .u64 a0_0, .int .u64 a0_1, .int .u64 a0_2, .int .u64 a0_3, .bool false] 26 (0, 0)) (by (with_reducible repeat (first | refine blk_drewN ?_ _ | refine blk_drew ?_ | refine blk_alloc ?_ _)); exact BK102.out) hb); have n1_ := Aside0.mk (below_step (by repeat (first | (with_reducible first | exact HB.out | apply below_alloc | apply pw_below_drewN | apply below_drew1 | refine below_set ?_ GE102.out) | exact HB.out)) hb); have n2_ := Aside0.mk (hbox); have n3_ := Aside0.mk ((by rw [hg]; exact (below_size (by repeat (first | (with_reducible first | exact HB.out | apply below_alloc | apply pw_below_drewN | apply below_drew1 | refine below_set ?_ GE102.out) | exact HB.out))) : w.heap.size ≤ gb103)); have n4_ := Aside0.mk ((by rw [hg]; exact (below_size (by repeat (first | (with_reducible first | exact HB.out | apply below_alloc | apply pw_below_drewN | apply below_drew1 | refine below_set ?_ GE102.out) | exact HB.out))) : w.heap.size ≤ gb103)); have n5_ := Aside0.mk ((by rw [hg]; exact Nat.ne_of_lt (blk_lt (g := gb102) (o := .cells #[.int .u64 a0_0, .int .u64 a0_1, .int .u64 a0_2, .int .u64 a0_3, .bool false] 26 (0, 0)) (by (with_reducible repeat (first | refine blk_drewN ?_ _ | refine blk_drew ?_ | refine blk_alloc ?_ _)); exact BK102.out)) : gb102 ≠ gb103)); have n6_ := Aside0.mk ((by rw [hg]; exact Nat.ne_of_gt (blk_lt (g := gb102) (o := .cells #[.int .u64 a0_0, .int .u64 a0_1, .int .u64 a0_2, .int .u64 a0_3, .bool false] 26 (0, 0)) (by (with_reducible repeat (first | refine blk_drewN ?_ _ | refine blk_drew ?_ | refine blk_alloc ?_ _)); exact BK102.out)) : gb103 ≠ gb102)); clear BK102; clear HB; have BK102 := n0_; have HB := n1_; have BK103 := n2_; have GW103 := n3_; have GE103 := n4_; have NB102_103 := n5_; have NB103_102 := n6_; clear n0_ n1_ n2_ n3_ n4_ n5_ n6_; clear hb hbox hg; have hnb34 := NB102_103.out; have hnc34 := NB103_102.out; have hcz35_0 : w33.cell? ⟨gb102, 0, none⟩ = some (.int .u64 a0_0) := (blk_cell BK102.out 0).trans rfl; have hcz35_1 : w33.cell? ⟨gb102, 1, none⟩ = some (.int .u64 a0_1) := (blk_cell BK102.out 1).trans rfl; have hcz35_2 : w33.cell? ⟨gb102, 2, none⟩ = some (.int .u64 a0_2) := (blk_cell BK102.out 2).trans rfl; have hcz35_3 : w33.cell? ⟨gb102, 3, none⟩ = some (.int .u64 a0_3) := (blk_cell BK102.out 3).trans rfl; have hcz35_4 : w33.cell? ⟨gb102, 4, none⟩ = some (.bool false) := (blk_cell BK102.out 4).trans rfl; have hfz35_0 := blk_frozen BK102.out 0; have hfz35_1 := blk_frozen BK102.out 1; have hfz35_2 := blk_frozen BK102.out 2; have hfz35_3 := blk_frozen BK102.out 3; have hfz35_4 := blk_frozen BK102.out 4; have hcz36_0 : w33.cell? ⟨gb103, 0, none⟩ = some (.int .u64 0) := (blk_cell BK103.out 0).trans rfl; have hcz36_1 : w33.cell? ⟨gb103, 1, none⟩ = some (.int .u64 0) := (blk_cell BK103.out 1).trans rfl; have hcz36_2 : w33.cell? ⟨gb103, 2, none⟩ = some (.int .u64 0) := (blk_cell BK103.out 2).trans rfl; have hcz36_3 : w33.cell? ⟨gb103, 3, none⟩ = some (.int .u64 0) := (blk_cell BK103.out 3).trans rfl; have hcz36_4 : w33.cell? ⟨gb103, 4, none⟩ = some (.bool false) := (blk_cell BK103.out 4).trans rfl; have hfz36_0 := blk_frozen BK103.out 0; have hfz36_1 := blk_frozen BK103.out 1; have hfz36_2 := blk_frozen BK103.out 2; have hfz36_3 := blk_frozen BK103.out 3; have hfz36_4 := blk_frozen BK103.out 4))
    refine bodyPost_ret (results_cell_row rfl _ _ gb103 26 #[.int .u64 ji5, .int .u64 ji5, .int .u64 ji5, .int .u64 (IntKind.u64.wrap (Int.tdiv (ji5) 2)), .bool true] (0, 0) _ rfl (by (with_reducible repeat (first | refine blk_drewN ?_ _ | refine blk_drew ?_ | refine blk_alloc ?_ _)); refine blk_put (cs := #[.int .u64 ji5, .int .u64 ji5, .int .u64 ji5, .int .u64 (IntKind.u64.wrap (Int.tdiv (ji5) 2)), .bool false]) ?_ 4 _ rfl; (with_reducible repeat (first | refine blk_drewN ?_ _ | refine blk_drew ?_ | refine blk_alloc ?_ _)); refine blk_put (cs := #[.int .u64 ji5, .int .u64 ji5, .int .u64 ji5, .int .u64 0, .bool false]) ?_ 3 _ rfl; (with_reducible repeat (first | refine blk_drewN ?_ _ | refine blk_drew ?_ | refine blk_alloc ?_ _)); refine blk_put (cs := #[.int .u64 ji5, .int .u64 ji5, .int .u64 0, .int .u64 0, .bool false]) ?_ 2 _ rfl; (with_reducible repeat (first | refine blk_drewN ?_ _ | refine blk_drew ?_ | refine blk_alloc ?_ _)); refine blk_put (cs := #[.int .u64 ji5, .int .u64 0, .int .u64 0, .int .u64 0, .bool false]) ?_ 1 _ rfl; (with_reducible repeat (first | refine blk_drewN ?_ _ | refine blk_drew ?_ | refine blk_alloc ?_ _)); refine blk_put (cs := #[.int .u64 0, .int .u64 0, .int .u64 0, .int .u64 0, .bool false]) ?_ 0 _ rfl; (with_reducible repeat (first | refine blk_drewN ?_ _ | refine blk_drew ?_ | refine blk_alloc ?_ _)); exact BK103.out) Try.underlying26 rfl (by kernel_rfl)) rfl ?_
    exact ⟨by first | rfl | (simp [errW_none, errW_some] <;> rfl) | (simp only [← hji5]; first | rfl | (simp [errW_none, errW_some] <;> rfl)) | (simp [*, errW_none, errW_some] <;> rfl), by repeat (first | (with_reducible first | exact HB.out | apply below_alloc | apply pw_below_drewN | apply below_drew1 | refine below_set ?_ GE102.out | refine below_set ?_ GE103.out) | exact HB.out)⟩

/-! ### binnaclelaw17_Awake: function 13 -/
def binnaclelaw17_Awake.f (k : Nat)  : Option (Bool) := (rtt_New.f).bind fun bt104 => ((rtt_Rtt_Measure.f k bt104.1 bt104.2.1 bt104.2.2.1 bt104.2.2.2.1 bt104.2.2.2.2 800 0 0).bind fun bt109 => (if bt109.2.2.1 = 800 then (if bt109.2.2.2.1 = 400 then (some bt109.2.2.2.2) else (some false)) else (some false)))
theorem binnaclelaw17_Awake.mono : ∀ k, LeO (binnaclelaw17_Awake.f k ) (binnaclelaw17_Awake.f (k + 1) ) := by
  intro  k
  unfold binnaclelaw17_Awake.f
  repeat' first
      | (with_reducible exact rtt_Rtt_Measure.mono _ _ _ _ _ _ _ _ _)
      | (with_reducible exact LeO.refl _)
      | (with_reducible exact LeO.none _)
      | (with_reducible refine LeO.ite ?_ ?_)
      | (with_reducible refine LeO.bind ?_ (fun _ => ?_))
      | exact rtt_Rtt_Measure.mono _ _ _ _ _ _ _ _ _
      | exact LeO.none _
      | refine LeO.ite ?_ ?_
      | refine LeO.bind ?_ (fun _ => ?_)
set_option maxHeartbeats 8000000 in
set_option maxRecDepth 100000 in
theorem binnaclelaw17_Awake.calls (k : Nat)  (r : Bool) (w : World) (h : binnaclelaw17_Awake.f k  = some r) :
    Calls Try.prog 13 #[] w fun e w' => e = .returned (.bool r) ∧ Below w.heap.size w w' := by
  have hu26 := Try.underlying26
  have HB := Aside0.mk (Below.refl w.heap.size w)
  have H : ((rtt_New.f).bind fun bt104 => ((rtt_Rtt_Measure.f k bt104.1 bt104.2.1 bt104.2.2.1 bt104.2.2.2.1 bt104.2.2.2.2 800 0 0).bind fun bt109 => (if bt109.2.2.1 = 800 then (if bt109.2.2.2.1 = 400 then (some bt109.2.2.2.2) else (some false)) else (some false)))) = some r := h
  clear h
  replace H := Option.bind_eq_some_iff.mp H
  obtain ⟨⟨t104, t105, t106, t107, t108⟩, A10, H⟩ := H
  replace H : ((rtt_Rtt_Measure.f k t104 t105 t106 t107 t108 800 0 0).bind fun bt109 => (if bt109.2.2.1 = 800 then (if bt109.2.2.2.1 = 400 then (some bt109.2.2.2.2) else (some false)) else (some false))) = some r := H
  have A1 := Aside0.mk A10
  clear A10
  replace H := Option.bind_eq_some_iff.mp H
  obtain ⟨⟨t109, t110, t111, t112, t113⟩, A20, H⟩ := H
  replace H : (if t111 = 800 then (if t112 = 400 then (some t113) else (some false)) else (some false)) = some r := H
  have A2 := Aside0.mk A20
  clear A20
  by_cases c3 : t111 = 800
  · rw [if_pos c3] at H
    have c3b0 : (t111 == 800) = true := beq_iff_eq.mpr c3
    have c3b1 : (t111 != 800) = false := bne_eq_false_iff_eq.mpr c3
    clear c3
    by_cases c4 : t112 = 400
    · rw [if_pos c4] at H
      have c4b0 : (t112 == 400) = true := beq_iff_eq.mpr c4
      have c4b1 : (t112 != 400) = false := bne_eq_false_iff_eq.mpr c4
      clear c4
      obtain rfl := Option.some.inj H
      go_enter Try.func13, Try.ntmps13
      go_wp2_with (first | ((with_reducible refine gate_callee (f := 14) rfl ?_); refine goesL_ (some 2) rfl rfl Try.func14 (by kernel_rfl) rfl #[] rfl (by (try simp only [List.map_toArray, List.map_cons, List.map_nil]); first | done | rfl | (simp only [List.length_drop, List.length_take]; rfl)) ?_; (with_reducible refine (rtt_New.calls  t104 t105 t106 t107 t108 _ A1.out).mono ?_); rintro e w5 ⟨rfl, hb⟩; refine ⟨_, rfl, ?_⟩; have n0_ := Aside0.mk (below_step (by repeat (first | (with_reducible first | exact HB.out | apply below_alloc | apply pw_below_drewN | apply below_drew1) | exact HB.out)) hb); clear HB; have HB := n0_; clear n0_; (try clear hb); (try clear hb2); (try clear hk); (try clear hi)) | ((with_reducible refine gate_callee (f := 15) rfl ?_); refine goesL_ (some 3) rfl rfl Try.func15 (by kernel_rfl) rfl #[.agg #[.int .u64 t104, .int .u64 t105, .int .u64 t106, .int .u64 t107, .bool t108], .int .u64 800, .int .u64 0, .int .u64 0] rfl (by (try simp only [List.map_toArray, List.map_cons, List.map_nil]); first | done | rfl | (simp only [List.length_drop, List.length_take]; rfl)) ?_; (with_reducible refine (rtt_Rtt_Measure.calls k t104 t105 t106 t107 t108 800 0 0 t109 t110 t111 t112 t113 _ A2.out).mono ?_); rintro e w6 ⟨rfl, hb⟩; refine ⟨_, rfl, ?_⟩; have n0_ := Aside0.mk (below_step (by repeat (first | (with_reducible first | exact HB.out | apply below_alloc | apply pw_below_drewN | apply below_drew1) | exact HB.out)) hb); clear HB; have HB := n0_; clear n0_; (try clear hb); (try clear hb2); (try clear hk); (try clear hi)) | ((with_reducible refine gate_dst (N := 1) rfl ?_); refine box_event ?hg (N := 1) ?hd (cs := #[.int .u64 0, .int .u64 0, .int .u64 0, .int .u64 0, .bool false]) (t := 26) ?hr ?_; (case hd => rfl); (case hg => rfl); (case hr => first | (go_simp; done) | (go_simp; rfl)); intro gb114 hg w7 hbox hb; have n0_ := Aside0.mk (below_step (by repeat (first | (with_reducible first | exact HB.out | apply below_alloc | apply pw_below_drewN | apply below_drew1) | exact HB.out)) hb); have n1_ := Aside0.mk (hbox); have n2_ := Aside0.mk ((by rw [hg]; exact (below_size (by repeat (first | (with_reducible first | exact HB.out | apply below_alloc | apply pw_below_drewN | apply below_drew1) | exact HB.out))) : w.heap.size ≤ gb114)); have n3_ := Aside0.mk ((by rw [hg]; exact (below_size (by repeat (first | (with_reducible first | exact HB.out | apply below_alloc | apply pw_below_drewN | apply below_drew1) | exact HB.out))) : w.heap.size ≤ gb114)); clear HB; have HB := n0_; have BK114 := n1_; have GW114 := n2_; have GE114 := n3_; clear n0_ n1_ n2_ n3_; clear hb hbox hg; have hcz8_0 : w7.cell? ⟨gb114, 0, none⟩ = some (.int .u64 0) := (blk_cell BK114.out 0).trans rfl; have hcz8_1 : w7.cell? ⟨gb114, 1, none⟩ = some (.int .u64 0) := (blk_cell BK114.out 1).trans rfl; have hcz8_2 : w7.cell? ⟨gb114, 2, none⟩ = some (.int .u64 0) := (blk_cell BK114.out 2).trans rfl; have hcz8_3 : w7.cell? ⟨gb114, 3, none⟩ = some (.int .u64 0) := (blk_cell BK114.out 3).trans rfl; have hcz8_4 : w7.cell? ⟨gb114, 4, none⟩ = some (.bool false) := (blk_cell BK114.out 4).trans rfl; have hfz8_0 := blk_frozen BK114.out 0; have hfz8_1 := blk_frozen BK114.out 1; have hfz8_2 := blk_frozen BK114.out 2; have hfz8_3 := blk_frozen BK114.out 3; have hfz8_4 := blk_frozen BK114.out 4))
      go_ret
      exact ⟨by first | rfl | (simp [errW_none, errW_some] <;> rfl) | (simp [*, errW_none, errW_some] <;> rfl), by repeat (first | (with_reducible first | exact HB.out | apply below_alloc | apply pw_below_drewN | apply below_drew1 | refine below_set ?_ GE114.out) | exact HB.out)⟩
    · rw [if_neg c4] at H
      have c4b0 : (t112 == 400) = false := beq_eq_false_iff_ne.mpr c4
      have c4b1 : (t112 != 400) = true := bne_iff_ne.mpr c4
      obtain rfl := Option.some.inj H
      go_enter Try.func13, Try.ntmps13
      go_wp2_with (first | ((with_reducible refine gate_callee (f := 14) rfl ?_); refine goesL_ (some 2) rfl rfl Try.func14 (by kernel_rfl) rfl #[] rfl (by (try simp only [List.map_toArray, List.map_cons, List.map_nil]); first | done | rfl | (simp only [List.length_drop, List.length_take]; rfl)) ?_; (with_reducible refine (rtt_New.calls  t104 t105 t106 t107 t108 _ A1.out).mono ?_); rintro e w9 ⟨rfl, hb⟩; refine ⟨_, rfl, ?_⟩; have n0_ := Aside0.mk (below_step (by repeat (first | (with_reducible first | exact HB.out | apply below_alloc | apply pw_below_drewN | apply below_drew1) | exact HB.out)) hb); clear HB; have HB := n0_; clear n0_; (try clear hb); (try clear hb2); (try clear hk); (try clear hi)) | ((with_reducible refine gate_callee (f := 15) rfl ?_); refine goesL_ (some 3) rfl rfl Try.func15 (by kernel_rfl) rfl #[.agg #[.int .u64 t104, .int .u64 t105, .int .u64 t106, .int .u64 t107, .bool t108], .int .u64 800, .int .u64 0, .int .u64 0] rfl (by (try simp only [List.map_toArray, List.map_cons, List.map_nil]); first | done | rfl | (simp only [List.length_drop, List.length_take]; rfl)) ?_; (with_reducible refine (rtt_Rtt_Measure.calls k t104 t105 t106 t107 t108 800 0 0 t109 t110 t111 t112 t113 _ A2.out).mono ?_); rintro e w10 ⟨rfl, hb⟩; refine ⟨_, rfl, ?_⟩; have n0_ := Aside0.mk (below_step (by repeat (first | (with_reducible first | exact HB.out | apply below_alloc | apply pw_below_drewN | apply below_drew1) | exact HB.out)) hb); clear HB; have HB := n0_; clear n0_; (try clear hb); (try clear hb2); (try clear hk); (try clear hi)) | ((with_reducible refine gate_dst (N := 1) rfl ?_); refine box_event ?hg (N := 1) ?hd (cs := #[.int .u64 0, .int .u64 0, .int .u64 0, .int .u64 0, .bool false]) (t := 26) ?hr ?_; (case hd => rfl); (case hg => rfl); (case hr => first | (go_simp; done) | (go_simp; rfl)); intro gb114 hg w11 hbox hb; have n0_ := Aside0.mk (below_step (by repeat (first | (with_reducible first | exact HB.out | apply below_alloc | apply pw_below_drewN | apply below_drew1) | exact HB.out)) hb); have n1_ := Aside0.mk (hbox); have n2_ := Aside0.mk ((by rw [hg]; exact (below_size (by repeat (first | (with_reducible first | exact HB.out | apply below_alloc | apply pw_below_drewN | apply below_drew1) | exact HB.out))) : w.heap.size ≤ gb114)); have n3_ := Aside0.mk ((by rw [hg]; exact (below_size (by repeat (first | (with_reducible first | exact HB.out | apply below_alloc | apply pw_below_drewN | apply below_drew1) | exact HB.out))) : w.heap.size ≤ gb114)); clear HB; have HB := n0_; have BK114 := n1_; have GW114 := n2_; have GE114 := n3_; clear n0_ n1_ n2_ n3_; clear hb hbox hg; have hcz12_0 : w11.cell? ⟨gb114, 0, none⟩ = some (.int .u64 0) := (blk_cell BK114.out 0).trans rfl; have hcz12_1 : w11.cell? ⟨gb114, 1, none⟩ = some (.int .u64 0) := (blk_cell BK114.out 1).trans rfl; have hcz12_2 : w11.cell? ⟨gb114, 2, none⟩ = some (.int .u64 0) := (blk_cell BK114.out 2).trans rfl; have hcz12_3 : w11.cell? ⟨gb114, 3, none⟩ = some (.int .u64 0) := (blk_cell BK114.out 3).trans rfl; have hcz12_4 : w11.cell? ⟨gb114, 4, none⟩ = some (.bool false) := (blk_cell BK114.out 4).trans rfl; have hfz12_0 := blk_frozen BK114.out 0; have hfz12_1 := blk_frozen BK114.out 1; have hfz12_2 := blk_frozen BK114.out 2; have hfz12_3 := blk_frozen BK114.out 3; have hfz12_4 := blk_frozen BK114.out 4))
      go_ret
      exact ⟨by first | rfl | (simp [errW_none, errW_some] <;> rfl) | (simp [*, errW_none, errW_some] <;> rfl), by repeat (first | (with_reducible first | exact HB.out | apply below_alloc | apply pw_below_drewN | apply below_drew1 | refine below_set ?_ GE114.out) | exact HB.out)⟩
  · rw [if_neg c3] at H
    have c3b0 : (t111 == 800) = false := beq_eq_false_iff_ne.mpr c3
    have c3b1 : (t111 != 800) = true := bne_iff_ne.mpr c3
    obtain rfl := Option.some.inj H
    go_enter Try.func13, Try.ntmps13
    go_wp2_with (first | ((with_reducible refine gate_callee (f := 14) rfl ?_); refine goesL_ (some 2) rfl rfl Try.func14 (by kernel_rfl) rfl #[] rfl (by (try simp only [List.map_toArray, List.map_cons, List.map_nil]); first | done | rfl | (simp only [List.length_drop, List.length_take]; rfl)) ?_; (with_reducible refine (rtt_New.calls  t104 t105 t106 t107 t108 _ A1.out).mono ?_); rintro e w13 ⟨rfl, hb⟩; refine ⟨_, rfl, ?_⟩; have n0_ := Aside0.mk (below_step (by repeat (first | (with_reducible first | exact HB.out | apply below_alloc | apply pw_below_drewN | apply below_drew1) | exact HB.out)) hb); clear HB; have HB := n0_; clear n0_; (try clear hb); (try clear hb2); (try clear hk); (try clear hi)) | ((with_reducible refine gate_callee (f := 15) rfl ?_); refine goesL_ (some 3) rfl rfl Try.func15 (by kernel_rfl) rfl #[.agg #[.int .u64 t104, .int .u64 t105, .int .u64 t106, .int .u64 t107, .bool t108], .int .u64 800, .int .u64 0, .int .u64 0] rfl (by (try simp only [List.map_toArray, List.map_cons, List.map_nil]); first | done | rfl | (simp only [List.length_drop, List.length_take]; rfl)) ?_; (with_reducible refine (rtt_Rtt_Measure.calls k t104 t105 t106 t107 t108 800 0 0 t109 t110 t111 t112 t113 _ A2.out).mono ?_); rintro e w14 ⟨rfl, hb⟩; refine ⟨_, rfl, ?_⟩; have n0_ := Aside0.mk (below_step (by repeat (first | (with_reducible first | exact HB.out | apply below_alloc | apply pw_below_drewN | apply below_drew1) | exact HB.out)) hb); clear HB; have HB := n0_; clear n0_; (try clear hb); (try clear hb2); (try clear hk); (try clear hi)) | ((with_reducible refine gate_dst (N := 1) rfl ?_); refine box_event ?hg (N := 1) ?hd (cs := #[.int .u64 0, .int .u64 0, .int .u64 0, .int .u64 0, .bool false]) (t := 26) ?hr ?_; (case hd => rfl); (case hg => rfl); (case hr => first | (go_simp; done) | (go_simp; rfl)); intro gb114 hg w15 hbox hb; have n0_ := Aside0.mk (below_step (by repeat (first | (with_reducible first | exact HB.out | apply below_alloc | apply pw_below_drewN | apply below_drew1) | exact HB.out)) hb); have n1_ := Aside0.mk (hbox); have n2_ := Aside0.mk ((by rw [hg]; exact (below_size (by repeat (first | (with_reducible first | exact HB.out | apply below_alloc | apply pw_below_drewN | apply below_drew1) | exact HB.out))) : w.heap.size ≤ gb114)); have n3_ := Aside0.mk ((by rw [hg]; exact (below_size (by repeat (first | (with_reducible first | exact HB.out | apply below_alloc | apply pw_below_drewN | apply below_drew1) | exact HB.out))) : w.heap.size ≤ gb114)); clear HB; have HB := n0_; have BK114 := n1_; have GW114 := n2_; have GE114 := n3_; clear n0_ n1_ n2_ n3_; clear hb hbox hg; have hcz16_0 : w15.cell? ⟨gb114, 0, none⟩ = some (.int .u64 0) := (blk_cell BK114.out 0).trans rfl; have hcz16_1 : w15.cell? ⟨gb114, 1, none⟩ = some (.int .u64 0) := (blk_cell BK114.out 1).trans rfl; have hcz16_2 : w15.cell? ⟨gb114, 2, none⟩ = some (.int .u64 0) := (blk_cell BK114.out 2).trans rfl; have hcz16_3 : w15.cell? ⟨gb114, 3, none⟩ = some (.int .u64 0) := (blk_cell BK114.out 3).trans rfl; have hcz16_4 : w15.cell? ⟨gb114, 4, none⟩ = some (.bool false) := (blk_cell BK114.out 4).trans rfl; have hfz16_0 := blk_frozen BK114.out 0; have hfz16_1 := blk_frozen BK114.out 1; have hfz16_2 := blk_frozen BK114.out 2; have hfz16_3 := blk_frozen BK114.out 3; have hfz16_4 := blk_frozen BK114.out 4))
    go_ret
    exact ⟨by first | rfl | (simp [errW_none, errW_some] <;> rfl) | (simp [*, errW_none, errW_some] <;> rfl), by repeat (first | (with_reducible first | exact HB.out | apply below_alloc | apply pw_below_drewN | apply below_drew1 | refine below_set ?_ GE114.out) | exact HB.out)⟩

/-! ### rtt_Rtt_Probe: function 24 -/
def rtt_Rtt_Probe.f (a0_0 : Int) (a0_1 : Int) (a0_2 : Int) (a0_3 : Int) (a0_4 : Bool) (a1 : Int) : Option (Int) := some (IntKind.u64.wrap ((IntKind.u64.wrap (a0_2 + (mx (IntKind.u64.wrap (4 * a0_3)) 1000))) + (mn a1 1125899906842624)))
set_option maxHeartbeats 8000000 in
set_option maxRecDepth 100000 in
theorem rtt_Rtt_Probe.calls (a0_0 : Int) (a0_1 : Int) (a0_2 : Int) (a0_3 : Int) (a0_4 : Bool) (a1 : Int) (r : Int) (w : World) (h : rtt_Rtt_Probe.f a0_0 a0_1 a0_2 a0_3 a0_4 a1 = some r) :
    Calls Try.prog 24 #[.agg #[.int .u64 a0_0, .int .u64 a0_1, .int .u64 a0_2, .int .u64 a0_3, .bool a0_4], .int .u64 a1] w fun e w' => e = .returned (.int .u64 r) ∧ Below w.heap.size w w' := by
  have hu26 := Try.underlying26
  have HB := Aside0.mk (Below.refl w.heap.size w)
  have H : (some (IntKind.u64.wrap ((IntKind.u64.wrap (a0_2 + (mx (IntKind.u64.wrap (4 * a0_3)) 1000))) + (mn a1 1125899906842624)))) = some r := h
  clear h
  obtain ⟨ji3, hji3⟩ : ∃ j_ : Int, (mx (IntKind.u64.wrap (4 * a0_3)) 1000) = j_ := ⟨_, rfl⟩
  replace H : (some (IntKind.u64.wrap ((IntKind.u64.wrap (a0_2 + (ji3))) + (mn a1 1125899906842624)))) = some r := by first | (rw [hji3] at H; exact H) | (simp only [hji3] at H ⊢; exact H)
  (try (have hji3l : 1000 ≤ ji3 := by (rw [← hji3]; unfold mx; (repeat' split) <;> omega)))
  (try (have hji3m : 0 ≤ ji3 := by omega))
  have hji3_ : (if (IntKind.u64.wrap (4 * a0_3)) < 1000 then 1000 else (IntKind.u64.wrap (4 * a0_3))) = ji3 := hji3
  obtain ⟨ji4, hji4⟩ : ∃ j_ : Int, (mn a1 1125899906842624) = j_ := ⟨_, rfl⟩
  replace H : (some (IntKind.u64.wrap ((IntKind.u64.wrap (a0_2 + (ji3))) + (ji4)))) = some r := by first | (rw [hji4] at H; exact H) | (simp only [hji4] at H ⊢; exact H)
  (try (have hji4h : ji4 ≤ 1125899906842624 := by (rw [← hji4]; unfold mn; (repeat' split) <;> omega)))
  (try (have hji4g : ji4 ≤ 64 := by omega))
  have hji4_ : (if 1125899906842624 < a1 then 1125899906842624 else a1) = ji4 := hji4
  obtain rfl := Option.some.inj H
  go_enter Try.func24, Try.ntmps24
  go_wp2_with (first | ((with_reducible refine gate_dst (N := 2) rfl ?_); refine box_event ?hg (N := 2) ?hd (cs := #[.int .u64 a0_0, .int .u64 a0_1, .int .u64 a0_2, .int .u64 a0_3, .bool a0_4]) (t := 26) ?hr ?_; (case hd => rfl); (case hg => rfl); (case hr => first | (go_simp; done) | (go_simp; rfl)); intro gb115 hg w5 hbox hb; have n0_ := Aside0.mk (below_step (by repeat (first | (with_reducible first | exact HB.out | apply below_alloc | apply pw_below_drewN | apply below_drew1) | exact HB.out)) hb); have n1_ := Aside0.mk (hbox); have n2_ := Aside0.mk ((by rw [hg]; exact (below_size (by repeat (first | (with_reducible first | exact HB.out | apply below_alloc | apply pw_below_drewN | apply below_drew1) | exact HB.out))) : w.heap.size ≤ gb115)); have n3_ := Aside0.mk ((by rw [hg]; exact (below_size (by repeat (first | (with_reducible first | exact HB.out | apply below_alloc | apply pw_below_drewN | apply below_drew1) | exact HB.out))) : w.heap.size ≤ gb115)); clear HB; have HB := n0_; have BK115 := n1_; have GW115 := n2_; have GE115 := n3_; clear n0_ n1_ n2_ n3_; clear hb hbox hg; have hcz6_0 : w5.cell? ⟨gb115, 0, none⟩ = some (.int .u64 a0_0) := (blk_cell BK115.out 0).trans rfl; have hcz6_1 : w5.cell? ⟨gb115, 1, none⟩ = some (.int .u64 a0_1) := (blk_cell BK115.out 1).trans rfl; have hcz6_2 : w5.cell? ⟨gb115, 2, none⟩ = some (.int .u64 a0_2) := (blk_cell BK115.out 2).trans rfl; have hcz6_3 : w5.cell? ⟨gb115, 3, none⟩ = some (.int .u64 a0_3) := (blk_cell BK115.out 3).trans rfl; have hcz6_4 : w5.cell? ⟨gb115, 4, none⟩ = some (.bool a0_4) := (blk_cell BK115.out 4).trans rfl; have hfz6_0 := blk_frozen BK115.out 0; have hfz6_1 := blk_frozen BK115.out 1; have hfz6_2 := blk_frozen BK115.out 2; have hfz6_3 := blk_frozen BK115.out 3; have hfz6_4 := blk_frozen BK115.out 4))
  go_ret
  exact ⟨by first | rfl | (simp [errW_none, errW_some] <;> rfl) | (simp only [← hji3, ← hji4]; first | rfl | (simp [errW_none, errW_some] <;> rfl)) | (simp [*, errW_none, errW_some] <;> rfl), by repeat (first | (with_reducible first | exact HB.out | apply below_alloc | apply pw_below_drewN | apply below_drew1 | refine below_set ?_ GE115.out) | exact HB.out)⟩

/-! ### rtt_Rtt_Lost: function 25 -/
def rtt_Rtt_Lost.f (a0_0 : Int) (a0_1 : Int) (a0_2 : Int) (a0_3 : Int) (a0_4 : Bool) : Option (Int) := some (mx (IntKind.u64.wrap (Int.tdiv (IntKind.u64.wrap (9 * (mx a0_2 a0_0))) 8)) 1000)
set_option maxHeartbeats 8000000 in
set_option maxRecDepth 100000 in
theorem rtt_Rtt_Lost.calls (a0_0 : Int) (a0_1 : Int) (a0_2 : Int) (a0_3 : Int) (a0_4 : Bool) (r : Int) (w : World) (h : rtt_Rtt_Lost.f a0_0 a0_1 a0_2 a0_3 a0_4 = some r) :
    Calls Try.prog 25 #[.agg #[.int .u64 a0_0, .int .u64 a0_1, .int .u64 a0_2, .int .u64 a0_3, .bool a0_4]] w fun e w' => e = .returned (.int .u64 r) ∧ Below w.heap.size w w' := by
  have hu26 := Try.underlying26
  have HB := Aside0.mk (Below.refl w.heap.size w)
  have H : (some (mx (IntKind.u64.wrap (Int.tdiv (IntKind.u64.wrap (9 * (mx a0_2 a0_0))) 8)) 1000)) = some r := h
  clear h
  obtain ⟨ji2, hji2⟩ : ∃ j_ : Int, (mx a0_2 a0_0) = j_ := ⟨_, rfl⟩
  replace H : (some (mx (IntKind.u64.wrap (Int.tdiv (IntKind.u64.wrap (9 * (ji2))) 8)) 1000)) = some r := by first | (rw [hji2] at H; exact H) | (simp only [hji2] at H ⊢; exact H)
  have hji2_ : (if a0_2 < a0_0 then a0_0 else a0_2) = ji2 := hji2
  obtain ⟨ji3, hji3⟩ : ∃ j_ : Int, (mx (IntKind.u64.wrap (Int.tdiv (IntKind.u64.wrap (9 * (ji2))) 8)) 1000) = j_ := ⟨_, rfl⟩
  replace H : (some ji3) = some r := by first | (rw [hji3] at H; exact H) | (simp only [hji3] at H ⊢; exact H)
  have hji3_ : (if (IntKind.u64.wrap (Int.tdiv (IntKind.u64.wrap (9 * (ji2))) 8)) < 1000 then 1000 else (IntKind.u64.wrap (Int.tdiv (IntKind.u64.wrap (9 * (ji2))) 8))) = ji3 := hji3
  obtain rfl := Option.some.inj H
  go_enter Try.func25, Try.ntmps25
  go_wp2_with (first | ((with_reducible refine gate_dst (N := 1) rfl ?_); refine box_event ?hg (N := 1) ?hd (cs := #[.int .u64 a0_0, .int .u64 a0_1, .int .u64 a0_2, .int .u64 a0_3, .bool a0_4]) (t := 26) ?hr ?_; (case hd => rfl); (case hg => rfl); (case hr => first | (go_simp; done) | (go_simp; rfl)); intro gb116 hg w4 hbox hb; have n0_ := Aside0.mk (below_step (by repeat (first | (with_reducible first | exact HB.out | apply below_alloc | apply pw_below_drewN | apply below_drew1) | exact HB.out)) hb); have n1_ := Aside0.mk (hbox); have n2_ := Aside0.mk ((by rw [hg]; exact (below_size (by repeat (first | (with_reducible first | exact HB.out | apply below_alloc | apply pw_below_drewN | apply below_drew1) | exact HB.out))) : w.heap.size ≤ gb116)); have n3_ := Aside0.mk ((by rw [hg]; exact (below_size (by repeat (first | (with_reducible first | exact HB.out | apply below_alloc | apply pw_below_drewN | apply below_drew1) | exact HB.out))) : w.heap.size ≤ gb116)); clear HB; have HB := n0_; have BK116 := n1_; have GW116 := n2_; have GE116 := n3_; clear n0_ n1_ n2_ n3_; clear hb hbox hg; have hcz5_0 : w4.cell? ⟨gb116, 0, none⟩ = some (.int .u64 a0_0) := (blk_cell BK116.out 0).trans rfl; have hcz5_1 : w4.cell? ⟨gb116, 1, none⟩ = some (.int .u64 a0_1) := (blk_cell BK116.out 1).trans rfl; have hcz5_2 : w4.cell? ⟨gb116, 2, none⟩ = some (.int .u64 a0_2) := (blk_cell BK116.out 2).trans rfl; have hcz5_3 : w4.cell? ⟨gb116, 3, none⟩ = some (.int .u64 a0_3) := (blk_cell BK116.out 3).trans rfl; have hcz5_4 : w4.cell? ⟨gb116, 4, none⟩ = some (.bool a0_4) := (blk_cell BK116.out 4).trans rfl; have hfz5_0 := blk_frozen BK116.out 0; have hfz5_1 := blk_frozen BK116.out 1; have hfz5_2 := blk_frozen BK116.out 2; have hfz5_3 := blk_frozen BK116.out 3; have hfz5_4 := blk_frozen BK116.out 4))
  go_ret
  exact ⟨by first | rfl | (simp [errW_none, errW_some] <;> rfl) | (simp only [← hji2, ← hji3]; first | rfl | (simp [errW_none, errW_some] <;> rfl)) | (simp [*, errW_none, errW_some] <;> rfl), by repeat (first | (with_reducible first | exact HB.out | apply below_alloc | apply pw_below_drewN | apply below_drew1 | refine below_set ?_ GE116.out) | exact HB.out)⟩

-- NOT PRINTED: function 6 (binnaclelaw17_RttBounds)

end Go.Proofs.Ytloiihbhpmmaiaa.PRttBounds
