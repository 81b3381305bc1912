-- PRINTED BY print.sh 35421559b90ae4d0a3588c463048766b98c2df88dd9212a6774a882060cdf62d: not written by this session
import Derived.Test.YtiohjnhbapbglaaPSpanPlaysx0
namespace Go.Proofs.Ytiohjnhbapbglaa.PSpanPlays
open Go.RowKit Go.Proofs.YtiohjnhbapbglaaW.PrintWords Go.Proofs.YtiohjnhbapbglaaW.PrintLast Go.Proofs.YtiohjnhbapbglaaW.PrintMore
attribute [local go_sem] max2_int min2_int max_two min_two max_three min_three max_four min_four   -- for this text's walks alone
set_option linter.unusedVariables false
set_option linter.unusedSimpArgs false

/-! ### binnacleref07_Add: function 23 -/
mutual
def binnacleref07_Add.l0 : Nat → List (S45) → List (S45) → Bool → Int → Int → Int → Option ((List (S45)))
  | 0, _, _, _, _, _, _ => none
  | k + 1, x0, x5, x6, x7, x129000, x129001 => if x7 < (x0.length : Int) then (if 0 ≤ x7 then (if ((rd_T45 x0 x7).f1) ≥ x129000 then (binnacleref07_Add.j1 k x0 x5 x6 x7 (decide (((rd_T45 x0 x7).f0) ≤ x129001)) x129000 x129001 ((rd_T45 x0 x7).f0) ((rd_T45 x0 x7).f1)) else (binnacleref07_Add.j1 k x0 x5 x6 x7 false x129000 x129001 ((rd_T45 x0 x7).f0) ((rd_T45 x0 x7).f1))) else (none)) else (if x6 = true then (some x5) else (if x5.length < 8796093022208 then (some (x5 ++ [(⟨x129000, x129001⟩ : S45)])) else (none)))
def binnacleref07_Add.j1 : Nat → List (S45) → List (S45) → Bool → Int → Bool → Int → Int → Int → Int → Option ((List (S45)))
  | 0, _, _, _, _, _, _, _, _, _ => none
  | k + 1, x0, x5, x6, x7, x36, x129000, x129001, x134000, x134001 => if x36 = true then (if x134000 < x129000 then (binnacleref07_Add.j2 k x0 x5 x6 x7 x134000 x129001 x134000 x134001) else (binnacleref07_Add.j2 k x0 x5 x6 x7 x129000 x129001 x134000 x134001)) else (if x134000 > x129001 then (if x6 = true then (if x5.length < 8796093022208 then (binnacleref07_Add.l0 k x0 (x5 ++ [(⟨x134000, x134001⟩ : S45)]) x6 (wrap64 (x7 + 1)) x129000 x129001) else (none)) else (if x5.length < 8796093022208 then ((some (x5 ++ [(⟨x129000, x129001⟩ : S45)] : List (S45))).bind fun y137 => (if y137.length < 8796093022208 then (binnacleref07_Add.l0 k x0 (y137 ++ [(⟨x134000, x134001⟩ : S45)]) true (wrap64 (x7 + 1)) x129000 x129001) else (none))) else (none))) else (if x5.length < 8796093022208 then (binnacleref07_Add.l0 k x0 (x5 ++ [(⟨x134000, x134001⟩ : S45)]) x6 (wrap64 (x7 + 1)) x129000 x129001) else (none)))
def binnacleref07_Add.j2 : Nat → List (S45) → List (S45) → Bool → Int → Int → Int → Int → Int → Option ((List (S45)))
  | 0, _, _, _, _, _, _, _, _ => none
  | k + 1, x0, x5, x6, x7, x129000, x129001, x134000, x134001 => if x134001 > x129001 then (binnacleref07_Add.l0 k x0 x5 x6 (wrap64 (x7 + 1)) x129000 x134001) else (binnacleref07_Add.l0 k x0 x5 x6 (wrap64 (x7 + 1)) x129000 x129001)
end
def binnacleref07_Add.f (k : Nat) (l0 : List (S45)) (a1_0 : Int) (a1_1 : Int) : Option ((List (S45))) := if a1_0 ≥ a1_1 then (some l0) else (binnacleref07_Add.l0 k l0 ([] : List (S45)) false 0 a1_0 a1_1)
theorem binnacleref07_Add.mono_l : ∀ k, (∀ y0 y1 y2 y3 y4 y5, LeO (binnacleref07_Add.l0 k y0 y1 y2 y3 y4 y5) (binnacleref07_Add.l0 (k + 1) y0 y1 y2 y3 y4 y5)) ∧ (∀ y0 y1 y2 y3 y4 y5 y6 y7 y8, LeO (binnacleref07_Add.j1 k y0 y1 y2 y3 y4 y5 y6 y7 y8) (binnacleref07_Add.j1 (k + 1) y0 y1 y2 y3 y4 y5 y6 y7 y8)) ∧ (∀ y0 y1 y2 y3 y4 y5 y6 y7, LeO (binnacleref07_Add.j2 k y0 y1 y2 y3 y4 y5 y6 y7) (binnacleref07_Add.j2 (k + 1) y0 y1 y2 y3 y4 y5 y6 y7))
  | 0 => ⟨fun _ _ _ _ _ _ r h => by simp [binnacleref07_Add.l0] at h, fun _ _ _ _ _ _ _ _ _ r h => by simp [binnacleref07_Add.j1] at h, fun _ _ _ _ _ _ _ _ r h => by simp [binnacleref07_Add.j2] at h⟩
  | k + 1 => by
    obtain ⟨ih0, ih1, ih2⟩ := binnacleref07_Add.mono_l k
    refine ⟨?_, ?_, ?_⟩
    · intro y0 y1 y2 y3 y4 y5
      unfold binnacleref07_Add.l0
      repeat' first
      | (with_reducible exact ih0 _ _ _ _ _ _)
      | (with_reducible exact ih1 _ _ _ _ _ _ _ _ _)
      | (with_reducible exact ih2 _ _ _ _ _ _ _ _)
      | (with_reducible exact LeO.refl _)
      | (with_reducible exact LeO.none _)
      | (with_reducible refine LeO.ite ?_ ?_)
      | (with_reducible refine LeO.bind ?_ (fun _ => ?_))
      | exact ih0 _ _ _ _ _ _
      | exact ih1 _ _ _ _ _ _ _ _ _
      | exact ih2 _ _ _ _ _ _ _ _
      | exact LeO.none _
      | refine LeO.ite ?_ ?_
      | refine LeO.bind ?_ (fun _ => ?_)
    · intro y0 y1 y2 y3 y4 y5 y6 y7 y8
      unfold binnacleref07_Add.j1
      repeat' first
      | (with_reducible exact ih0 _ _ _ _ _ _)
      | (with_reducible exact ih1 _ _ _ _ _ _ _ _ _)
      | (with_reducible exact ih2 _ _ _ _ _ _ _ _)
      | (with_reducible exact LeO.refl _)
      | (with_reducible exact LeO.none _)
      | (with_reducible refine LeO.ite ?_ ?_)
      | (with_reducible refine LeO.bind ?_ (fun _ => ?_))
      | exact ih0 _ _ _ _ _ _
      | exact ih1 _ _ _ _ _ _ _ _ _
      | exact ih2 _ _ _ _ _ _ _ _
      | exact LeO.none _
      | refine LeO.ite ?_ ?_
      | refine LeO.bind ?_ (fun _ => ?_)
    · intro y0 y1 y2 y3 y4 y5 y6 y7
      unfold binnacleref07_Add.j2
      repeat' first
      | (with_reducible exact ih0 _ _ _ _ _ _)
      | (with_reducible exact ih1 _ _ _ _ _ _ _ _ _)
      | (with_reducible exact ih2 _ _ _ _ _ _ _ _)
      | (with_reducible exact LeO.refl _)
      | (with_reducible exact LeO.none _)
      | (with_reducible refine LeO.ite ?_ ?_)
      | (with_reducible refine LeO.bind ?_ (fun _ => ?_))
      | exact ih0 _ _ _ _ _ _
      | exact ih1 _ _ _ _ _ _ _ _ _
      | exact ih2 _ _ _ _ _ _ _ _
      | exact LeO.none _
      | refine LeO.ite ?_ ?_
      | refine LeO.bind ?_ (fun _ => ?_)
theorem binnacleref07_Add.mono : ∀ a0 a1 a2 k, LeO (binnacleref07_Add.f k a0 a1 a2) (binnacleref07_Add.f (k + 1) a0 a1 a2) := by
  intro a0 a1 a2 k
  obtain ⟨ih0, ih1, ih2⟩ := binnacleref07_Add.mono_l k
  unfold binnacleref07_Add.f
  repeat' first
      | (with_reducible exact ih0 _ _ _ _ _ _)
      | (with_reducible exact ih1 _ _ _ _ _ _ _ _ _)
      | (with_reducible exact ih2 _ _ _ _ _ _ _ _)
      | (with_reducible exact LeO.refl _)
      | (with_reducible exact LeO.none _)
      | (with_reducible refine LeO.ite ?_ ?_)
      | (with_reducible refine LeO.bind ?_ (fun _ => ?_))
      | exact ih0 _ _ _ _ _ _
      | exact ih1 _ _ _ _ _ _ _ _ _
      | exact ih2 _ _ _ _ _ _ _ _
      | exact LeO.none _
      | refine LeO.ite ?_ ?_
      | refine LeO.bind ?_ (fun _ => ?_)
set_option maxHeartbeats 8000000 in
set_option maxRecDepth 100000 in
theorem binnacleref07_Add.calls (k : Nat) (P0_ : Nat → Prop) (u9000_ : Value) (l0 : List (S45)) (a1_0 : Int) (a1_1 : Int) (r : List (S45)) (w0 w : World) (hB : Below w0.heap.size w0 w) (ho0 : Kd.R k45 45 w w0.heap.size P0_ u9000_ l0) (h : binnacleref07_Add.f k l0 a1_0 a1_1 = some r) :
    Calls Try.prog 23 #[u9000_, .agg #[.int .u64 a1_0, .int .u64 a1_1]] w fun e w' => ∃ v0_ : Value, e = .returned (v0_) ∧ Kd.R k45 45 w' w0.heap.size (fun k_ => (P0_ k_ ∨ w.heap.size ≤ k_)) v0_ r ∧ Below w0.heap.size w0 w' ∧ Kept w w' (fun k_ => P0_ k_) := by
  have hu45 := Try.underlying45
  have HO0 := Aside0.mk (show Kd.R k45 45 w w0.heap.size (fun k_ => (P0_ k_ ∨ w.heap.size ≤ k_)) u9000_ l0 from Kd.R_mono ho0 (fun k_ hk => (.inl hk)))
  have HK := Aside0.mk (Kept.refl w (fun k_ => P0_ k_))
  have HW0 := Aside0.mk hB.size
  have HB := Aside0.mk hB
  clear hB
  have H : (if a1_0 ≥ a1_1 then (some l0) else (binnacleref07_Add.l0 k l0 ([] : List (S45)) false 0 a1_0 a1_1)) = some r := h
  clear h
  by_cases c3 : a1_0 ≥ a1_1
  · rw [if_pos c3] at H
    have c3b0 : decide (a1_1 ≤ a1_0) = true := decide_eq_true c3
    clear c3
    obtain rfl := Option.some.inj H
    go_enter Try.func23, Try.ntmps23
    go_wp2_with (first | ((with_reducible refine gate_dst (N := 3) rfl ?_); refine box_event ?hg (N := 3) ?hd (cs := #[.int .u64 a1_0, .int .u64 a1_1]) (t := 45) ?hr ?_; (case hd => rfl); (case hg => rfl); (case hr => first | (go_simp; done) | (go_simp; rfl)); intro gb128 hg w4 hbox hb; have n0_ := Aside0.mk (Kd.R_below (Kd.R_elderB (by (with_reducible repeat (first | apply Kd.R_alloc | apply Kd.R_drewN | apply Kd.R_drew)); exact HO0.out) gb128 (Nat.le_of_eq hg.symm)) hb); have n1_ := Aside0.mk (Kept.below (S := (fun k_ => P0_ k_)) (by repeat (first | (with_reducible first | exact HK.out | apply Kept.alloc | apply Kept.drewN | apply Kept.drew) | exact HK.out)) hb); have n2_ := Aside0.mk (below_step (by repeat (first | (with_reducible first | exact HB.out | apply below_alloc | apply pw_below_drewN | apply below_drew1) | exact HB.out)) hb); have n3_ := Aside0.mk (hbox); have n4_ := Aside0.mk ((by rw [hg]; exact (by first | exact HK.out.1 | exact (show Kept w _ (fun k_ => P0_ k_) from by repeat (first | (with_reducible first | exact HK.out | apply Kept.alloc | apply Kept.drewN | apply Kept.drew) | exact HK.out)).1) : w.heap.size ≤ gb128)); have n5_ := Aside0.mk ((by rw [hg]; exact (below_size (by repeat (first | (with_reducible first | exact HB.out | apply below_alloc | apply pw_below_drewN | apply below_drew1) | exact HB.out))) : w0.heap.size ≤ gb128)); clear HO0; clear HK; clear HB; have HO0 := n0_; have HK := n1_; have HB := n2_; have BK128 := n3_; have GW128 := n4_; have GE128 := n5_; clear n0_ n1_ n2_ n3_ n4_ n5_; clear hb hbox hg; have hcz5_0 : w4.cell? ⟨gb128, 0, none⟩ = some (.int .u64 a1_0) := (blk_cell BK128.out 0).trans rfl; have hcz5_1 : w4.cell? ⟨gb128, 1, none⟩ = some (.int .u64 a1_1) := (blk_cell BK128.out 1).trans rfl; have hfz5_0 := blk_frozen BK128.out 0; have hfz5_1 := blk_frozen BK128.out 1))
    go_ret
    exact ⟨_, by first | rfl | (simp [errW_none, errW_some] <;> rfl) | (simp [*, errW_none, errW_some] <;> rfl), by (with_reducible repeat (first | apply Kd.R_alloc | apply Kd.R_drewN | apply Kd.R_drew)); exact Kd.R_mono HO0.out (fun _ hk => hk.1), by repeat (first | (with_reducible first | exact HB.out | apply below_alloc | apply pw_below_drewN | apply below_drew1 | refine below_set ?_ GE128.out) | exact HB.out), by repeat (first | (with_reducible first | exact HK.out | apply Kept.alloc | apply Kept.drewN | apply Kept.drew | refine Kept.setCell ?_ (.inr GW128.out) _) | exact HK.out)⟩
  · rw [if_neg c3] at H
    have c3b0 : decide (a1_1 ≤ a1_0) = false := decide_eq_false c3
    clear c3
    have H' := Aside0.mk H
    clear H
    go_enter Try.func23, Try.ntmps23
    go_wp2_with (first | ((with_reducible refine gate_dst (N := 3) rfl ?_); refine box_event ?hg (N := 3) ?hd (cs := #[.int .u64 a1_0, .int .u64 a1_1]) (t := 45) ?hr ?_; (case hd => rfl); (case hg => rfl); (case hr => first | (go_simp; done) | (go_simp; rfl)); intro gb128 hg w6 hbox hb; have n0_ := Aside0.mk (Kd.R_below (Kd.R_elderB (by (with_reducible repeat (first | apply Kd.R_alloc | apply Kd.R_drewN | apply Kd.R_drew)); exact HO0.out) gb128 (Nat.le_of_eq hg.symm)) hb); have n1_ := Aside0.mk (Kept.below (S := (fun k_ => P0_ k_)) (by repeat (first | (with_reducible first | exact HK.out | apply Kept.alloc | apply Kept.drewN | apply Kept.drew) | exact HK.out)) hb); have n2_ := Aside0.mk (below_step (by repeat (first | (with_reducible first | exact HB.out | apply below_alloc | apply pw_below_drewN | apply below_drew1) | exact HB.out)) hb); have n3_ := Aside0.mk (hbox); have n4_ := Aside0.mk ((by rw [hg]; exact (by first | exact HK.out.1 | exact (show Kept w _ (fun k_ => P0_ k_) from by repeat (first | (with_reducible first | exact HK.out | apply Kept.alloc | apply Kept.drewN | apply Kept.drew) | exact HK.out)).1) : w.heap.size ≤ gb128)); have n5_ := Aside0.mk ((by rw [hg]; exact (below_size (by repeat (first | (with_reducible first | exact HB.out | apply below_alloc | apply pw_below_drewN | apply below_drew1) | exact HB.out))) : w0.heap.size ≤ gb128)); clear HO0; clear HK; clear HB; have HO0 := n0_; have HK := n1_; have HB := n2_; have BK128 := n3_; have GW128 := n4_; have GE128 := n5_; clear n0_ n1_ n2_ n3_ n4_ n5_; clear hb hbox hg; have hcz7_0 : w6.cell? ⟨gb128, 0, none⟩ = some (.int .u64 a1_0) := (blk_cell BK128.out 0).trans rfl; have hcz7_1 : w6.cell? ⟨gb128, 1, none⟩ = some (.int .u64 a1_1) := (blk_cell BK128.out 1).trans rfl; have hfz7_0 := blk_frozen BK128.out 0; have hfz7_1 := blk_frozen BK128.out 1))
    go_loopg [5, 6, 7] k (fun kq v5 v6 v7 w' => ∃ (x5_1 : List (S45)) (x6_1 : Bool) (x7_1 : Int) (x129000_1 : Int) (x129001_1 : Int), v6 = .bool x6_1 ∧ v7 = .int .i64 x7_1 ∧ Aside0 (binnacleref07_Add.l0 kq l0 x5_1 x6_1 x7_1 x129000_1 x129001_1 = some r) ∧ Aside0 (kq ≤ k) ∧ Aside0 (Kd.R k45 45 w' w0.heap.size (fun k_ => (P0_ k_ ∨ w.heap.size ≤ k_) ∧ some k_ ≠ (v5 : Value).ownBlock ∧ k_ ≠ gb128) u9000_ l0) ∧ Aside0 (Kd.R k45 45 w' w0.heap.size (fun k_ => (P0_ k_ ∨ w.heap.size ≤ k_) ∧ some k_ ≠ (u9000_ : Value).ownBlock ∧ k_ ≠ gb128) v5 x5_1) ∧ Aside0 (w'.heap[gb128]? = some (.cells #[.int .u64 x129000_1, .int .u64 x129001_1] 45 (0, 0))) ∧ Aside0 (Kept w w' (fun k_ => P0_ k_)) ∧ Aside0 (Below w0.heap.size w0 w'))
    case atStart => exact ⟨(([] : List (S45))), (false), (0), (a1_0), (a1_1), (by first | rfl | (simp; done) | (simp [*]; done)), (by first | rfl | (simp; done) | (simp [*]; done)), H', ⟨Nat.le_refl _⟩, ⟨by (with_reducible repeat (first | apply Kd.R_alloc | apply Kd.R_drewN | apply Kd.R_drew)); exact Kd.R_mono HO0.out (fun _ hk => ⟨hk.1, ⟨(by simp [Value.ownBlock]), hk.2⟩⟩)⟩, ⟨by first | exact Kd.R_nil _ _ _ _ _ | exact Kd.N_nil _ _ _ _ _ | exact Kd.V_nil _ _ _ _ _ | exact Kd.Q_nil _ _ _ _ _ | exact Kd.S_nil _ _ _ _ _⟩, ⟨by (with_reducible repeat (first | refine blk_drewN ?_ _ | refine blk_drew ?_ | refine blk_alloc ?_ _)); exact BK128.out⟩, ⟨by repeat (first | (with_reducible first | exact HK.out | apply Kept.alloc | apply Kept.drewN | apply Kept.drew | refine Kept.setCell ?_ (.inr GW128.out) _) | exact HK.out)⟩, ⟨by repeat (first | (with_reducible first | exact HB.out | apply below_alloc | apply pw_below_drewN | apply below_drew1 | refine below_set ?_ GE128.out) | exact HB.out)⟩⟩
    case round =>
      clear H'
      try clear c2
      try clear p2
      try clear c3
      try clear c3b0
      try clear hcz5_0
      try clear hcz5_1
      try clear hcz7_0
      try clear hcz7_1
      try clear hfz5_0
      try clear hfz5_1
      try clear hfz7_0
      try clear hfz7_1
      obtain ⟨x5_1, x6_1, x7_1, x129000_1, x129001_1, rfl, rfl, HA, HK1, HO_0, HO_5, BK128, HK, HB⟩ := hrel
      cases gk with
      | zero => exact absurd HA.out (by simp [binnacleref07_Add.l0])
      | succ k1 =>
        have H := HA.out
        clear HA
        simp only [binnacleref07_Add.l0] at H
        by_cases c8 : x7_1 < (l0.length : Int)
        · rw [if_pos c8] at H
          have c8b0 : decide (x7_1 < (l0.length : Int)) = true := decide_eq_true c8
          clear c8
          by_cases c9 : 0 ≤ x7_1
          · rw [if_pos c9] at H
            have c9b0 : decide (0 ≤ x7_1) = true := decide_eq_true c9
            clear c9
            have HC10 := Aside0.mk H
            clear H
            obtain ⟨Ao11, co11, eo11⟩ := Kd.R_slice HO_0.out
            subst eo11
            have p132 : 0 ≤ (x7_1 : Int) := of_decide_eq_true (by first | (with_reducible assumption) | assumption)
            have q132 : x7_1 < (l0.length : Int) := of_decide_eq_true (by first | (with_reducible assumption) | assumption)
            obtain ⟨ad132, e132, hx132_0, hx132_1⟩ := at_T45 (Kd.R_reads' HO_0.out).2.2 x7_1 p132 q132
            cases e132
            replace p132 := eq_true p132
            replace q132 := eq_true q132
            go_upto_region 9 with (first | ((with_reducible refine gate_dst (N := 8) rfl ?_); refine box_event ?hg (N := 8) ?hd (cs := #[.int .u64 0, .int .u64 0]) (t := 45) ?hr ?_; (case hd => rfl); (case hg => rfl); (case hr => first | (go_simp; done) | (go_simp; rfl)); intro gb133 hg w12 hbox hb; have n0_ := Aside0.mk (Kd.R_below (Kd.R_elderB (by (with_reducible repeat (first | apply Kd.R_alloc | apply Kd.R_drewN | apply Kd.R_drew)); exact HO_0.out) gb133 (Nat.le_of_eq hg.symm)) hb); have n1_ := Aside0.mk (Kd.R_below (Kd.R_elderB (by (with_reducible repeat (first | apply Kd.R_alloc | apply Kd.R_drewN | apply Kd.R_drew)); exact HO_5.out) gb133 (Nat.le_of_eq hg.symm)) hb); have n2_ := Aside0.mk (blk_below (g := gb128) (o := .cells #[.int .u64 x129000_1, .int .u64 x129001_1] 45 (0, 0)) (by (with_reducible repeat (first | refine blk_drewN ?_ _ | refine blk_drew ?_ | refine blk_alloc ?_ _)); exact BK128.out) hb); have n3_ := Aside0.mk (Kept.below (S := (fun k_ => P0_ k_)) (by repeat (first | (with_reducible first | exact HK.out | apply Kept.alloc | apply Kept.drewN | apply Kept.drew | refine Kept.setCell ?_ (.inr GW128.out) _) | exact HK.out)) hb); have n4_ := Aside0.mk (below_step (by repeat (first | (with_reducible first | exact HB.out | apply below_alloc | apply pw_below_drewN | apply below_drew1 | refine below_set ?_ GE128.out) | exact HB.out)) hb); have n5_ := Aside0.mk (hbox); have n6_ := Aside0.mk ((by rw [hg]; exact (by first | exact HK.out.1 | exact (show Kept w _ (fun k_ => P0_ k_) from by repeat (first | (with_reducible first | exact HK.out | apply Kept.alloc | apply Kept.drewN | apply Kept.drew | refine Kept.setCell ?_ (.inr GW128.out) _) | exact HK.out)).1) : w.heap.size ≤ gb133)); have n7_ := Aside0.mk ((by rw [hg]; exact (below_size (by repeat (first | (with_reducible first | exact HB.out | apply below_alloc | apply pw_below_drewN | apply below_drew1 | refine below_set ?_ GE128.out) | exact HB.out))) : w0.heap.size ≤ gb133)); have n8_ := Aside0.mk ((by rw [hg]; exact Nat.ne_of_lt (blk_lt (g := gb128) (o := .cells #[.int .u64 x129000_1, .int .u64 x129001_1] 45 (0, 0)) (by (with_reducible repeat (first | refine blk_drewN ?_ _ | refine blk_drew ?_ | refine blk_alloc ?_ _)); exact BK128.out)) : gb128 ≠ gb133)); have n9_ := Aside0.mk ((by rw [hg]; exact Nat.ne_of_gt (blk_lt (g := gb128) (o := .cells #[.int .u64 x129000_1, .int .u64 x129001_1] 45 (0, 0)) (by (with_reducible repeat (first | refine blk_drewN ?_ _ | refine blk_drew ?_ | refine blk_alloc ?_ _)); exact BK128.out)) : gb133 ≠ gb128)); clear HO_0; clear HO_5; clear BK128; clear HK; clear HB; have HO_0 := n0_; have HO_5 := n1_; have BK128 := n2_; have HK := n3_; have HB := n4_; have BK133 := n5_; have GW133 := n6_; have GE133 := n7_; have NB128_133 := n8_; have NB133_128 := n9_; clear n0_ n1_ n2_ n3_ n4_ n5_ n6_ n7_ n8_ n9_; clear hb hbox hg; have hnb13 := NB133_128.out; have hnc13 := NB128_133.out; have hcz14_0 : w12.cell? ⟨gb133, 0, none⟩ = some (.int .u64 0) := (blk_cell BK133.out 0).trans rfl; have hcz14_1 : w12.cell? ⟨gb133, 1, none⟩ = some (.int .u64 0) := (blk_cell BK133.out 1).trans rfl; have hfz14_0 := blk_frozen BK133.out 0; have hfz14_1 := blk_frozen BK133.out 1))
            (try simp only [Act.put, List.setIfInBounds_toArray, List.set_cons_zero, List.set_cons_succ])
            go_cut [36] (fun v36 wc => ∃ (kq : Nat) (x36_9 : Bool), v36 = .bool x36_9 ∧ Aside0 (binnacleref07_Add.j1 kq l0 x5_1 x6_1 x7_1 x36_9 x129000_1 x129001_1 ((rd_T45 l0 x7_1).f0) ((rd_T45 l0 x7_1).f1) = some r) ∧ Aside0 (kq ≤ k1) ∧ Aside0 (Kd.R k45 45 wc w0.heap.size (fun k_ => (P0_ k_ ∨ w.heap.size ≤ k_) ∧ some k_ ≠ (u5 : Value).ownBlock ∧ k_ ≠ gb128 ∧ k_ ≠ gb133) (.slice (some ad132) l0.length co11) l0) ∧ Aside0 (Kd.R k45 45 wc w0.heap.size (fun k_ => (P0_ k_ ∨ w.heap.size ≤ k_) ∧ some k_ ≠ ((.slice (some ad132) l0.length co11) : Value).ownBlock ∧ k_ ≠ gb128 ∧ k_ ≠ gb133) u5 x5_1) ∧ Aside0 (wc.heap[gb128]? = some (.cells #[.int .u64 x129000_1, .int .u64 x129001_1] 45 (0, 0))) ∧ Aside0 (wc.heap[gb133]? = some (.cells #[.int .u64 ((rd_T45 l0 x7_1).f0), .int .u64 ((rd_T45 l0 x7_1).f1)] 45 (0, 0))) ∧ Aside0 (Kept w wc (fun k_ => P0_ k_)) ∧ Aside0 (Below w0.heap.size w0 wc))
            case first =>
              have H := HC10.out
              clear HC10
              by_cases c15 : ((rd_T45 l0 x7_1).f1) ≥ x129000_1
              · rw [if_pos c15] at H
                have c15b0 : decide (x129000_1 ≤ ((rd_T45 l0 x7_1).f1)) = true := decide_eq_true c15
                clear c15
                (first | rw [c15b0] | (simp only [i64_w, i32_w]; rw [c15b0]) | skip)
                have H' := Aside0.mk H
                clear H
                have hnb16 := NB133_128.out
                have hnc16 := NB128_133.out
                have hcz17_0 : w12.cell? ⟨gb133, 0, none⟩ = some (.int .u64 0) := (blk_cell BK133.out 0).trans rfl
                have hcz17_1 : w12.cell? ⟨gb133, 1, none⟩ = some (.int .u64 0) := (blk_cell BK133.out 1).trans rfl
                have hfz17_0 := blk_frozen BK133.out 0
                have hfz17_1 := blk_frozen BK133.out 1
                have hcz18_0 : w12.cell? ⟨gb128, 0, none⟩ = some (.int .u64 x129000_1) := (blk_cell BK128.out 0).trans rfl
                have hcz18_1 : w12.cell? ⟨gb128, 1, none⟩ = some (.int .u64 x129001_1) := (blk_cell BK128.out 1).trans rfl
                have hfz18_0 := blk_frozen BK128.out 0
                have hfz18_1 := blk_frozen BK128.out 1
                go_wp2
                go_meet
                case rel => exact ⟨_, (decide (((rd_T45 l0 x7_1).f0) ≤ x129001_1)), (by first | rfl | (simp; done) | (simp [*]; done)), H', ⟨by have := HK1.out; first | omega | exact Nat.le_refl _⟩, ⟨by (with_reducible repeat (first | apply Kd.R_alloc | apply Kd.R_drewN | apply Kd.R_drew)); exact Kd.R_mono (Kd.R_far (p := ⟨gb133, 1, none⟩) (Kd.R_far (p := ⟨gb133, 0, none⟩) (Kd.R_mono HO_0.out (fun k_ hk => (⟨hk, hk.2⟩ : _ ∧ k_ ≠ gb133))) (fun _ hk => hk.2) (.int .u64 ((rd_T45 l0 x7_1).f0))) (fun _ hk => hk.2) (.int .u64 ((rd_T45 l0 x7_1).f1))) (fun _ hk => ⟨hk.1.1.1, ⟨hk.1.1.2.1, ⟨hk.1.1.2.2, hk.1.2⟩⟩⟩)⟩, ⟨by (with_reducible repeat (first | apply Kd.R_alloc | apply Kd.R_drewN | apply Kd.R_drew)); exact Kd.R_mono (Kd.R_far (p := ⟨gb133, 1, none⟩) (Kd.R_far (p := ⟨gb133, 0, none⟩) (Kd.R_mono HO_5.out (fun k_ hk => (⟨hk, hk.2⟩ : _ ∧ k_ ≠ gb133))) (fun _ hk => hk.2) (.int .u64 ((rd_T45 l0 x7_1).f0))) (fun _ hk => hk.2) (.int .u64 ((rd_T45 l0 x7_1).f1))) (fun _ hk => ⟨hk.1.1.1, ⟨hk.1.1.2.1, ⟨hk.1.1.2.2, hk.1.2⟩⟩⟩)⟩, ⟨by (with_reducible repeat (first | refine blk_drewN ?_ _ | refine blk_drew ?_ | refine blk_alloc ?_ _)); refine blk_far ?_ NB128_133.out _; (with_reducible repeat (first | refine blk_drewN ?_ _ | refine blk_drew ?_ | refine blk_alloc ?_ _)); refine blk_far ?_ NB128_133.out _; (with_reducible repeat (first | refine blk_drewN ?_ _ | refine blk_drew ?_ | refine blk_alloc ?_ _)); exact BK128.out⟩, ⟨by (with_reducible repeat (first | refine blk_drewN ?_ _ | refine blk_drew ?_ | refine blk_alloc ?_ _)); refine blk_put (cs := #[.int .u64 ((rd_T45 l0 x7_1).f0), .int .u64 0]) ?_ 1 _ rfl; (with_reducible repeat (first | refine blk_drewN ?_ _ | refine blk_drew ?_ | refine blk_alloc ?_ _)); refine blk_put (cs := #[.int .u64 0, .int .u64 0]) ?_ 0 _ rfl; (with_reducible repeat (first | refine blk_drewN ?_ _ | refine blk_drew ?_ | refine blk_alloc ?_ _)); exact BK133.out⟩, ⟨by repeat (first | (with_reducible first | exact HK.out | apply Kept.alloc | apply Kept.drewN | apply Kept.drew | refine Kept.setCell ?_ (.inr GW128.out) _ | refine Kept.setCell ?_ (.inr GW133.out) _) | exact HK.out)⟩, ⟨by repeat (first | (with_reducible first | exact HB.out | apply below_alloc | apply pw_below_drewN | apply below_drew1 | refine below_set ?_ GE128.out | refine below_set ?_ GE133.out) | exact HB.out)⟩⟩
              · rw [if_neg c15] at H
                have c15b0 : decide (x129000_1 ≤ ((rd_T45 l0 x7_1).f1)) = false := decide_eq_false c15
                clear c15
                (first | rw [c15b0] | (simp only [i64_w, i32_w]; rw [c15b0]) | skip)
                have H' := Aside0.mk H
                clear H
                have hnb19 := NB133_128.out
                have hnc19 := NB128_133.out
                have hcz20_0 : w12.cell? ⟨gb133, 0, none⟩ = some (.int .u64 0) := (blk_cell BK133.out 0).trans rfl
                have hcz20_1 : w12.cell? ⟨gb133, 1, none⟩ = some (.int .u64 0) := (blk_cell BK133.out 1).trans rfl
                have hfz20_0 := blk_frozen BK133.out 0
                have hfz20_1 := blk_frozen BK133.out 1
                have hcz21_0 : w12.cell? ⟨gb128, 0, none⟩ = some (.int .u64 x129000_1) := (blk_cell BK128.out 0).trans rfl
                have hcz21_1 : w12.cell? ⟨gb128, 1, none⟩ = some (.int .u64 x129001_1) := (blk_cell BK128.out 1).trans rfl
                have hfz21_0 := blk_frozen BK128.out 0
                have hfz21_1 := blk_frozen BK128.out 1
                go_wp2
                go_meet
                case rel => exact ⟨_, (false), (by first | rfl | (simp; done) | (simp [*]; done)), H', ⟨by have := HK1.out; first | omega | exact Nat.le_refl _⟩, ⟨by (with_reducible repeat (first | apply Kd.R_alloc | apply Kd.R_drewN | apply Kd.R_drew)); exact Kd.R_mono (Kd.R_far (p := ⟨gb133, 1, none⟩) (Kd.R_far (p := ⟨gb133, 0, none⟩) (Kd.R_mono HO_0.out (fun k_ hk => (⟨hk, hk.2⟩ : _ ∧ k_ ≠ gb133))) (fun _ hk => hk.2) (.int .u64 ((rd_T45 l0 x7_1).f0))) (fun _ hk => hk.2) (.int .u64 ((rd_T45 l0 x7_1).f1))) (fun _ hk => ⟨hk.1.1.1, ⟨hk.1.1.2.1, ⟨hk.1.1.2.2, hk.1.2⟩⟩⟩)⟩, ⟨by (with_reducible repeat (first | apply Kd.R_alloc | apply Kd.R_drewN | apply Kd.R_drew)); exact Kd.R_mono (Kd.R_far (p := ⟨gb133, 1, none⟩) (Kd.R_far (p := ⟨gb133, 0, none⟩) (Kd.R_mono HO_5.out (fun k_ hk => (⟨hk, hk.2⟩ : _ ∧ k_ ≠ gb133))) (fun _ hk => hk.2) (.int .u64 ((rd_T45 l0 x7_1).f0))) (fun _ hk => hk.2) (.int .u64 ((rd_T45 l0 x7_1).f1))) (fun _ hk => ⟨hk.1.1.1, ⟨hk.1.1.2.1, ⟨hk.1.1.2.2, hk.1.2⟩⟩⟩)⟩, ⟨by (with_reducible repeat (first | refine blk_drewN ?_ _ | refine blk_drew ?_ | refine blk_alloc ?_ _)); refine blk_far ?_ NB128_133.out _; (with_reducible repeat (first | refine blk_drewN ?_ _ | refine blk_drew ?_ | refine blk_alloc ?_ _)); refine blk_far ?_ NB128_133.out _; (with_reducible repeat (first | refine blk_drewN ?_ _ | refine blk_drew ?_ | refine blk_alloc ?_ _)); exact BK128.out⟩, ⟨by (with_reducible repeat (first | refine blk_drewN ?_ _ | refine blk_drew ?_ | refine blk_alloc ?_ _)); refine blk_put (cs := #[.int .u64 ((rd_T45 l0 x7_1).f0), .int .u64 0]) ?_ 1 _ rfl; (with_reducible repeat (first | refine blk_drewN ?_ _ | refine blk_drew ?_ | refine blk_alloc ?_ _)); refine blk_put (cs := #[.int .u64 0, .int .u64 0]) ?_ 0 _ rfl; (with_reducible repeat (first | refine blk_drewN ?_ _ | refine blk_drew ?_ | refine blk_alloc ?_ _)); exact BK133.out⟩, ⟨by repeat (first | (with_reducible first | exact HK.out | apply Kept.alloc | apply Kept.drewN | apply Kept.drew | refine Kept.setCell ?_ (.inr GW128.out) _ | refine Kept.setCell ?_ (.inr GW133.out) _) | exact HK.out)⟩, ⟨by repeat (first | (with_reducible first | exact HB.out | apply below_alloc | apply pw_below_drewN | apply below_drew1 | refine below_set ?_ GE128.out | refine below_set ?_ GE133.out) | exact HB.out)⟩⟩
            case rest =>
              clear HC10
              try clear c1
              try clear p1
              try clear q1
              try clear hx1
              try clear c2
              try clear p2
              try clear c3
              try clear c3b0
              try clear c8
              try clear c8b0
              try clear c9
              try clear c9b0
              try clear c13
              try clear p13
              try clear q13
              try clear hx13
              try clear c15
              try clear c15b0
              try clear c16
              try clear c19
              try clear hcz14_0
              try clear hcz14_1
              try clear hcz17_0
              try clear hcz17_1
              try clear hcz18_0
              try clear hcz18_1
              try clear hcz20_0
              try clear hcz20_1
              try clear hcz21_0
              try clear hcz21_1
              try clear hcz5_0
              try clear hcz5_1
              try clear hcz7_0
              try clear hcz7_1
              try clear hfz14_0
              try clear hfz14_1
              try clear hfz17_0
              try clear hfz17_1
              try clear hfz18_0
              try clear hfz18_1
              try clear hfz20_0
              try clear hfz20_1
              try clear hfz21_0
              try clear hfz21_1
              try clear hfz5_0
              try clear hfz5_1
              try clear hfz7_0
              try clear hfz7_1
              try clear hx132_0
              try clear hx132_1
              try clear p132
              try clear p2
              try clear q132
              obtain ⟨kq, x36_9, rfl, HA, HJ9, HO_0, HO_5, BK128, BK133, HK, HB⟩ := hcut
              cases kq with
              | zero => exact absurd HA.out (by simp [binnacleref07_Add.j1])
              | succ kj9 =>
                have H := HA.out
                clear HA
                simp only [binnacleref07_Add.j1] at H
                by_cases c22 : x36_9 = true
                · subst c22
                  have H1 : (if ((rd_T45 l0 x7_1).f0) < x129000_1 then (binnacleref07_Add.j2 kj9 l0 x5_1 x6_1 x7_1 ((rd_T45 l0 x7_1).f0) x129001_1 ((rd_T45 l0 x7_1).f0) ((rd_T45 l0 x7_1).f1)) else (binnacleref07_Add.j2 kj9 l0 x5_1 x6_1 x7_1 x129000_1 x129001_1 ((rd_T45 l0 x7_1).f0) ((rd_T45 l0 x7_1).f1))) = some r := by rw [if_pos rfl] at H; exact H
                  clear H
                  have H := H1
                  clear H1
                  have HC23 := Aside0.mk H
                  clear H
                  have hnb24 := NB133_128.out
                  have hnc24 := NB128_133.out
                  have hcz25_0 : wc.cell? ⟨gb133, 0, none⟩ = some (.int .u64 ((rd_T45 l0 x7_1).f0)) := (blk_cell BK133.out 0).trans rfl
                  have hcz25_1 : wc.cell? ⟨gb133, 1, none⟩ = some (.int .u64 ((rd_T45 l0 x7_1).f1)) := (blk_cell BK133.out 1).trans rfl
                  have hfz25_0 := blk_frozen BK133.out 0
                  have hfz25_1 := blk_frozen BK133.out 1
                  have hcz26_0 : wc.cell? ⟨gb128, 0, none⟩ = some (.int .u64 x129000_1) := (blk_cell BK128.out 0).trans rfl
                  have hcz26_1 : wc.cell? ⟨gb128, 1, none⟩ = some (.int .u64 x129001_1) := (blk_cell BK128.out 1).trans rfl
                  have hfz26_0 := blk_frozen BK128.out 0
                  have hfz26_1 := blk_frozen BK128.out 1
                  go_upto_if 41 with (fail)
                  go_cut [] (fun wc => ∃ (kq : Nat) (x129000_22 : Int), Aside0 (binnacleref07_Add.j2 kq l0 x5_1 x6_1 x7_1 x129000_22 x129001_1 ((rd_T45 l0 x7_1).f0) ((rd_T45 l0 x7_1).f1) = some r) ∧ Aside0 (kq ≤ kj9) ∧ Aside0 (Kd.R k45 45 wc w0.heap.size (fun k_ => (P0_ k_ ∨ w.heap.size ≤ k_) ∧ some k_ ≠ (u5 : Value).ownBlock ∧ k_ ≠ gb128 ∧ k_ ≠ gb133) (.slice (some ad132) l0.length co11) l0) ∧ Aside0 (Kd.R k45 45 wc w0.heap.size (fun k_ => (P0_ k_ ∨ w.heap.size ≤ k_) ∧ some k_ ≠ ((.slice (some ad132) l0.length co11) : Value).ownBlock ∧ k_ ≠ gb128 ∧ k_ ≠ gb133) u5 x5_1) ∧ Aside0 (wc.heap[gb128]? = some (.cells #[.int .u64 x129000_22, .int .u64 x129001_1] 45 (0, 0))) ∧ Aside0 (wc.heap[gb133]? = some (.cells #[.int .u64 ((rd_T45 l0 x7_1).f0), .int .u64 ((rd_T45 l0 x7_1).f1)] 45 (0, 0))) ∧ Aside0 (Kept w wc (fun k_ => P0_ k_)) ∧ Aside0 (Below w0.heap.size w0 wc))
                  case first =>
                    have H := HC23.out
                    clear HC23
                    by_cases c27 : ((rd_T45 l0 x7_1).f0) < x129000_1
                    · rw [if_pos c27] at H
                      have c27b0 : decide (((rd_T45 l0 x7_1).f0) < x129000_1) = true := decide_eq_true c27
                      clear c27
                      (first | rw [c27b0] | (simp only [i64_w, i32_w]; rw [c27b0]) | skip)
                      have H' := Aside0.mk H
                      clear H
                      have hnb28 := NB133_128.out
                      have hnc28 := NB128_133.out
                      have hcz29_0 : wc.cell? ⟨gb133, 0, none⟩ = some (.int .u64 ((rd_T45 l0 x7_1).f0)) := (blk_cell BK133.out 0).trans rfl
                      have hcz29_1 : wc.cell? ⟨gb133, 1, none⟩ = some (.int .u64 ((rd_T45 l0 x7_1).f1)) := (blk_cell BK133.out 1).trans rfl
                      have hfz29_0 := blk_frozen BK133.out 0
                      have hfz29_1 := blk_frozen BK133.out 1
                      have hcz30_0 : wc.cell? ⟨gb128, 0, none⟩ = some (.int .u64 x129000_1) := (blk_cell BK128.out 0).trans rfl
                      have hcz30_1 : wc.cell? ⟨gb128, 1, none⟩ = some (.int .u64 x129001_1) := (blk_cell BK128.out 1).trans rfl
                      have hfz30_0 := blk_frozen BK128.out 0
                      have hfz30_1 := blk_frozen BK128.out 1
                      go_wp2
                      go_meet
                      case rel => exact ⟨_, (((rd_T45 l0 x7_1).f0)), H', ⟨by have := HK1.out; have := HJ9.out; first | omega | exact Nat.le_refl _⟩, ⟨by (with_reducible repeat (first | apply Kd.R_alloc | apply Kd.R_drewN | apply Kd.R_drew)); exact Kd.R_mono (Kd.R_far (p := ⟨gb128, 0, none⟩) (Kd.R_mono HO_0.out (fun k_ hk => (⟨hk, hk.2.2.1⟩ : _ ∧ k_ ≠ gb128))) (fun _ hk => hk.2) (.int .u64 ((rd_T45 l0 x7_1).f0))) (fun _ hk => ⟨hk.1.1, ⟨hk.1.2.1, ⟨hk.1.2.2.1, hk.1.2.2.2⟩⟩⟩)⟩, ⟨by (with_reducible repeat (first | apply Kd.R_alloc | apply Kd.R_drewN | apply Kd.R_drew)); exact Kd.R_mono (Kd.R_far (p := ⟨gb128, 0, none⟩) (Kd.R_mono HO_5.out (fun k_ hk => (⟨hk, hk.2.2.1⟩ : _ ∧ k_ ≠ gb128))) (fun _ hk => hk.2) (.int .u64 ((rd_T45 l0 x7_1).f0))) (fun _ hk => ⟨hk.1.1, ⟨hk.1.2.1, ⟨hk.1.2.2.1, hk.1.2.2.2⟩⟩⟩)⟩, ⟨by (with_reducible repeat (first | refine blk_drewN ?_ _ | refine blk_drew ?_ | refine blk_alloc ?_ _)); refine blk_put (cs := #[.int .u64 x129000_1, .int .u64 x129001_1]) ?_ 0 _ rfl; (with_reducible repeat (first | refine blk_drewN ?_ _ | refine blk_drew ?_ | refine blk_alloc ?_ _)); exact BK128.out⟩, ⟨by (with_reducible repeat (first | refine blk_drewN ?_ _ | refine blk_drew ?_ | refine blk_alloc ?_ _)); refine blk_far ?_ NB133_128.out _; (with_reducible repeat (first | refine blk_drewN ?_ _ | refine blk_drew ?_ | refine blk_alloc ?_ _)); exact BK133.out⟩, ⟨by repeat (first | (with_reducible first | exact HK.out | apply Kept.alloc | apply Kept.drewN | apply Kept.drew | refine Kept.setCell ?_ (.inr GW128.out) _ | refine Kept.setCell ?_ (.inr GW133.out) _) | exact HK.out)⟩, ⟨by repeat (first | (with_reducible first | exact HB.out | apply below_alloc | apply pw_below_drewN | apply below_drew1 | refine below_set ?_ GE128.out | refine below_set ?_ GE133.out) | exact HB.out)⟩⟩
                    · rw [if_neg c27] at H
                      have c27b0 : decide (((rd_T45 l0 x7_1).f0) < x129000_1) = false := decide_eq_false c27
                      clear c27
                      (first | rw [c27b0] | (simp only [i64_w, i32_w]; rw [c27b0]) | skip)
                      have H' := Aside0.mk H
                      clear H
                      go_wp2
                      go_meet
                      case rel => exact ⟨_, (x129000_1), H', ⟨by have := HK1.out; have := HJ9.out; first | omega | exact Nat.le_refl _⟩, ⟨by (with_reducible repeat (first | apply Kd.R_alloc | apply Kd.R_drewN | apply Kd.R_drew)); exact HO_0.out⟩, ⟨by (with_reducible repeat (first | apply Kd.R_alloc | apply Kd.R_drewN | apply Kd.R_drew)); exact HO_5.out⟩, ⟨by (with_reducible repeat (first | refine blk_drewN ?_ _ | refine blk_drew ?_ | refine blk_alloc ?_ _)); exact BK128.out⟩, ⟨by (with_reducible repeat (first | refine blk_drewN ?_ _ | refine blk_drew ?_ | refine blk_alloc ?_ _)); exact BK133.out⟩, ⟨by repeat (first | (with_reducible first | exact HK.out | apply Kept.alloc | apply Kept.drewN | apply Kept.drew | refine Kept.setCell ?_ (.inr GW128.out) _ | refine Kept.setCell ?_ (.inr GW133.out) _) | exact HK.out)⟩, ⟨by repeat (first | (with_reducible first | exact HB.out | apply below_alloc | apply pw_below_drewN | apply below_drew1 | refine below_set ?_ GE128.out | refine below_set ?_ GE133.out) | exact HB.out)⟩⟩
                  case rest =>
                    clear HC23
                    try clear c1
                    try clear p1
                    try clear q1
                    try clear hx1
                    try clear c2
                    try clear p2
                    try clear c3
                    try clear c3b0
                    try clear c8
                    try clear c8b0
                    try clear c9
                    try clear c9b0
                    try clear c13
                    try clear p13
                    try clear q13
                    try clear hx13
                    try clear c15
                    try clear c15b0
                    try clear c16
                    try clear c19
                    try clear c22
                    try clear c23
                    try clear c24
                    try clear c27
                    try clear c27b0
                    try clear c28
                    try clear hcz14_0
                    try clear hcz14_1
                    try clear hcz17_0
                    try clear hcz17_1
                    try clear hcz18_0
                    try clear hcz18_1
                    try clear hcz20_0
                    try clear hcz20_1
                    try clear hcz21_0
                    try clear hcz21_1
                    try clear hcz25_0
                    try clear hcz25_1
                    try clear hcz26_0
                    try clear hcz26_1
                    try clear hcz29_0
                    try clear hcz29_1
                    try clear hcz30_0
                    try clear hcz30_1
                    try clear hcz5_0
                    try clear hcz5_1
                    try clear hcz7_0
                    try clear hcz7_1
                    try clear hfz14_0
                    try clear hfz14_1
                    try clear hfz17_0
                    try clear hfz17_1
                    try clear hfz18_0
                    try clear hfz18_1
                    try clear hfz20_0
                    try clear hfz20_1
                    try clear hfz21_0
                    try clear hfz21_1
                    try clear hfz25_0
                    try clear hfz25_1
                    try clear hfz26_0
                    try clear hfz26_1
                    try clear hfz29_0
                    try clear hfz29_1
                    try clear hfz30_0
                    try clear hfz30_1
                    try clear hfz5_0
                    try clear hfz5_1
                    try clear hfz7_0
                    try clear hfz7_1
                    try clear hx132_0
                    try clear hx132_1
                    try clear p1
                    try clear p13
                    try clear p132
                    try clear p2
                    try clear q1
                    try clear q13
                    try clear q132
                    obtain ⟨kq, x129000_22, HA, HJ22, HO_0, HO_5, BK128, BK133, HK, HB⟩ := hcut
                    cases kq with
                    | zero => exact absurd HA.out (by simp [binnacleref07_Add.j2])
                    | succ kj22 =>
                      have H := HA.out
                      clear HA
                      simp only [binnacleref07_Add.j2] at H
                      by_cases c31 : ((rd_T45 l0 x7_1).f1) > x129001_1
                      · rw [if_pos c31] at H
                        have c31b0 : decide (x129001_1 < ((rd_T45 l0 x7_1).f1)) = true := decide_eq_true c31
                        clear c31
                        have H' := Aside0.mk H
                        clear H
                        have hnb32 := NB133_128.out
                        have hnc32 := NB128_133.out
                        have hcz33_0 : wc.cell? ⟨gb133, 0, none⟩ = some (.int .u64 ((rd_T45 l0 x7_1).f0)) := (blk_cell BK133.out 0).trans rfl
                        have hcz33_1 : wc.cell? ⟨gb133, 1, none⟩ = some (.int .u64 ((rd_T45 l0 x7_1).f1)) := (blk_cell BK133.out 1).trans rfl
                        have hfz33_0 := blk_frozen BK133.out 0
                        have hfz33_1 := blk_frozen BK133.out 1
                        have hcz34_0 : wc.cell? ⟨gb128, 0, none⟩ = some (.int .u64 x129000_22) := (blk_cell BK128.out 0).trans rfl
                        have hcz34_1 : wc.cell? ⟨gb128, 1, none⟩ = some (.int .u64 x129001_1) := (blk_cell BK128.out 1).trans rfl
                        have hfz34_0 := blk_frozen BK128.out 0
                        have hfz34_1 := blk_frozen BK128.out 1
                        go_wp2
                        go_roundg kj22
                        case measure => have := HK1.out; have := HJ9.out; have := HJ22.out; omega
                        case rel => exact ⟨(x5_1), (x6_1), (wrap64 (x7_1 + 1)), (x129000_22), (((rd_T45 l0 x7_1).f1)), (by first | rfl | (simp; done) | (simp [*]; done)), (by first | rfl | (simp; done) | (simp [*]; done)), H', ⟨by have := HK1.out; have := HJ9.out; have := HJ22.out; omega⟩, ⟨by (with_reducible repeat (first | apply Kd.R_alloc | apply Kd.R_drewN | apply Kd.R_drew)); exact Kd.R_mono (Kd.R_far (p := ⟨gb128, 1, none⟩) (Kd.R_mono HO_0.out (fun k_ hk => (⟨hk, hk.2.2.1⟩ : _ ∧ k_ ≠ gb128))) (fun _ hk => hk.2) (.int .u64 ((rd_T45 l0 x7_1).f1))) (fun _ hk => ⟨hk.1.1, ⟨hk.1.2.1, hk.1.2.2.1⟩⟩)⟩, ⟨by (with_reducible repeat (first | apply Kd.R_alloc | apply Kd.R_drewN | apply Kd.R_drew)); exact Kd.R_mono (Kd.R_far (p := ⟨gb128, 1, none⟩) (Kd.R_mono HO_5.out (fun k_ hk => (⟨hk, hk.2.2.1⟩ : _ ∧ k_ ≠ gb128))) (fun _ hk => hk.2) (.int .u64 ((rd_T45 l0 x7_1).f1))) (fun _ hk => ⟨hk.1.1, ⟨hk.1.2.1, hk.1.2.2.1⟩⟩)⟩, ⟨by (with_reducible repeat (first | refine blk_drewN ?_ _ | refine blk_drew ?_ | refine blk_alloc ?_ _)); refine blk_put (cs := #[.int .u64 x129000_22, .int .u64 x129001_1]) ?_ 1 _ rfl; (with_reducible repeat (first | refine blk_drewN ?_ _ | refine blk_drew ?_ | refine blk_alloc ?_ _)); exact BK128.out⟩, ⟨by repeat (first | (with_reducible first | exact HK.out | apply Kept.alloc | apply Kept.drewN | apply Kept.drew | refine Kept.setCell ?_ (.inr GW128.out) _ | refine Kept.setCell ?_ (.inr GW133.out) _) | exact HK.out)⟩, ⟨by repeat (first | (with_reducible first | exact HB.out | apply below_alloc | apply pw_below_drewN | apply below_drew1 | refine below_set ?_ GE128.out | refine below_set ?_ GE133.out) | exact HB.out)⟩⟩
                      · rw [if_neg c31] at H
                        have c31b0 : decide (x129001_1 < ((rd_T45 l0 x7_1).f1)) = false := decide_eq_false c31
                        clear c31
                        have H' := Aside0.mk H
                        clear H
                        have hnb35 := NB133_128.out
                        have hnc35 := NB128_133.out
                        have hcz36_0 : wc.cell? ⟨gb133, 0, none⟩ = some (.int .u64 ((rd_T45 l0 x7_1).f0)) := (blk_cell BK133.out 0).trans rfl
                        have hcz36_1 : wc.cell? ⟨gb133, 1, none⟩ = some (.int .u64 ((rd_T45 l0 x7_1).f1)) := (blk_cell BK133.out 1).trans rfl
                        have hfz36_0 := blk_frozen BK133.out 0
                        have hfz36_1 := blk_frozen BK133.out 1
                        have hcz37_0 : wc.cell? ⟨gb128, 0, none⟩ = some (.int .u64 x129000_22) := (blk_cell BK128.out 0).trans rfl
                        have hcz37_1 : wc.cell? ⟨gb128, 1, none⟩ = some (.int .u64 x129001_1) := (blk_cell BK128.out 1).trans rfl
                        have hfz37_0 := blk_frozen BK128.out 0
                        have hfz37_1 := blk_frozen BK128.out 1
                        go_wp2
                        go_roundg kj22
                        case measure => have := HK1.out; have := HJ9.out; have := HJ22.out; omega
                        case rel => exact ⟨(x5_1), (x6_1), (wrap64 (x7_1 + 1)), (x129000_22), (x129001_1), (by first | rfl | (simp; done) | (simp [*]; done)), (by first | rfl | (simp; done) | (simp [*]; done)), H', ⟨by have := HK1.out; have := HJ9.out; have := HJ22.out; omega⟩, ⟨by (with_reducible repeat (first | apply Kd.R_alloc | apply Kd.R_drewN | apply Kd.R_drew)); exact Kd.R_mono HO_0.out (fun _ hk => ⟨hk.1, ⟨hk.2.1, hk.2.2.1⟩⟩)⟩, ⟨by (with_reducible repeat (first | apply Kd.R_alloc | apply Kd.R_drewN | apply Kd.R_drew)); exact Kd.R_mono HO_5.out (fun _ hk => ⟨hk.1, ⟨hk.2.1, hk.2.2.1⟩⟩)⟩, ⟨by (with_reducible repeat (first | refine blk_drewN ?_ _ | refine blk_drew ?_ | refine blk_alloc ?_ _)); exact BK128.out⟩, ⟨by repeat (first | (with_reducible first | exact HK.out | apply Kept.alloc | apply Kept.drewN | apply Kept.drew | refine Kept.setCell ?_ (.inr GW128.out) _ | refine Kept.setCell ?_ (.inr GW133.out) _) | exact HK.out)⟩, ⟨by repeat (first | (with_reducible first | exact HB.out | apply below_alloc | apply pw_below_drewN | apply below_drew1 | refine below_set ?_ GE128.out | refine below_set ?_ GE133.out) | exact HB.out)⟩⟩
                · replace c22 := Bool.eq_false_iff.mpr c22
                  subst c22
                  have H1 : (if ((rd_T45 l0 x7_1).f0) > x129001_1 then (if x6_1 = true then (if x5_1.length < 8796093022208 then (binnacleref07_Add.l0 kj9 l0 (x5_1 ++ [(⟨((rd_T45 l0 x7_1).f0), ((rd_T45 l0 x7_1).f1)⟩ : S45)]) x6_1 (wrap64 (x7_1 + 1)) x129000_1 x129001_1) else (none)) else (if x5_1.length < 8796093022208 then ((some (x5_1 ++ [(⟨x129000_1, x129001_1⟩ : S45)] : List (S45))).bind fun y137 => (if y137.length < 8796093022208 then (binnacleref07_Add.l0 kj9 l0 (y137 ++ [(⟨((rd_T45 l0 x7_1).f0), ((rd_T45 l0 x7_1).f1)⟩ : S45)]) true (wrap64 (x7_1 + 1)) x129000_1 x129001_1) else (none))) else (none))) else (if x5_1.length < 8796093022208 then (binnacleref07_Add.l0 kj9 l0 (x5_1 ++ [(⟨((rd_T45 l0 x7_1).f0), ((rd_T45 l0 x7_1).f1)⟩ : S45)]) x6_1 (wrap64 (x7_1 + 1)) x129000_1 x129001_1) else (none))) = some r := by rw [if_neg (show ¬ (false = true) by decide)] at H; exact H
                  clear H
                  have H := H1
                  clear H1
                  by_cases c38 : ((rd_T45 l0 x7_1).f0) > x129001_1
                  · rw [if_pos c38] at H
                    have c38b0 : decide (x129001_1 < ((rd_T45 l0 x7_1).f0)) = true := decide_eq_true c38
                    clear c38
                    by_cases c39 : x6_1 = true
                    · subst c39
                      have H1 : (if x5_1.length < 8796093022208 then (binnacleref07_Add.l0 kj9 l0 (x5_1 ++ [(⟨((rd_T45 l0 x7_1).f0), ((rd_T45 l0 x7_1).f1)⟩ : S45)]) true (wrap64 (x7_1 + 1)) x129000_1 x129001_1) else (none)) = some r := by rw [if_pos rfl] at H; exact H
                      clear H
                      have H := H1
                      clear H1
                      by_cases c40 : x5_1.length < 8796093022208
                      · rw [if_pos c40] at H
                        have LMc40 := Aside0.mk c40
                        clear c40
                        obtain ⟨y134, hy134⟩ : ∃ y_ : List (S45), y_ = (x5_1 ++ [(⟨((rd_T45 l0 x7_1).f0), ((rd_T45 l0 x7_1).f1)⟩ : S45)]) := ⟨_, rfl⟩
                        replace H : (binnacleref07_Add.l0 kj9 l0 y134 true (wrap64 (x7_1 + 1)) x129000_1 x129001_1) = some r := by first | (rw [hy134]; with_reducible exact H) | (have H2_ := (Option.bind_some _ _).symm.trans H; rw [hy134]; with_reducible exact H2_) | (have H2_ := (Option.bind_some _ _).symm.trans H; with_reducible exact H2_) | with_reducible exact H | (rw [hy134]; exact H) | exact H
                        have Ny134 := Aside0.mk hy134
                        clear hy134
                        have H' := Aside0.mk H
                        clear H
                        have hnb41 := NB133_128.out
                        have hnc41 := NB128_133.out
                        have hcz42_0 : wc.cell? ⟨gb133, 0, none⟩ = some (.int .u64 ((rd_T45 l0 x7_1).f0)) := (blk_cell BK133.out 0).trans rfl
                        have hcz42_1 : wc.cell? ⟨gb133, 1, none⟩ = some (.int .u64 ((rd_T45 l0 x7_1).f1)) := (blk_cell BK133.out 1).trans rfl
                        have hfz42_0 := blk_frozen BK133.out 0
                        have hfz42_1 := blk_frozen BK133.out 1
                        have hcz43_0 : wc.cell? ⟨gb128, 0, none⟩ = some (.int .u64 x129000_1) := (blk_cell BK128.out 0).trans rfl
                        have hcz43_1 : wc.cell? ⟨gb128, 1, none⟩ = some (.int .u64 x129001_1) := (blk_cell BK128.out 1).trans rfl
                        have hfz43_0 := blk_frozen BK128.out 0
                        have hfz43_1 := blk_frozen BK128.out 1
                        go_wp2_with (first | ((with_reducible refine gate_builtin (b := .append) (xs := #[.tmp 66, .tmp 68]) rfl ?_); at_builtin; refine Kd.R_append k45 (w0 := w0) w0.heap.size rfl (.tmp 66) (.tmp 68) 43 45 (.agg #[(.int .u64 0), (.int .u64 0)]) 16 rfl Try.underlying43 info45 rfl (by decide) (by omega) u5 x5_1 (⟨((rd_T45 l0 x7_1).f0), ((rd_T45 l0 x7_1).f1)⟩ : S45) [.int .u64 ((rd_T45 l0 x7_1).f0), .int .u64 ((rd_T45 l0 x7_1).f1)] (fun k_ => (P0_ k_ ∨ w.heap.size ≤ k_) ∧ some k_ ≠ (.slice (some ad132) l0.length co11 : Value).ownBlock ∧ k_ ≠ gb128 ∧ k_ ≠ gb133) (fun _ => False) rfl rfl ?aP (fun _ hk => hk.elim) ?aF ?aO ?aB ?aS ?aL ?_; (case aP => exact k45_mkM _ _ _ (⟨((rd_T45 l0 x7_1).f0), ((rd_T45 l0 x7_1).f1)⟩ : S45)); (case aB => exact (by repeat (first | (with_reducible first | exact HB.out | apply below_alloc | apply pw_below_drewN | apply below_drew1 | refine below_set ?_ GE128.out | refine below_set ?_ GE133.out) | exact HB.out))); (case aF => exact (fun k_ hk => ⟨(.inr (Nat.le_trans (by first | exact HK.out.1 | exact (show Kept w _ (fun k_ => P0_ k_) from by repeat (first | (with_reducible first | exact HK.out | apply Kept.alloc | apply Kept.drewN | apply Kept.drew | refine Kept.setCell ?_ (.inr GW128.out) _ | refine Kept.setCell ?_ (.inr GW133.out) _) | exact HK.out)).1) hk)), Kd.fresh' (Kd.R_lt (by (with_reducible repeat (first | apply Kd.R_alloc | apply Kd.R_drewN | apply Kd.R_drew)); exact HO_0.out)) k_ hk, Kd.freshB (g := gb128) (o := .cells #[.int .u64 x129000_1, .int .u64 x129001_1] 45 (0, 0)) (by (with_reducible repeat (first | refine blk_drewN ?_ _ | refine blk_drew ?_ | refine blk_alloc ?_ _)); exact BK128.out) k_ hk, Kd.freshB (g := gb133) (o := .cells #[.int .u64 ((rd_T45 l0 x7_1).f0), .int .u64 ((rd_T45 l0 x7_1).f1)] 45 (0, 0)) (by (with_reducible repeat (first | refine blk_drewN ?_ _ | refine blk_drew ?_ | refine blk_alloc ?_ _)); exact BK133.out) k_ hk⟩)); (case aO => exact (by (with_reducible repeat (first | apply Kd.R_alloc | apply Kd.R_drewN | apply Kd.R_drew)); exact HO_5.out)); (case aS => exact (below_size (by repeat (first | (with_reducible first | exact HB.out | apply below_alloc | apply pw_below_drewN | apply below_drew1 | refine below_set ?_ GE128.out | refine below_set ?_ GE133.out) | exact HB.out)))); (case aL => have := LMc40.out; omega); intro v135 w44 ho hb hg hat; rw [← Ny134.out] at ho; have n0_ := Aside0.mk (Kd.R_after (ok := (fun k_ => (P0_ k_ ∨ w.heap.size ≤ k_) ∧ k_ ≠ gb128 ∧ k_ ≠ gb133)) (by (with_reducible repeat (first | apply Kd.R_alloc | apply Kd.R_drewN | apply Kd.R_drew)); exact Kd.R_mono HO_0.out (fun _ hk => ⟨⟨hk.1, ⟨hk.2.2.1, hk.2.2.2⟩⟩, hk.2.1⟩)) hg hat); have n1_ := Aside0.mk (blk_grown (g := gb128) (o := .cells #[.int .u64 x129000_1, .int .u64 x129001_1] 45 (0, 0)) (by (with_reducible repeat (first | refine blk_drewN ?_ _ | refine blk_drew ?_ | refine blk_alloc ?_ _)); exact BK128.out) hg (Kd.R_away HO_5.out (fun _ hk => hk.2.2.1))); have n2_ := Aside0.mk (blk_grown (g := gb133) (o := .cells #[.int .u64 ((rd_T45 l0 x7_1).f0), .int .u64 ((rd_T45 l0 x7_1).f1)] 45 (0, 0)) (by (with_reducible repeat (first | refine blk_drewN ?_ _ | refine blk_drew ?_ | refine blk_alloc ?_ _)); exact BK133.out) hg (Kd.R_away HO_5.out (fun _ hk => hk.2.2.2))); have n3_ := Aside0.mk (hb); have n4_ := Aside0.mk (Kept.of_grown (S := (fun k_ => P0_ k_)) hg (by repeat (first | (with_reducible first | exact HK.out | apply Kept.alloc | apply Kept.drewN | apply Kept.drew | refine Kept.setCell ?_ (.inr GW128.out) _ | refine Kept.setCell ?_ (.inr GW133.out) _) | exact HK.out)) (fun k_ e_ => (HO_5.out.1 k_ e_).1)); have n5_ := Aside0.mk (ho); clear HO_0; clear BK128; clear BK133; clear HB; clear HK; clear HO_5; have HO_0 := n0_; have BK128 := n1_; have BK133 := n2_; have HB := n3_; have HK := n4_; have HO136 := n5_; clear n0_ n1_ n2_ n3_ n4_ n5_; clear ho hb hg hat))
                        go_roundg kj9
                        case measure => have := HK1.out; have := HJ9.out; omega
                        case rel => exact ⟨(y134), (true), (wrap64 (x7_1 + 1)), (x129000_1), (x129001_1), (by first | rfl | (simp; done) | (simp [*]; done)), (by first | rfl | (simp; done) | (simp [*]; done)), H', ⟨by have := HK1.out; have := HJ9.out; omega⟩, ⟨by (with_reducible repeat (first | apply Kd.R_alloc | apply Kd.R_drewN | apply Kd.R_drew)); exact Kd.R_mono HO_0.out (fun _ hk => ⟨hk.1.1, ⟨hk.2, hk.1.2.1⟩⟩)⟩, ⟨by (with_reducible repeat (first | apply Kd.R_alloc | apply Kd.R_drewN | apply Kd.R_drew)); exact Kd.R_mono HO136.out (fun _ hk => ⟨hk.1, ⟨hk.2.1, hk.2.2.1⟩⟩)⟩, ⟨by (with_reducible repeat (first | refine blk_drewN ?_ _ | refine blk_drew ?_ | refine blk_alloc ?_ _)); exact BK128.out⟩, ⟨by repeat (first | (with_reducible first | exact HK.out | apply Kept.alloc | apply Kept.drewN | apply Kept.drew | refine Kept.setCell ?_ (.inr GW128.out) _ | refine Kept.setCell ?_ (.inr GW133.out) _) | exact HK.out)⟩, ⟨by repeat (first | (with_reducible first | exact HB.out | apply below_alloc | apply pw_below_drewN | apply below_drew1 | refine below_set ?_ GE128.out | refine below_set ?_ GE133.out) | exact HB.out)⟩⟩
                      · rw [if_neg c40] at H
                        exact absurd H (by simp)
                    · replace c39 := Bool.eq_false_iff.mpr c39
                      subst c39
                      have H1 : (if x5_1.length < 8796093022208 then ((some (x5_1 ++ [(⟨x129000_1, x129001_1⟩ : S45)] : List (S45))).bind fun y137 => (if y137.length < 8796093022208 then (binnacleref07_Add.l0 kj9 l0 (y137 ++ [(⟨((rd_T45 l0 x7_1).f0), ((rd_T45 l0 x7_1).f1)⟩ : S45)]) true (wrap64 (x7_1 + 1)) x129000_1 x129001_1) else (none))) else (none)) = some r := by rw [if_neg (show ¬ (false = true) by decide)] at H; exact H
                      clear H
                      have H := H1
                      clear H1
                      by_cases c45 : x5_1.length < 8796093022208
                      · rw [if_pos c45] at H
                        have LMc45 := Aside0.mk c45
                        clear c45
                        obtain ⟨y137, hy137⟩ : ∃ y_ : List (S45), y_ = (x5_1 ++ [(⟨x129000_1, x129001_1⟩ : S45)]) := ⟨_, rfl⟩
                        replace H : (if y137.length < 8796093022208 then (binnacleref07_Add.l0 kj9 l0 (y137 ++ [(⟨((rd_T45 l0 x7_1).f0), ((rd_T45 l0 x7_1).f1)⟩ : S45)]) true (wrap64 (x7_1 + 1)) x129000_1 x129001_1) else (none)) = some r := by first | (rw [hy137]; with_reducible exact H) | (have H2_ := (Option.bind_some _ _).symm.trans H; rw [hy137]; with_reducible exact H2_) | (have H2_ := (Option.bind_some _ _).symm.trans H; with_reducible exact H2_) | with_reducible exact H | (rw [hy137]; exact H) | exact H
                        have Ny137 := Aside0.mk hy137
                        clear hy137
                        by_cases c46 : y137.length < 8796093022208
                        · rw [if_pos c46] at H
                          have LMc46 := Aside0.mk c46
                          clear c46
                          obtain ⟨y140, hy140⟩ : ∃ y_ : List (S45), y_ = (y137 ++ [(⟨((rd_T45 l0 x7_1).f0), ((rd_T45 l0 x7_1).f1)⟩ : S45)]) := ⟨_, rfl⟩
                          replace H : (binnacleref07_Add.l0 kj9 l0 y140 true (wrap64 (x7_1 + 1)) x129000_1 x129001_1) = some r := by first | (rw [hy140]; with_reducible exact H) | (have H2_ := (Option.bind_some _ _).symm.trans H; rw [hy140]; with_reducible exact H2_) | (have H2_ := (Option.bind_some _ _).symm.trans H; with_reducible exact H2_) | with_reducible exact H | (rw [hy140]; exact H) | exact H
                          have Ny140 := Aside0.mk hy140
                          clear hy140
                          have H' := Aside0.mk H
                          clear H
                          have hnb47 := NB133_128.out
                          have hnc47 := NB128_133.out
                          have hcz48_0 : wc.cell? ⟨gb133, 0, none⟩ = some (.int .u64 ((rd_T45 l0 x7_1).f0)) := (blk_cell BK133.out 0).trans rfl
                          have hcz48_1 : wc.cell? ⟨gb133, 1, none⟩ = some (.int .u64 ((rd_T45 l0 x7_1).f1)) := (blk_cell BK133.out 1).trans rfl
                          have hfz48_0 := blk_frozen BK133.out 0
                          have hfz48_1 := blk_frozen BK133.out 1
                          have hcz49_0 : wc.cell? ⟨gb128, 0, none⟩ = some (.int .u64 x129000_1) := (blk_cell BK128.out 0).trans rfl
                          have hcz49_1 : wc.cell? ⟨gb128, 1, none⟩ = some (.int .u64 x129001_1) := (blk_cell BK128.out 1).trans rfl
                          have hfz49_0 := blk_frozen BK128.out 0
                          have hfz49_1 := blk_frozen BK128.out 1
                          go_wp2_with (first | ((with_reducible refine gate_builtin (b := .append) (xs := #[.tmp 62, .tmp 64]) rfl ?_); at_builtin; refine Kd.R_append k45 (w0 := w0) w0.heap.size rfl (.tmp 62) (.tmp 64) 43 45 (.agg #[(.int .u64 0), (.int .u64 0)]) 16 rfl Try.underlying43 info45 rfl (by decide) (by omega) u5 x5_1 (⟨x129000_1, x129001_1⟩ : S45) [.int .u64 x129000_1, .int .u64 x129001_1] (fun k_ => (P0_ k_ ∨ w.heap.size ≤ k_) ∧ some k_ ≠ (.slice (some ad132) l0.length co11 : Value).ownBlock ∧ k_ ≠ gb128 ∧ k_ ≠ gb133) (fun _ => False) rfl rfl ?aP (fun _ hk => hk.elim) ?aF ?aO ?aB ?aS ?aL ?_; (case aP => exact k45_mkM _ _ _ (⟨x129000_1, x129001_1⟩ : S45)); (case aB => exact (by repeat (first | (with_reducible first | exact HB.out | apply below_alloc | apply pw_below_drewN | apply below_drew1 | refine below_set ?_ GE128.out | refine below_set ?_ GE133.out) | exact HB.out))); (case aF => exact (fun k_ hk => ⟨(.inr (Nat.le_trans (by first | exact HK.out.1 | exact (show Kept w _ (fun k_ => P0_ k_) from by repeat (first | (with_reducible first | exact HK.out | apply Kept.alloc | apply Kept.drewN | apply Kept.drew | refine Kept.setCell ?_ (.inr GW128.out) _ | refine Kept.setCell ?_ (.inr GW133.out) _) | exact HK.out)).1) hk)), Kd.fresh' (Kd.R_lt (by (with_reducible repeat (first | apply Kd.R_alloc | apply Kd.R_drewN | apply Kd.R_drew)); exact HO_0.out)) k_ hk, Kd.freshB (g := gb128) (o := .cells #[.int .u64 x129000_1, .int .u64 x129001_1] 45 (0, 0)) (by (with_reducible repeat (first | refine blk_drewN ?_ _ | refine blk_drew ?_ | refine blk_alloc ?_ _)); exact BK128.out) k_ hk, Kd.freshB (g := gb133) (o := .cells #[.int .u64 ((rd_T45 l0 x7_1).f0), .int .u64 ((rd_T45 l0 x7_1).f1)] 45 (0, 0)) (by (with_reducible repeat (first | refine blk_drewN ?_ _ | refine blk_drew ?_ | refine blk_alloc ?_ _)); exact BK133.out) k_ hk⟩)); (case aO => exact (by (with_reducible repeat (first | apply Kd.R_alloc | apply Kd.R_drewN | apply Kd.R_drew)); exact HO_5.out)); (case aS => exact (below_size (by repeat (first | (with_reducible first | exact HB.out | apply below_alloc | apply pw_below_drewN | apply below_drew1 | refine below_set ?_ GE128.out | refine below_set ?_ GE133.out) | exact HB.out)))); (case aL => have := LMc45.out; omega); intro v138 w50 ho hb hg hat; rw [← Ny137.out] at ho; have n0_ := Aside0.mk (Kd.R_after (ok := (fun k_ => (P0_ k_ ∨ w.heap.size ≤ k_) ∧ k_ ≠ gb128 ∧ k_ ≠ gb133)) (by (with_reducible repeat (first | apply Kd.R_alloc | apply Kd.R_drewN | apply Kd.R_drew)); exact Kd.R_mono HO_0.out (fun _ hk => ⟨⟨hk.1, ⟨hk.2.2.1, hk.2.2.2⟩⟩, hk.2.1⟩)) hg hat); have n1_ := Aside0.mk (blk_grown (g := gb128) (o := .cells #[.int .u64 x129000_1, .int .u64 x129001_1] 45 (0, 0)) (by (with_reducible repeat (first | refine blk_drewN ?_ _ | refine blk_drew ?_ | refine blk_alloc ?_ _)); exact BK128.out) hg (Kd.R_away HO_5.out (fun _ hk => hk.2.2.1))); have n2_ := Aside0.mk (blk_grown (g := gb133) (o := .cells #[.int .u64 ((rd_T45 l0 x7_1).f0), .int .u64 ((rd_T45 l0 x7_1).f1)] 45 (0, 0)) (by (with_reducible repeat (first | refine blk_drewN ?_ _ | refine blk_drew ?_ | refine blk_alloc ?_ _)); exact BK133.out) hg (Kd.R_away HO_5.out (fun _ hk => hk.2.2.2))); have n3_ := Aside0.mk (hb); have n4_ := Aside0.mk (Kept.of_grown (S := (fun k_ => P0_ k_)) hg (by repeat (first | (with_reducible first | exact HK.out | apply Kept.alloc | apply Kept.drewN | apply Kept.drew | refine Kept.setCell ?_ (.inr GW128.out) _ | refine Kept.setCell ?_ (.inr GW133.out) _) | exact HK.out)) (fun k_ e_ => (HO_5.out.1 k_ e_).1)); have n5_ := Aside0.mk (ho); clear HO_0; clear BK128; clear BK133; clear HB; clear HK; clear HO_5; have HO_0 := n0_; have BK128 := n1_; have BK133 := n2_; have HB := n3_; have HK := n4_; have HO139 := n5_; clear n0_ n1_ n2_ n3_ n4_ n5_; clear ho hb hg hat; have hcz51_0 : w50.cell? ⟨gb133, 0, none⟩ = some (.int .u64 ((rd_T45 l0 x7_1).f0)) := (blk_cell BK133.out 0).trans rfl; have hcz51_1 : w50.cell? ⟨gb133, 1, none⟩ = some (.int .u64 ((rd_T45 l0 x7_1).f1)) := (blk_cell BK133.out 1).trans rfl; have hfz51_0 := blk_frozen BK133.out 0; have hfz51_1 := blk_frozen BK133.out 1) | ((with_reducible refine gate_builtin (b := .append) (xs := #[.tmp 66, .tmp 68]) rfl ?_); at_builtin; refine Kd.R_append k45 (w0 := w0) w0.heap.size rfl (.tmp 66) (.tmp 68) 43 45 (.agg #[(.int .u64 0), (.int .u64 0)]) 16 rfl Try.underlying43 info45 rfl (by decide) (by omega) v138 y137 (⟨((rd_T45 l0 x7_1).f0), ((rd_T45 l0 x7_1).f1)⟩ : S45) [.int .u64 ((rd_T45 l0 x7_1).f0), .int .u64 ((rd_T45 l0 x7_1).f1)] (fun k_ => (P0_ k_ ∨ w.heap.size ≤ k_) ∧ some k_ ≠ (.slice (some ad132) l0.length co11 : Value).ownBlock ∧ k_ ≠ gb128 ∧ k_ ≠ gb133) (fun _ => False) rfl rfl ?aP (fun _ hk => hk.elim) ?aF ?aO ?aB ?aS ?aL ?_; (case aP => exact k45_mkM _ _ _ (⟨((rd_T45 l0 x7_1).f0), ((rd_T45 l0 x7_1).f1)⟩ : S45)); (case aB => exact (by repeat (first | (with_reducible first | exact HB.out | apply below_alloc | apply pw_below_drewN | apply below_drew1 | refine below_set ?_ GE128.out | refine below_set ?_ GE133.out) | exact HB.out))); (case aF => exact (fun k_ hk => ⟨(.inr (Nat.le_trans (by first | exact HK.out.1 | exact (show Kept w _ (fun k_ => P0_ k_) from by repeat (first | (with_reducible first | exact HK.out | apply Kept.alloc | apply Kept.drewN | apply Kept.drew | refine Kept.setCell ?_ (.inr GW128.out) _ | refine Kept.setCell ?_ (.inr GW133.out) _) | exact HK.out)).1) hk)), Kd.fresh' (Kd.R_lt (by (with_reducible repeat (first | apply Kd.R_alloc | apply Kd.R_drewN | apply Kd.R_drew)); exact HO_0.out)) k_ hk, Kd.freshB (g := gb128) (o := .cells #[.int .u64 x129000_1, .int .u64 x129001_1] 45 (0, 0)) (by (with_reducible repeat (first | refine blk_drewN ?_ _ | refine blk_drew ?_ | refine blk_alloc ?_ _)); exact BK128.out) k_ hk, Kd.freshB (g := gb133) (o := .cells #[.int .u64 ((rd_T45 l0 x7_1).f0), .int .u64 ((rd_T45 l0 x7_1).f1)] 45 (0, 0)) (by (with_reducible repeat (first | refine blk_drewN ?_ _ | refine blk_drew ?_ | refine blk_alloc ?_ _)); exact BK133.out) k_ hk⟩)); (case aO => exact (by (with_reducible repeat (first | apply Kd.R_alloc | apply Kd.R_drewN | apply Kd.R_drew)); exact HO139.out)); (case aS => exact (below_size (by repeat (first | (with_reducible first | exact HB.out | apply below_alloc | apply pw_below_drewN | apply below_drew1 | refine below_set ?_ GE128.out | refine below_set ?_ GE133.out) | exact HB.out)))); (case aL => have := LMc46.out; omega); intro v141 w52 ho hb hg hat; rw [← Ny140.out] at ho; have n0_ := Aside0.mk (Kd.R_after (ok := (fun k_ => (P0_ k_ ∨ w.heap.size ≤ k_) ∧ k_ ≠ gb128 ∧ k_ ≠ gb133)) (by (with_reducible repeat (first | apply Kd.R_alloc | apply Kd.R_drewN | apply Kd.R_drew)); exact HO_0.out) hg hat); have n1_ := Aside0.mk (blk_grown (g := gb128) (o := .cells #[.int .u64 x129000_1, .int .u64 x129001_1] 45 (0, 0)) (by (with_reducible repeat (first | refine blk_drewN ?_ _ | refine blk_drew ?_ | refine blk_alloc ?_ _)); exact BK128.out) hg (Kd.R_away HO139.out (fun _ hk => hk.2.2.1))); have n2_ := Aside0.mk (blk_grown (g := gb133) (o := .cells #[.int .u64 ((rd_T45 l0 x7_1).f0), .int .u64 ((rd_T45 l0 x7_1).f1)] 45 (0, 0)) (by (with_reducible repeat (first | refine blk_drewN ?_ _ | refine blk_drew ?_ | refine blk_alloc ?_ _)); exact BK133.out) hg (Kd.R_away HO139.out (fun _ hk => hk.2.2.2))); have n3_ := Aside0.mk (hb); have n4_ := Aside0.mk (Kept.of_grown (S := (fun k_ => P0_ k_)) hg (by repeat (first | (with_reducible first | exact HK.out | apply Kept.alloc | apply Kept.drewN | apply Kept.drew | refine Kept.setCell ?_ (.inr GW128.out) _ | refine Kept.setCell ?_ (.inr GW133.out) _) | exact HK.out)) (fun k_ e_ => (HO139.out.1 k_ e_).1)); have n5_ := Aside0.mk (ho); clear HO_0; clear BK128; clear BK133; clear HB; clear HK; clear HO139; have HO_0 := n0_; have BK128 := n1_; have BK133 := n2_; have HB := n3_; have HK := n4_; have HO142 := n5_; clear n0_ n1_ n2_ n3_ n4_ n5_; clear ho hb hg hat))
                          go_roundg kj9
                          case measure => have := HK1.out; have := HJ9.out; omega
                          case rel => exact ⟨(y140), (true), (wrap64 (x7_1 + 1)), (x129000_1), (x129001_1), (by first | rfl | (simp; done) | (simp [*]; done)), (by first | rfl | (simp; done) | (simp [*]; done)), H', ⟨by have := HK1.out; have := HJ9.out; omega⟩, ⟨by (with_reducible repeat (first | apply Kd.R_alloc | apply Kd.R_drewN | apply Kd.R_drew)); exact Kd.R_mono HO_0.out (fun _ hk => ⟨hk.1.1, ⟨hk.2, hk.1.2.1⟩⟩)⟩, ⟨by (with_reducible repeat (first | apply Kd.R_alloc | apply Kd.R_drewN | apply Kd.R_drew)); exact Kd.R_mono HO142.out (fun _ hk => ⟨hk.1, ⟨hk.2.1, hk.2.2.1⟩⟩)⟩, ⟨by (with_reducible repeat (first | refine blk_drewN ?_ _ | refine blk_drew ?_ | refine blk_alloc ?_ _)); exact BK128.out⟩, ⟨by repeat (first | (with_reducible first | exact HK.out | apply Kept.alloc | apply Kept.drewN | apply Kept.drew | refine Kept.setCell ?_ (.inr GW128.out) _ | refine Kept.setCell ?_ (.inr GW133.out) _) | exact HK.out)⟩, ⟨by repeat (first | (with_reducible first | exact HB.out | apply below_alloc | apply pw_below_drewN | apply below_drew1 | refine below_set ?_ GE128.out | refine below_set ?_ GE133.out) | exact HB.out)⟩⟩
                        · rw [if_neg c46] at H
                          exact absurd H (by simp)
                      · rw [if_neg c45] at H
                        exact absurd H (by simp)
                  · rw [if_neg c38] at H
                    have c38b0 : decide (x129001_1 < ((rd_T45 l0 x7_1).f0)) = false := decide_eq_false c38
                    clear c38
                    by_cases c53 : x5_1.length < 8796093022208
                    · rw [if_pos c53] at H
                      have LMc53 := Aside0.mk c53
                      clear c53
                      obtain ⟨y143, hy143⟩ : ∃ y_ : List (S45), y_ = (x5_1 ++ [(⟨((rd_T45 l0 x7_1).f0), ((rd_T45 l0 x7_1).f1)⟩ : S45)]) := ⟨_, rfl⟩
                      replace H : (binnacleref07_Add.l0 kj9 l0 y143 x6_1 (wrap64 (x7_1 + 1)) x129000_1 x129001_1) = some r := by first | (rw [hy143]; with_reducible exact H) | (have H2_ := (Option.bind_some _ _).symm.trans H; rw [hy143]; with_reducible exact H2_) | (have H2_ := (Option.bind_some _ _).symm.trans H; with_reducible exact H2_) | with_reducible exact H | (rw [hy143]; exact H) | exact H
                      have Ny143 := Aside0.mk hy143
                      clear hy143
                      have H' := Aside0.mk H
                      clear H
                      have hnb54 := NB133_128.out
                      have hnc54 := NB128_133.out
                      have hcz55_0 : wc.cell? ⟨gb133, 0, none⟩ = some (.int .u64 ((rd_T45 l0 x7_1).f0)) := (blk_cell BK133.out 0).trans rfl
                      have hcz55_1 : wc.cell? ⟨gb133, 1, none⟩ = some (.int .u64 ((rd_T45 l0 x7_1).f1)) := (blk_cell BK133.out 1).trans rfl
                      have hfz55_0 := blk_frozen BK133.out 0
                      have hfz55_1 := blk_frozen BK133.out 1
                      have hcz56_0 : wc.cell? ⟨gb128, 0, none⟩ = some (.int .u64 x129000_1) := (blk_cell BK128.out 0).trans rfl
                      have hcz56_1 : wc.cell? ⟨gb128, 1, none⟩ = some (.int .u64 x129001_1) := (blk_cell BK128.out 1).trans rfl
                      have hfz56_0 := blk_frozen BK128.out 0
                      have hfz56_1 := blk_frozen BK128.out 1
                      go_wp2_with (first | ((with_reducible refine gate_builtin (b := .append) (xs := #[.tmp 66, .tmp 68]) rfl ?_); at_builtin; refine Kd.R_append k45 (w0 := w0) w0.heap.size rfl (.tmp 66) (.tmp 68) 43 45 (.agg #[(.int .u64 0), (.int .u64 0)]) 16 rfl Try.underlying43 info45 rfl (by decide) (by omega) u5 x5_1 (⟨((rd_T45 l0 x7_1).f0), ((rd_T45 l0 x7_1).f1)⟩ : S45) [.int .u64 ((rd_T45 l0 x7_1).f0), .int .u64 ((rd_T45 l0 x7_1).f1)] (fun k_ => (P0_ k_ ∨ w.heap.size ≤ k_) ∧ some k_ ≠ (.slice (some ad132) l0.length co11 : Value).ownBlock ∧ k_ ≠ gb128 ∧ k_ ≠ gb133) (fun _ => False) rfl rfl ?aP (fun _ hk => hk.elim) ?aF ?aO ?aB ?aS ?aL ?_; (case aP => exact k45_mkM _ _ _ (⟨((rd_T45 l0 x7_1).f0), ((rd_T45 l0 x7_1).f1)⟩ : S45)); (case aB => exact (by repeat (first | (with_reducible first | exact HB.out | apply below_alloc | apply pw_below_drewN | apply below_drew1 | refine below_set ?_ GE128.out | refine below_set ?_ GE133.out) | exact HB.out))); (case aF => exact (fun k_ hk => ⟨(.inr (Nat.le_trans (by first | exact HK.out.1 | exact (show Kept w _ (fun k_ => P0_ k_) from by repeat (first | (with_reducible first | exact HK.out | apply Kept.alloc | apply Kept.drewN | apply Kept.drew | refine Kept.setCell ?_ (.inr GW128.out) _ | refine Kept.setCell ?_ (.inr GW133.out) _) | exact HK.out)).1) hk)), Kd.fresh' (Kd.R_lt (by (with_reducible repeat (first | apply Kd.R_alloc | apply Kd.R_drewN | apply Kd.R_drew)); exact HO_0.out)) k_ hk, Kd.freshB (g := gb128) (o := .cells #[.int .u64 x129000_1, .int .u64 x129001_1] 45 (0, 0)) (by (with_reducible repeat (first | refine blk_drewN ?_ _ | refine blk_drew ?_ | refine blk_alloc ?_ _)); exact BK128.out) k_ hk, Kd.freshB (g := gb133) (o := .cells #[.int .u64 ((rd_T45 l0 x7_1).f0), .int .u64 ((rd_T45 l0 x7_1).f1)] 45 (0, 0)) (by (with_reducible repeat (first | refine blk_drewN ?_ _ | refine blk_drew ?_ | refine blk_alloc ?_ _)); exact BK133.out) k_ hk⟩)); (case aO => exact (by (with_reducible repeat (first | apply Kd.R_alloc | apply Kd.R_drewN | apply Kd.R_drew)); exact HO_5.out)); (case aS => exact (below_size (by repeat (first | (with_reducible first | exact HB.out | apply below_alloc | apply pw_below_drewN | apply below_drew1 | refine below_set ?_ GE128.out | refine below_set ?_ GE133.out) | exact HB.out)))); (case aL => have := LMc53.out; omega); intro v144 w57 ho hb hg hat; rw [← Ny143.out] at ho; have n0_ := Aside0.mk (Kd.R_after (ok := (fun k_ => (P0_ k_ ∨ w.heap.size ≤ k_) ∧ k_ ≠ gb128 ∧ k_ ≠ gb133)) (by (with_reducible repeat (first | apply Kd.R_alloc | apply Kd.R_drewN | apply Kd.R_drew)); exact Kd.R_mono HO_0.out (fun _ hk => ⟨⟨hk.1, ⟨hk.2.2.1, hk.2.2.2⟩⟩, hk.2.1⟩)) hg hat); have n1_ := Aside0.mk (blk_grown (g := gb128) (o := .cells #[.int .u64 x129000_1, .int .u64 x129001_1] 45 (0, 0)) (by (with_reducible repeat (first | refine blk_drewN ?_ _ | refine blk_drew ?_ | refine blk_alloc ?_ _)); exact BK128.out) hg (Kd.R_away HO_5.out (fun _ hk => hk.2.2.1))); have n2_ := Aside0.mk (blk_grown (g := gb133) (o := .cells #[.int .u64 ((rd_T45 l0 x7_1).f0), .int .u64 ((rd_T45 l0 x7_1).f1)] 45 (0, 0)) (by (with_reducible repeat (first | refine blk_drewN ?_ _ | refine blk_drew ?_ | refine blk_alloc ?_ _)); exact BK133.out) hg (Kd.R_away HO_5.out (fun _ hk => hk.2.2.2))); have n3_ := Aside0.mk (hb); have n4_ := Aside0.mk (Kept.of_grown (S := (fun k_ => P0_ k_)) hg (by repeat (first | (with_reducible first | exact HK.out | apply Kept.alloc | apply Kept.drewN | apply Kept.drew | refine Kept.setCell ?_ (.inr GW128.out) _ | refine Kept.setCell ?_ (.inr GW133.out) _) | exact HK.out)) (fun k_ e_ => (HO_5.out.1 k_ e_).1)); have n5_ := Aside0.mk (ho); clear HO_0; clear BK128; clear BK133; clear HB; clear HK; clear HO_5; have HO_0 := n0_; have BK128 := n1_; have BK133 := n2_; have HB := n3_; have HK := n4_; have HO145 := n5_; clear n0_ n1_ n2_ n3_ n4_ n5_; clear ho hb hg hat))
                      go_roundg kj9
                      case measure => have := HK1.out; have := HJ9.out; omega
                      case rel => exact ⟨(y143), (x6_1), (wrap64 (x7_1 + 1)), (x129000_1), (x129001_1), (by first | rfl | (simp; done) | (simp [*]; done)), (by first | rfl | (simp; done) | (simp [*]; done)), H', ⟨by have := HK1.out; have := HJ9.out; omega⟩, ⟨by (with_reducible repeat (first | apply Kd.R_alloc | apply Kd.R_drewN | apply Kd.R_drew)); exact Kd.R_mono HO_0.out (fun _ hk => ⟨hk.1.1, ⟨hk.2, hk.1.2.1⟩⟩)⟩, ⟨by (with_reducible repeat (first | apply Kd.R_alloc | apply Kd.R_drewN | apply Kd.R_drew)); exact Kd.R_mono HO145.out (fun _ hk => ⟨hk.1, ⟨hk.2.1, hk.2.2.1⟩⟩)⟩, ⟨by (with_reducible repeat (first | refine blk_drewN ?_ _ | refine blk_drew ?_ | refine blk_alloc ?_ _)); exact BK128.out⟩, ⟨by repeat (first | (with_reducible first | exact HK.out | apply Kept.alloc | apply Kept.drewN | apply Kept.drew | refine Kept.setCell ?_ (.inr GW128.out) _ | refine Kept.setCell ?_ (.inr GW133.out) _) | exact HK.out)⟩, ⟨by repeat (first | (with_reducible first | exact HB.out | apply below_alloc | apply pw_below_drewN | apply below_drew1 | refine below_set ?_ GE128.out | refine below_set ?_ GE133.out) | exact HB.out)⟩⟩
                    · rw [if_neg c53] at H
                      exact absurd H (by simp)
          · rw [if_neg c9] at H
            exact absurd H (by simp)
        · rw [if_neg c8] at H
          have c8b0 : decide (x7_1 < (l0.length : Int)) = false := decide_eq_false c8
          clear c8
          by_cases c58 : x6_1 = true
          · subst c58
            have H1 : (some x5_1) = some r := by rw [if_pos rfl] at H; exact H
            clear H
            have H := H1
            clear H1
            obtain rfl := Option.some.inj H
            obtain ⟨Ao59, co59, eo59⟩ := Kd.R_slice HO_0.out
            subst eo59
            go_wp2
            go_ret
            exact ⟨_, by first | rfl | (simp [errW_none, errW_some] <;> rfl) | (simp [*, errW_none, errW_some] <;> rfl), by (with_reducible repeat (first | apply Kd.R_alloc | apply Kd.R_drewN | apply Kd.R_drew)); exact Kd.R_mono HO_5.out (fun _ hk => hk.1), by repeat (first | (with_reducible first | exact HB.out | apply below_alloc | apply pw_below_drewN | apply below_drew1 | refine below_set ?_ GE128.out) | exact HB.out), by repeat (first | (with_reducible first | exact HK.out | apply Kept.alloc | apply Kept.drewN | apply Kept.drew | refine Kept.setCell ?_ (.inr GW128.out) _) | exact HK.out)⟩
          · replace c58 := Bool.eq_false_iff.mpr c58
            subst c58
            have H1 : (if x5_1.length < 8796093022208 then (some (x5_1 ++ [(⟨x129000_1, x129001_1⟩ : S45)])) else (none)) = some r := by rw [if_neg (show ¬ (false = true) by decide)] at H; exact H
            clear H
            have H := H1
            clear H1
            by_cases c60 : x5_1.length < 8796093022208
            · rw [if_pos c60] at H
              have LMc60 := Aside0.mk c60
              clear c60
              obtain ⟨y129, hy129⟩ : ∃ y_ : List (S45), y_ = (x5_1 ++ [(⟨x129000_1, x129001_1⟩ : S45)]) := ⟨_, rfl⟩
              replace H : (some y129) = some r := by first | (rw [hy129]; with_reducible exact H) | (have H2_ := (Option.bind_some _ _).symm.trans H; rw [hy129]; with_reducible exact H2_) | (have H2_ := (Option.bind_some _ _).symm.trans H; with_reducible exact H2_) | with_reducible exact H | (rw [hy129]; exact H) | exact H
              have Ny129 := Aside0.mk hy129
              clear hy129
              obtain rfl := Option.some.inj H
              obtain ⟨Ao61, co61, eo61⟩ := Kd.R_slice HO_0.out
              subst eo61
              have hcz62_0 : wr.cell? ⟨gb128, 0, none⟩ = some (.int .u64 x129000_1) := (blk_cell BK128.out 0).trans rfl
              have hcz62_1 : wr.cell? ⟨gb128, 1, none⟩ = some (.int .u64 x129001_1) := (blk_cell BK128.out 1).trans rfl
              have hfz62_0 := blk_frozen BK128.out 0
              have hfz62_1 := blk_frozen BK128.out 1
              go_wp2_with (first | ((with_reducible refine gate_builtin (b := .append) (xs := #[.tmp 72, .tmp 74]) rfl ?_); at_builtin; refine Kd.R_append k45 (w0 := w0) w0.heap.size rfl (.tmp 72) (.tmp 74) 43 45 (.agg #[(.int .u64 0), (.int .u64 0)]) 16 rfl Try.underlying43 info45 rfl (by decide) (by omega) u5 x5_1 (⟨x129000_1, x129001_1⟩ : S45) [.int .u64 x129000_1, .int .u64 x129001_1] (fun k_ => (P0_ k_ ∨ w.heap.size ≤ k_) ∧ some k_ ≠ (.slice Ao61 l0.length co61 : Value).ownBlock ∧ k_ ≠ gb128) (fun _ => False) rfl rfl ?aP (fun _ hk => hk.elim) ?aF ?aO ?aB ?aS ?aL ?_; (case aP => exact k45_mkM _ _ _ (⟨x129000_1, x129001_1⟩ : S45)); (case aB => exact (by repeat (first | (with_reducible first | exact HB.out | apply below_alloc | apply pw_below_drewN | apply below_drew1 | refine below_set ?_ GE128.out) | exact HB.out))); (case aF => exact (fun k_ hk => ⟨(.inr (Nat.le_trans (by first | exact HK.out.1 | exact (show Kept w _ (fun k_ => P0_ k_) from by repeat (first | (with_reducible first | exact HK.out | apply Kept.alloc | apply Kept.drewN | apply Kept.drew | refine Kept.setCell ?_ (.inr GW128.out) _) | exact HK.out)).1) hk)), Kd.fresh' (Kd.R_lt (by (with_reducible repeat (first | apply Kd.R_alloc | apply Kd.R_drewN | apply Kd.R_drew)); exact HO_0.out)) k_ hk, Kd.freshB (g := gb128) (o := .cells #[.int .u64 x129000_1, .int .u64 x129001_1] 45 (0, 0)) (by (with_reducible repeat (first | refine blk_drewN ?_ _ | refine blk_drew ?_ | refine blk_alloc ?_ _)); exact BK128.out) k_ hk⟩)); (case aO => exact (by (with_reducible repeat (first | apply Kd.R_alloc | apply Kd.R_drewN | apply Kd.R_drew)); exact HO_5.out)); (case aS => exact (below_size (by repeat (first | (with_reducible first | exact HB.out | apply below_alloc | apply pw_below_drewN | apply below_drew1 | refine below_set ?_ GE128.out) | exact HB.out)))); (case aL => have := LMc60.out; omega); intro v130 w63 ho hb hg hat; rw [← Ny129.out] at ho; have n0_ := Aside0.mk (Kd.R_after (ok := (fun k_ => (P0_ k_ ∨ w.heap.size ≤ k_) ∧ k_ ≠ gb128)) (by (with_reducible repeat (first | apply Kd.R_alloc | apply Kd.R_drewN | apply Kd.R_drew)); exact Kd.R_mono HO_0.out (fun _ hk => ⟨⟨hk.1, hk.2.2⟩, hk.2.1⟩)) hg hat); have n1_ := Aside0.mk (blk_grown (g := gb128) (o := .cells #[.int .u64 x129000_1, .int .u64 x129001_1] 45 (0, 0)) (by (with_reducible repeat (first | refine blk_drewN ?_ _ | refine blk_drew ?_ | refine blk_alloc ?_ _)); exact BK128.out) hg (Kd.R_away HO_5.out (fun _ hk => hk.2.2))); have n2_ := Aside0.mk (hb); have n3_ := Aside0.mk (Kept.of_grown (S := (fun k_ => P0_ k_)) hg (by repeat (first | (with_reducible first | exact HK.out | apply Kept.alloc | apply Kept.drewN | apply Kept.drew | refine Kept.setCell ?_ (.inr GW128.out) _) | exact HK.out)) (fun k_ e_ => (HO_5.out.1 k_ e_).1)); have n4_ := Aside0.mk (ho); clear HO_0; clear BK128; clear HB; clear HK; clear HO_5; have HO_0 := n0_; have BK128 := n1_; have HB := n2_; have HK := n3_; have HO131 := n4_; clear n0_ n1_ n2_ n3_ n4_; clear ho hb hg hat))
              go_ret
              exact ⟨_, by first | rfl | (simp [errW_none, errW_some] <;> rfl) | (simp [*, errW_none, errW_some] <;> rfl), by (with_reducible repeat (first | apply Kd.R_alloc | apply Kd.R_drewN | apply Kd.R_drew)); exact Kd.R_mono HO131.out (fun _ hk => hk.1), by repeat (first | (with_reducible first | exact HB.out | apply below_alloc | apply pw_below_drewN | apply below_drew1 | refine below_set ?_ GE128.out) | exact HB.out), by repeat (first | (with_reducible first | exact HK.out | apply Kept.alloc | apply Kept.drewN | apply Kept.drew | refine Kept.setCell ?_ (.inr GW128.out) _) | exact HK.out)⟩
            · rw [if_neg c60] at H
              exact absurd H (by simp)

/-! ### binnaclelaw07_Ref: function 24 -/
def binnaclelaw07_Ref.f (a0_0 : Int) (a0_1 : Int) : Option (Int × Int) := some (a0_0, a0_1)
set_option maxHeartbeats 8000000 in
set_option maxRecDepth 100000 in
theorem binnaclelaw07_Ref.calls (a0_0 : Int) (a0_1 : Int) (r1 : Int) (r2 : Int) (w : World) (h : binnaclelaw07_Ref.f a0_0 a0_1 = some (r1, r2)) :
    Calls Try.prog 24 #[.agg #[.int .u64 a0_0, .int .u64 a0_1]] w fun e w' => e = .returned (.agg #[.int .u64 r1, .int .u64 r2]) ∧ Below w.heap.size w w' := by
  have hu28 := Try.underlying28
  have hu45 := Try.underlying45
  have HB := Aside0.mk (Below.refl w.heap.size w)
  have H : (some (a0_0, a0_1)) = some (r1, r2) := h
  clear h
  simp only [Option.some.injEq, Prod.mk.injEq] at H
  obtain ⟨rfl, rfl⟩ := H
  go_enter Try.func24, Try.ntmps24
  go_wp2_with (first | ((with_reducible refine gate_dst (N := 1) rfl ?_); refine box_event ?hg (N := 1) ?hd (cs := #[.int .u64 a0_0, .int .u64 a0_1]) (t := 28) ?hr ?_; (case hd => rfl); (case hg => rfl); (case hr => first | (go_simp; done) | (go_simp; rfl)); intro gb146 hg w2 hbox hb; have n0_ := Aside0.mk (below_step (by repeat (first | (with_reducible first | exact HB.out | apply below_alloc | apply pw_below_drewN | apply below_drew1) | exact HB.out)) hb); have n1_ := Aside0.mk (hbox); have n2_ := Aside0.mk ((by rw [hg]; exact (below_size (by repeat (first | (with_reducible first | exact HB.out | apply below_alloc | apply pw_below_drewN | apply below_drew1) | exact HB.out))) : w.heap.size ≤ gb146)); have n3_ := Aside0.mk ((by rw [hg]; exact (below_size (by repeat (first | (with_reducible first | exact HB.out | apply below_alloc | apply pw_below_drewN | apply below_drew1) | exact HB.out))) : w.heap.size ≤ gb146)); clear HB; have HB := n0_; have BK146 := n1_; have GW146 := n2_; have GE146 := n3_; clear n0_ n1_ n2_ n3_; clear hb hbox hg) | ((with_reducible refine gate_dst (N := 2) rfl ?_); refine box_event ?hg (N := 2) ?hd (cs := #[.int .u64 0, .int .u64 0]) (t := 45) ?hr ?_; (case hd => rfl); (case hg => rfl); (case hr => first | (go_simp; done) | (go_simp; rfl)); intro gb147 hg w3 hbox hb; have n0_ := Aside0.mk (blk_below (g := gb146) (o := .cells #[.int .u64 a0_0, .int .u64 a0_1] 28 (0, 0)) (by (with_reducible repeat (first | refine blk_drewN ?_ _ | refine blk_drew ?_ | refine blk_alloc ?_ _)); exact BK146.out) hb); have n1_ := Aside0.mk (below_step (by repeat (first | (with_reducible first | exact HB.out | apply below_alloc | apply pw_below_drewN | apply below_drew1 | refine below_set ?_ GE146.out) | exact HB.out)) hb); have n2_ := Aside0.mk (hbox); have n3_ := Aside0.mk ((by rw [hg]; exact (below_size (by repeat (first | (with_reducible first | exact HB.out | apply below_alloc | apply pw_below_drewN | apply below_drew1 | refine below_set ?_ GE146.out) | exact HB.out))) : w.heap.size ≤ gb147)); have n4_ := Aside0.mk ((by rw [hg]; exact (below_size (by repeat (first | (with_reducible first | exact HB.out | apply below_alloc | apply pw_below_drewN | apply below_drew1 | refine below_set ?_ GE146.out) | exact HB.out))) : w.heap.size ≤ gb147)); have n5_ := Aside0.mk ((by rw [hg]; exact Nat.ne_of_lt (blk_lt (g := gb146) (o := .cells #[.int .u64 a0_0, .int .u64 a0_1] 28 (0, 0)) (by (with_reducible repeat (first | refine blk_drewN ?_ _ | refine blk_drew ?_ | refine blk_alloc ?_ _)); exact BK146.out)) : gb146 ≠ gb147)); have n6_ := Aside0.mk ((by rw [hg]; exact Nat.ne_of_gt (blk_lt (g := gb146) (o := .cells #[.int .u64 a0_0, .int .u64 a0_1] 28 (0, 0)) (by (with_reducible repeat (first | refine blk_drewN ?_ _ | refine blk_drew ?_ | refine blk_alloc ?_ _)); exact BK146.out)) : gb147 ≠ gb146)); clear BK146; clear HB; have BK146 := n0_; have HB := n1_; have BK147 := n2_; have GW147 := n3_; have GE147 := n4_; have NB146_147 := n5_; have NB147_146 := n6_; clear n0_ n1_ n2_ n3_ n4_ n5_ n6_; clear hb hbox hg; have hnb4 := NB146_147.out; have hnc4 := NB147_146.out; have hcz5_0 : w3.cell? ⟨gb146, 0, none⟩ = some (.int .u64 a0_0) := (blk_cell BK146.out 0).trans rfl; have hcz5_1 : w3.cell? ⟨gb146, 1, none⟩ = some (.int .u64 a0_1) := (blk_cell BK146.out 1).trans rfl; have hfz5_0 := blk_frozen BK146.out 0; have hfz5_1 := blk_frozen BK146.out 1; have hcz6_0 : w3.cell? ⟨gb147, 0, none⟩ = some (.int .u64 0) := (blk_cell BK147.out 0).trans rfl; have hcz6_1 : w3.cell? ⟨gb147, 1, none⟩ = some (.int .u64 0) := (blk_cell BK147.out 1).trans rfl; have hfz6_0 := blk_frozen BK147.out 0; have hfz6_1 := blk_frozen BK147.out 1))
  refine bodyPost_ret (results_cell_row rfl _ _ gb147 45 #[.int .u64 a0_0, .int .u64 a0_1] (0, 0) _ rfl (by (with_reducible repeat (first | refine blk_drewN ?_ _ | refine blk_drew ?_ | refine blk_alloc ?_ _)); refine blk_put (cs := #[.int .u64 a0_0, .int .u64 0]) ?_ 1 _ rfl; (with_reducible repeat (first | refine blk_drewN ?_ _ | refine blk_drew ?_ | refine blk_alloc ?_ _)); refine blk_put (cs := #[.int .u64 0, .int .u64 0]) ?_ 0 _ rfl; (with_reducible repeat (first | refine blk_drewN ?_ _ | refine blk_drew ?_ | refine blk_alloc ?_ _)); exact BK147.out) Try.underlying45 rfl (by kernel_rfl)) rfl ?_
  exact ⟨by first | rfl | (simp [errW_none, errW_some] <;> rfl) | (simp [*, errW_none, errW_some] <;> rfl), by repeat (first | (with_reducible first | exact HB.out | apply below_alloc | apply pw_below_drewN | apply below_drew1 | refine below_set ?_ GE146.out | refine below_set ?_ GE147.out) | exact HB.out)⟩

-- NOT PRINTED: function 25 (span_Set_AddLast)

end Go.Proofs.Ytiohjnhbapbglaa.PSpanPlays
