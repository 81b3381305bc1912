-- Began as a text that print.sh printed (its text of this seat named PEventChecksx3); one import mended.
import Derived.Test.YtclmnpdabnogkaaPEventChecksx0
import Derived.Test.YtclmnpdabnogkaaEvTab
namespace Go.Proofs.Ytclmnpdabnogkaa.PEventChecks
open Go.RowKit Go.Proofs.YtclmnpdabnogkaaW.PrintWords Go.Proofs.YtclmnpdabnogkaaW.PrintLast Go.Proofs.YtclmnpdabnogkaaW.PrintMore
attribute [local go_sem] max2_int min2_int max_two min_two max_three min_three max_four min_four   -- for this text's walks alone
set_option linter.unusedVariables false
set_option linter.unusedSimpArgs false

/-! ### event_Event_Check: function 17 -/
mutual
def event_Event_Check.j0 : Nat → Int → Int → List Int → List Int → Option (Int)
  | 0, _, _, _, _ => none
  | k + 1, x248000, x248001, x248002, x248003 => event_Event_Check.l0 k x248002 (x248002.length : Int) 0
def event_Event_Check.l0 : Nat → List Int → Int → Int → Option (Int)
  | 0, _, _, _ => none
  | k + 1, x45, x46, x47 => if x47 < x46 then (if 0 ≤ x47 then (if x47 < (x45.length : Int) then (if (rd x45 x47) > 4611686018427387903 then (some 2) else (event_Event_Check.l0 k x45 x46 (wrap64 (x47 + 1)))) else (none)) else (none)) else (some 0)
end
def event_Event_Check.f (k : Nat) (a0_0 : Int) (a0_1 : Int) (l0_2 : List Int) (l0_3 : List Int) : Option (Int) := (event_Of.f a0_0).bind fun bt248 => (if bt248.2.2.2 = true then (if a0_1 > 1125899906842624 then (some 21) else (if (l0_2.length : Int) = (bt248.2.1.length : Int) then (if (l0_3.length : Int) > 20 then (some 4) else (if bt248.2.2.1 = true then (event_Event_Check.j0 k a0_0 a0_1 l0_2 l0_3) else (if (l0_3.length : Int) > 0 then (some 4) else (event_Event_Check.j0 k a0_0 a0_1 l0_2 l0_3)))) else (some 6))) else (some 5))
theorem event_Event_Check.mono_l : ∀ k, (∀ y0 y1 y2 y3, LeO (event_Event_Check.j0 k y0 y1 y2 y3) (event_Event_Check.j0 (k + 1) y0 y1 y2 y3)) ∧ (∀ y0 y1 y2, LeO (event_Event_Check.l0 k y0 y1 y2) (event_Event_Check.l0 (k + 1) y0 y1 y2))
  | 0 => ⟨fun _ _ _ _ r h => by simp [event_Event_Check.j0] at h, fun _ _ _ r h => by simp [event_Event_Check.l0] at h⟩
  | k + 1 => by
    obtain ⟨ih0, ih1⟩ := event_Event_Check.mono_l k
    refine ⟨?_, ?_⟩
    · intro y0 y1 y2 y3
      unfold event_Event_Check.j0
      repeat' first
      | (with_reducible exact ih0 _ _ _ _)
      | (with_reducible exact ih1 _ _ _)
      | (with_reducible exact LeO.refl _)
      | (with_reducible exact LeO.none _)
      | (with_reducible refine LeO.ite ?_ ?_)
      | (with_reducible refine LeO.bind ?_ (fun _ => ?_))
      | exact ih0 _ _ _ _
      | exact ih1 _ _ _
      | exact LeO.none _
      | refine LeO.ite ?_ ?_
      | refine LeO.bind ?_ (fun _ => ?_)
    · intro y0 y1 y2
      unfold event_Event_Check.l0
      repeat' first
      | (with_reducible exact ih0 _ _ _ _)
      | (with_reducible exact ih1 _ _ _)
      | (with_reducible exact LeO.refl _)
      | (with_reducible exact LeO.none _)
      | (with_reducible refine LeO.ite ?_ ?_)
      | (with_reducible refine LeO.bind ?_ (fun _ => ?_))
      | exact ih0 _ _ _ _
      | exact ih1 _ _ _
      | exact LeO.none _
      | refine LeO.ite ?_ ?_
      | refine LeO.bind ?_ (fun _ => ?_)
theorem event_Event_Check.mono : ∀ a0 a1 a2 a3 k, LeO (event_Event_Check.f k a0 a1 a2 a3) (event_Event_Check.f (k + 1) a0 a1 a2 a3) := by
  intro a0 a1 a2 a3 k
  obtain ⟨ih0, ih1⟩ := event_Event_Check.mono_l k
  unfold event_Event_Check.f
  repeat' first
      | (with_reducible exact ih0 _ _ _ _)
      | (with_reducible exact ih1 _ _ _)
      | (with_reducible exact LeO.refl _)
      | (with_reducible exact LeO.none _)
      | (with_reducible refine LeO.ite ?_ ?_)
      | (with_reducible refine LeO.bind ?_ (fun _ => ?_))
      | exact ih0 _ _ _ _
      | exact ih1 _ _ _
      | exact LeO.none _
      | refine LeO.ite ?_ ?_
      | refine LeO.bind ?_ (fun _ => ?_)
set_option maxHeartbeats 8000000 in
set_option maxRecDepth 100000 in
theorem event_Event_Check.calls (k : Nat) (a0_0 : Int) (a0_1 : Int) (A0_2 : Option Addr) (c0_2 : Nat) (l0_2 : List Int) (A0_3 : Option Addr) (c0_3 : Nat) (l0_3 : List Int) (r : Int) (w : World) (hr0_2 : Kd.C (Kd.int .u64) w A0_2 l0_2.length l0_2) (hc0_2 : l0_2.length ≤ c0_2) (hr0_3 : Kd.C (Kd.int .u8) w A0_3 l0_3.length l0_3) (hc0_3 : l0_3.length ≤ c0_3) (h : event_Event_Check.f k a0_0 a0_1 l0_2 l0_3 = some r) :
    Calls Try.prog 17 #[.agg #[.int .u8 a0_0, .int .u64 a0_1, .slice A0_2 l0_2.length c0_2, .slice A0_3 l0_3.length c0_3]] w fun e w' => e = .returned (.int .i64 r) ∧ Below w.heap.size w w' := by
  have hu40 := Try.underlying40
  have hu27 := Try.underlying27
  have HR0_2 := Aside0.mk hr0_2
  have HC0_2 := Aside0.mk hc0_2
  clear hr0_2 hc0_2
  have HR0_3 := Aside0.mk hr0_3
  have HC0_3 := Aside0.mk hc0_3
  clear hr0_3 hc0_3
  have HB := Aside0.mk (Below.refl w.heap.size w)
  have H : ((event_Of.f a0_0).bind fun bt248 => (if bt248.2.2.2 = true then (if a0_1 > 1125899906842624 then (some 21) else (if (l0_2.length : Int) = (bt248.2.1.length : Int) then (if (l0_3.length : Int) > 20 then (some 4) else (if bt248.2.2.1 = true then (event_Event_Check.j0 k a0_0 a0_1 l0_2 l0_3) else (if (l0_3.length : Int) > 0 then (some 4) else (event_Event_Check.j0 k a0_0 a0_1 l0_2 l0_3)))) else (some 6))) else (some 5))) = some r := h
  clear h
  replace H := Option.bind_eq_some_iff.mp H
  obtain ⟨⟨t248, t249, t252, t253⟩, A20, H⟩ := H
  replace H : (if t253 = true then (if a0_1 > 1125899906842624 then (some 21) else (if (l0_2.length : Int) = (t249.length : Int) then (if (l0_3.length : Int) > 20 then (some 4) else (if t252 = true then (event_Event_Check.j0 k a0_0 a0_1 l0_2 l0_3) else (if (l0_3.length : Int) > 0 then (some 4) else (event_Event_Check.j0 k a0_0 a0_1 l0_2 l0_3)))) else (some 6))) else (some 5)) = some r := H
  have A2 := Aside0.mk A20
  clear A20
  have HC3 := Aside0.mk H
  clear H
  go_enter Try.func17, Try.ntmps17
  go_upto_block 0 with (first | ((with_reducible refine gate_dst (N := 1) rfl ?_); (try (refine gate_guard (by rfl) ?_; dsimp only)); refine box_event ?hg (N := 1) ?hd (cs := #[.int .u8 a0_0, .int .u64 a0_1, .slice A0_2 l0_2.length c0_2, .slice A0_3 l0_3.length c0_3]) (t := 40) ?hr ?_; (case hd => rfl); (case hg => rfl); (case hr => first | (go_simp; done) | (go_simp; rfl)); intro gb247 hg w4 hbox hb; have n0_ := Aside0.mk (below_step (by repeat (first | (with_reducible first | exact HB.out | apply below_alloc | apply pw_below_drewN | apply below_drew1) | exact HB.out)) hb); have n1_ := Aside0.mk (hbox); have n2_ := Aside0.mk ((by rw [hg]; exact (below_size (by repeat (first | (with_reducible first | exact HB.out | apply below_alloc | apply pw_below_drewN | apply below_drew1) | exact HB.out))) : w.heap.size ≤ gb247)); have n3_ := Aside0.mk ((by rw [hg]; exact (below_size (by repeat (first | (with_reducible first | exact HB.out | apply below_alloc | apply pw_below_drewN | apply below_drew1) | exact HB.out))) : w.heap.size ≤ gb247)); clear HB; have HB := n0_; have BK247 := n1_; have GW247 := n2_; have GE247 := n3_; clear n0_ n1_ n2_ n3_; clear hb hbox hg; have hcz5_0 : w4.cell? ⟨gb247, 0, none⟩ = some (.int .u8 a0_0) := (blk_cell BK247.out 0).trans rfl; have hcz5_1 : w4.cell? ⟨gb247, 1, none⟩ = some (.int .u64 a0_1) := (blk_cell BK247.out 1).trans rfl; have hcz5_2 : w4.cell? ⟨gb247, 2, none⟩ = some (.slice A0_2 l0_2.length c0_2) := (blk_cell BK247.out 2).trans rfl; have hcz5_3 : w4.cell? ⟨gb247, 3, none⟩ = some (.slice A0_3 l0_3.length c0_3) := (blk_cell BK247.out 3).trans rfl; have hfz5_0 := blk_frozen BK247.out 0; have hfz5_1 := blk_frozen BK247.out 1; have hfz5_2 := blk_frozen BK247.out 2; have hfz5_3 := blk_frozen BK247.out 3) | ((with_reducible refine gate_callee (f := 10) rfl ?_); refine goesL_ (some 10) rfl rfl Try.func10 (by kernel_rfl) rfl #[.int .u8 a0_0] rfl (by (try simp only [List.map_toArray, List.map_cons, List.map_nil]); first | done | rfl | (simp only [List.length_drop, List.length_take]; rfl)) ?_; (with_reducible refine (event_Of.calls a0_0 t248 t249 t252 t253 _ A2.out).mono ?_); rintro e w6 ⟨v250, rfl, ho0, hb⟩; refine ⟨_, rfl, ?_⟩; have n0_ := Aside0.mk (Kd.V_lower (Kd.V_mono (ok' := fun k_ => k_ ≠ gb247) ho0 (fun k_ hk_ => (Kd.freshB (g := gb247) (o := .cells #[.int .u8 a0_0, .int .u64 a0_1, .slice A0_2 l0_2.length c0_2, .slice A0_3 l0_3.length c0_3] 40 (0, 0)) (by (with_reducible repeat (first | refine blk_drewN ?_ _ | refine blk_drew ?_ | refine blk_alloc ?_ _)); exact BK247.out) k_ hk_))) (below_size (by repeat (first | (with_reducible first | exact HB.out | apply below_alloc | apply pw_below_drewN | apply below_drew1 | refine below_set ?_ GE247.out) | exact HB.out)))); have n1_ := Aside0.mk (blk_below (g := gb247) (o := .cells #[.int .u8 a0_0, .int .u64 a0_1, .slice A0_2 l0_2.length c0_2, .slice A0_3 l0_3.length c0_3] 40 (0, 0)) (by (with_reducible repeat (first | refine blk_drewN ?_ _ | refine blk_drew ?_ | refine blk_alloc ?_ _)); exact BK247.out) hb); have n2_ := Aside0.mk (below_step (by repeat (first | (with_reducible first | exact HB.out | apply below_alloc | apply pw_below_drewN | apply below_drew1 | refine below_set ?_ GE247.out) | exact HB.out)) hb); clear BK247; clear HB; have HO251 := n0_; have BK247 := n1_; have HB := n2_; clear n0_ n1_ n2_; (try clear hb); (try clear hb2); (try clear hk); (try clear hi); (try clear ho0)) | ((with_reducible refine gate_dst (N := 3) rfl ?_); (try (refine gate_guard (by rfl) ?_; dsimp only)); refine box_event ?hg (N := 3) ?hd (cs := #[.string (⟨#[]⟩ : ByteArray), .slice none 0 0, .bool false]) (t := 27) ?hr ?_; (case hd => rfl); (case hg => rfl); (case hr => first | (go_simp; done) | (go_simp; rfl)); intro gb254 hg w7 hbox hb; have n0_ := Aside0.mk (Kd.V_below (Kd.V_elderB (by (with_reducible repeat (first | apply Kd.V_alloc | apply Kd.V_drewN | apply Kd.V_drew)); exact HO251.out) gb254 (Nat.le_of_eq hg.symm)) hb); have n1_ := Aside0.mk (blk_below (g := gb247) (o := .cells #[.int .u8 a0_0, .int .u64 a0_1, .slice A0_2 l0_2.length c0_2, .slice A0_3 l0_3.length c0_3] 40 (0, 0)) (by (with_reducible repeat (first | refine blk_drewN ?_ _ | refine blk_drew ?_ | refine blk_alloc ?_ _)); exact BK247.out) hb); have n2_ := Aside0.mk (below_step (by repeat (first | (with_reducible first | exact HB.out | apply below_alloc | apply pw_below_drewN | apply below_drew1 | refine below_set ?_ GE247.out) | exact HB.out)) hb); have n3_ := Aside0.mk (hbox); have n4_ := Aside0.mk ((by rw [hg]; exact (below_size (by repeat (first | (with_reducible first | exact HB.out | apply below_alloc | apply pw_below_drewN | apply below_drew1 | refine below_set ?_ GE247.out) | exact HB.out))) : w.heap.size ≤ gb254)); have n5_ := Aside0.mk ((by rw [hg]; exact (below_size (by repeat (first | (with_reducible first | exact HB.out | apply below_alloc | apply pw_below_drewN | apply below_drew1 | refine below_set ?_ GE247.out) | exact HB.out))) : w.heap.size ≤ gb254)); have n6_ := Aside0.mk ((by rw [hg]; exact Nat.ne_of_lt (blk_lt (g := gb247) (o := .cells #[.int .u8 a0_0, .int .u64 a0_1, .slice A0_2 l0_2.length c0_2, .slice A0_3 l0_3.length c0_3] 40 (0, 0)) (by (with_reducible repeat (first | refine blk_drewN ?_ _ | refine blk_drew ?_ | refine blk_alloc ?_ _)); exact BK247.out)) : gb247 ≠ gb254)); have n7_ := Aside0.mk ((by rw [hg]; exact Nat.ne_of_gt (blk_lt (g := gb247) (o := .cells #[.int .u8 a0_0, .int .u64 a0_1, .slice A0_2 l0_2.length c0_2, .slice A0_3 l0_3.length c0_3] 40 (0, 0)) (by (with_reducible repeat (first | refine blk_drewN ?_ _ | refine blk_drew ?_ | refine blk_alloc ?_ _)); exact BK247.out)) : gb254 ≠ gb247)); clear HO251; clear BK247; clear HB; have HO251 := n0_; have BK247 := n1_; have HB := n2_; have BK254 := n3_; have GW254 := n4_; have GE254 := n5_; have NB247_254 := n6_; have NB254_247 := n7_; clear n0_ n1_ n2_ n3_ n4_ n5_ n6_ n7_; clear hb hbox hg; have hnb8 := NB254_247.out; have hnc8 := NB247_254.out; have hcz9_0 : w7.cell? ⟨gb254, 0, none⟩ = some (.string (⟨#[]⟩ : ByteArray)) := (blk_cell BK254.out 0).trans rfl; have hcz9_1 : w7.cell? ⟨gb254, 1, none⟩ = some (.slice none 0 0) := (blk_cell BK254.out 1).trans rfl; have hcz9_2 : w7.cell? ⟨gb254, 2, none⟩ = some (.bool false) := (blk_cell BK254.out 2).trans rfl; have hfz9_0 := blk_frozen BK254.out 0; have hfz9_1 := blk_frozen BK254.out 1; have hfz9_2 := blk_frozen BK254.out 2; obtain ⟨Ao10, co10, eo10⟩ := Kd.V_slice HO251.out; subst eo10))
  (try simp only [Act.put, List.setIfInBounds_toArray, List.set_cons_zero, List.set_cons_succ])
  go_cut [] (fun wc => ∃ (kq : Nat), Aside0 (event_Event_Check.j0 kq a0_0 a0_1 l0_2 l0_3 = some r) ∧ Aside0 (kq ≤ k) ∧ Aside0 (Kd.V Kd.string 9 wc w.heap.size (fun k_ => k_ ≠ gb247 ∧ k_ ≠ gb254) (.slice Ao10 t249.length co10) t249) ∧ Aside0 (wc.heap[gb247]? = some (.cells #[.int .u8 a0_0, .int .u64 a0_1, (.slice A0_2 l0_2.length c0_2), (.slice A0_3 l0_3.length c0_3)] 40 (0, 0))) ∧ Aside0 (wc.heap[gb254]? = some (.cells #[.string t248, (.slice Ao10 t249.length co10), .bool t252] 27 (0, 0))) ∧ Aside0 (Below w.heap.size w wc))
  case first =>
    have H := HC3.out
    clear HC3
    by_cases c11 : t253 = true
    · subst c11
      have H1 : (if a0_1 > 1125899906842624 then (some 21) else (if (l0_2.length : Int) = (t249.length : Int) then (if (l0_3.length : Int) > 20 then (some 4) else (if t252 = true then (event_Event_Check.j0 k a0_0 a0_1 l0_2 l0_3) else (if (l0_3.length : Int) > 0 then (some 4) else (event_Event_Check.j0 k a0_0 a0_1 l0_2 l0_3)))) else (some 6))) = some r := by rw [if_pos rfl] at H; exact H
      clear H
      have H := H1
      clear H1
      by_cases c12 : a0_1 > 1125899906842624
      · rw [if_pos c12] at H
        have c12b0 : decide (1125899906842624 < a0_1) = true := decide_eq_true c12
        clear c12
        (first | rw [c12b0] | (simp only [i64_w, i32_w]; rw [c12b0]) | skip)
        obtain rfl := Option.some.inj H
        have hnb13 := NB247_254.out
        have hnc13 := NB254_247.out
        have hcz14_0 : w7.cell? ⟨gb247, 0, none⟩ = some (.int .u8 a0_0) := (blk_cell BK247.out 0).trans rfl
        have hcz14_1 : w7.cell? ⟨gb247, 1, none⟩ = some (.int .u64 a0_1) := (blk_cell BK247.out 1).trans rfl
        have hcz14_2 : w7.cell? ⟨gb247, 2, none⟩ = some (.slice A0_2 l0_2.length c0_2) := (blk_cell BK247.out 2).trans rfl
        have hcz14_3 : w7.cell? ⟨gb247, 3, none⟩ = some (.slice A0_3 l0_3.length c0_3) := (blk_cell BK247.out 3).trans rfl
        have hfz14_0 := blk_frozen BK247.out 0
        have hfz14_1 := blk_frozen BK247.out 1
        have hfz14_2 := blk_frozen BK247.out 2
        have hfz14_3 := blk_frozen BK247.out 3
        go_wp2
        go_ret
        exact ⟨by first | rfl | (simp [errW_none, errW_some] <;> rfl) | (simp [*, errW_none, errW_some] <;> rfl), by repeat (first | (with_reducible first | exact HB.out | apply below_alloc | apply pw_below_drewN | apply below_drew1 | refine below_set ?_ GE247.out | refine below_set ?_ GE254.out) | exact HB.out)⟩
      · rw [if_neg c12] at H
        have c12b0 : decide (1125899906842624 < a0_1) = false := decide_eq_false c12
        clear c12
        (first | rw [c12b0] | (simp only [i64_w, i32_w]; rw [c12b0]) | skip)
        by_cases c15 : (l0_2.length : Int) = (t249.length : Int)
        · rw [if_pos c15] at H
          have c15b0 : ((l0_2.length : Int) == (t249.length : Int)) = true := beq_iff_eq.mpr c15
          have c15b1 : ((l0_2.length : Int) != (t249.length : Int)) = false := bne_eq_false_iff_eq.mpr c15
          have c15b2 : (l0_2.length == t249.length) = true := by first | simpa using c15 | (simp at c15 ⊢; omega)
          clear c15
          by_cases c16 : (l0_3.length : Int) > 20
          · rw [if_pos c16] at H
            have c16b0 : decide (20 < (l0_3.length : Int)) = true := decide_eq_true c16
            have c16b1 : decide (20 < l0_3.length) = true := decide_eq_true (by omega)
            clear c16
            obtain rfl := Option.some.inj H
            have hnb17 := NB247_254.out
            have hnc17 := NB254_247.out
            have hcz18_0 : w7.cell? ⟨gb247, 0, none⟩ = some (.int .u8 a0_0) := (blk_cell BK247.out 0).trans rfl
            have hcz18_1 : w7.cell? ⟨gb247, 1, none⟩ = some (.int .u64 a0_1) := (blk_cell BK247.out 1).trans rfl
            have hcz18_2 : w7.cell? ⟨gb247, 2, none⟩ = some (.slice A0_2 l0_2.length c0_2) := (blk_cell BK247.out 2).trans rfl
            have hcz18_3 : w7.cell? ⟨gb247, 3, none⟩ = some (.slice A0_3 l0_3.length c0_3) := (blk_cell BK247.out 3).trans rfl
            have hfz18_0 := blk_frozen BK247.out 0
            have hfz18_1 := blk_frozen BK247.out 1
            have hfz18_2 := blk_frozen BK247.out 2
            have hfz18_3 := blk_frozen BK247.out 3
            have hcz19_0 : w7.cell? ⟨gb254, 0, none⟩ = some (.string (⟨#[]⟩ : ByteArray)) := (blk_cell BK254.out 0).trans rfl
            have hcz19_1 : w7.cell? ⟨gb254, 1, none⟩ = some (.slice none 0 0) := (blk_cell BK254.out 1).trans rfl
            have hcz19_2 : w7.cell? ⟨gb254, 2, none⟩ = some (.bool false) := (blk_cell BK254.out 2).trans rfl
            have hfz19_0 := blk_frozen BK254.out 0
            have hfz19_1 := blk_frozen BK254.out 1
            have hfz19_2 := blk_frozen BK254.out 2
            go_wp2
            go_ret
            exact ⟨by first | rfl | (simp [errW_none, errW_some] <;> rfl) | (simp [*, errW_none, errW_some] <;> rfl), by repeat (first | (with_reducible first | exact HB.out | apply below_alloc | apply pw_below_drewN | apply below_drew1 | refine below_set ?_ GE247.out | refine below_set ?_ GE254.out) | exact HB.out)⟩
          · rw [if_neg c16] at H
            have c16b0 : decide (20 < (l0_3.length : Int)) = false := decide_eq_false c16
            have c16b1 : decide (20 < l0_3.length) = false := decide_eq_false (by omega)
            clear c16
            by_cases c20 : t252 = true
            · subst c20
              have H1 : (event_Event_Check.j0 k a0_0 a0_1 l0_2 l0_3) = some r := by rw [if_pos rfl] at H; exact H
              clear H
              have H := H1
              clear H1
              have H' := Aside0.mk H
              clear H
              have hnb21 := NB247_254.out
              have hnc21 := NB254_247.out
              have hcz22_0 : w7.cell? ⟨gb247, 0, none⟩ = some (.int .u8 a0_0) := (blk_cell BK247.out 0).trans rfl
              have hcz22_1 : w7.cell? ⟨gb247, 1, none⟩ = some (.int .u64 a0_1) := (blk_cell BK247.out 1).trans rfl
              have hcz22_2 : w7.cell? ⟨gb247, 2, none⟩ = some (.slice A0_2 l0_2.length c0_2) := (blk_cell BK247.out 2).trans rfl
              have hcz22_3 : w7.cell? ⟨gb247, 3, none⟩ = some (.slice A0_3 l0_3.length c0_3) := (blk_cell BK247.out 3).trans rfl
              have hfz22_0 := blk_frozen BK247.out 0
              have hfz22_1 := blk_frozen BK247.out 1
              have hfz22_2 := blk_frozen BK247.out 2
              have hfz22_3 := blk_frozen BK247.out 3
              have hcz23_0 : w7.cell? ⟨gb254, 0, none⟩ = some (.string (⟨#[]⟩ : ByteArray)) := (blk_cell BK254.out 0).trans rfl
              have hcz23_1 : w7.cell? ⟨gb254, 1, none⟩ = some (.slice none 0 0) := (blk_cell BK254.out 1).trans rfl
              have hcz23_2 : w7.cell? ⟨gb254, 2, none⟩ = some (.bool false) := (blk_cell BK254.out 2).trans rfl
              have hfz23_0 := blk_frozen BK254.out 0
              have hfz23_1 := blk_frozen BK254.out 1
              have hfz23_2 := blk_frozen BK254.out 2
              go_wp2
              go_meet
              case rel => exact ⟨_, H', ⟨by first | omega | exact Nat.le_refl _⟩, ⟨by (with_reducible repeat (first | apply Kd.V_alloc | apply Kd.V_drewN | apply Kd.V_drew)); exact Kd.V_mono (Kd.V_far (p := ⟨gb254, 2, none⟩) (Kd.V_far (p := ⟨gb254, 1, none⟩) (Kd.V_far (p := ⟨gb254, 0, none⟩) (Kd.V_mono HO251.out (fun k_ hk => (⟨hk, hk.2⟩ : _ ∧ k_ ≠ gb254))) (fun _ hk => hk.2) (.string t248)) (fun _ hk => hk.2) (.slice Ao10 t249.length co10)) (fun _ hk => hk.2) (.bool true)) (fun _ hk => ⟨hk.1.1, hk.1.2⟩)⟩, ⟨by (with_reducible repeat (first | refine blk_drewN ?_ _ | refine blk_drew ?_ | refine blk_alloc ?_ _)); refine blk_far ?_ NB247_254.out _; (with_reducible repeat (first | refine blk_drewN ?_ _ | refine blk_drew ?_ | refine blk_alloc ?_ _)); refine blk_far ?_ NB247_254.out _; (with_reducible repeat (first | refine blk_drewN ?_ _ | refine blk_drew ?_ | refine blk_alloc ?_ _)); refine blk_far ?_ NB247_254.out _; (with_reducible repeat (first | refine blk_drewN ?_ _ | refine blk_drew ?_ | refine blk_alloc ?_ _)); exact BK247.out⟩, ⟨by (with_reducible repeat (first | refine blk_drewN ?_ _ | refine blk_drew ?_ | refine blk_alloc ?_ _)); refine blk_put (cs := #[.string t248, .slice Ao10 t249.length co10, .bool false]) ?_ 2 _ rfl; (with_reducible repeat (first | refine blk_drewN ?_ _ | refine blk_drew ?_ | refine blk_alloc ?_ _)); refine blk_put (cs := #[.string t248, .slice none 0 0, .bool false]) ?_ 1 _ rfl; (with_reducible repeat (first | refine blk_drewN ?_ _ | refine blk_drew ?_ | refine blk_alloc ?_ _)); refine blk_put (cs := #[.string (⟨#[]⟩ : ByteArray), .slice none 0 0, .bool false]) ?_ 0 _ rfl; (with_reducible repeat (first | refine blk_drewN ?_ _ | refine blk_drew ?_ | refine blk_alloc ?_ _)); exact BK254.out⟩, ⟨by repeat (first | (with_reducible first | exact HB.out | apply below_alloc | apply pw_below_drewN | apply below_drew1 | refine below_set ?_ GE247.out | refine below_set ?_ GE254.out) | exact HB.out)⟩⟩
            · replace c20 := Bool.eq_false_iff.mpr c20
              subst c20
              have H1 : (if (l0_3.length : Int) > 0 then (some 4) else (event_Event_Check.j0 k a0_0 a0_1 l0_2 l0_3)) = some r := by rw [if_neg (show ¬ (false = true) by decide)] at H; exact H
              clear H
              have H := H1
              clear H1
              by_cases c24 : (l0_3.length : Int) > 0
              · rw [if_pos c24] at H
                have c24b0 : decide (0 < (l0_3.length : Int)) = true := decide_eq_true c24
                have c24b1 : decide (0 < l0_3.length) = true := decide_eq_true (by omega)
                clear c24
                obtain rfl := Option.some.inj H
                have hnb25 := NB247_254.out
                have hnc25 := NB254_247.out
                have hcz26_0 : w7.cell? ⟨gb247, 0, none⟩ = some (.int .u8 a0_0) := (blk_cell BK247.out 0).trans rfl
                have hcz26_1 : w7.cell? ⟨gb247, 1, none⟩ = some (.int .u64 a0_1) := (blk_cell BK247.out 1).trans rfl
                have hcz26_2 : w7.cell? ⟨gb247, 2, none⟩ = some (.slice A0_2 l0_2.length c0_2) := (blk_cell BK247.out 2).trans rfl
                have hcz26_3 : w7.cell? ⟨gb247, 3, none⟩ = some (.slice A0_3 l0_3.length c0_3) := (blk_cell BK247.out 3).trans rfl
                have hfz26_0 := blk_frozen BK247.out 0
                have hfz26_1 := blk_frozen BK247.out 1
                have hfz26_2 := blk_frozen BK247.out 2
                have hfz26_3 := blk_frozen BK247.out 3
                have hcz27_0 : w7.cell? ⟨gb254, 0, none⟩ = some (.string (⟨#[]⟩ : ByteArray)) := (blk_cell BK254.out 0).trans rfl
                have hcz27_1 : w7.cell? ⟨gb254, 1, none⟩ = some (.slice none 0 0) := (blk_cell BK254.out 1).trans rfl
                have hcz27_2 : w7.cell? ⟨gb254, 2, none⟩ = some (.bool false) := (blk_cell BK254.out 2).trans rfl
                have hfz27_0 := blk_frozen BK254.out 0
                have hfz27_1 := blk_frozen BK254.out 1
                have hfz27_2 := blk_frozen BK254.out 2
                go_wp2
                go_ret
                exact ⟨by first | rfl | (simp [errW_none, errW_some] <;> rfl) | (simp [*, errW_none, errW_some] <;> rfl), by repeat (first | (with_reducible first | exact HB.out | apply below_alloc | apply pw_below_drewN | apply below_drew1 | refine below_set ?_ GE247.out | refine below_set ?_ GE254.out) | exact HB.out)⟩
              · rw [if_neg c24] at H
                have c24b0 : decide (0 < (l0_3.length : Int)) = false := decide_eq_false c24
                have c24b1 : decide (0 < l0_3.length) = false := decide_eq_false (by omega)
                clear c24
                have H' := Aside0.mk H
                clear H
                have hnb28 := NB247_254.out
                have hnc28 := NB254_247.out
                have hcz29_0 : w7.cell? ⟨gb247, 0, none⟩ = some (.int .u8 a0_0) := (blk_cell BK247.out 0).trans rfl
                have hcz29_1 : w7.cell? ⟨gb247, 1, none⟩ = some (.int .u64 a0_1) := (blk_cell BK247.out 1).trans rfl
                have hcz29_2 : w7.cell? ⟨gb247, 2, none⟩ = some (.slice A0_2 l0_2.length c0_2) := (blk_cell BK247.out 2).trans rfl
                have hcz29_3 : w7.cell? ⟨gb247, 3, none⟩ = some (.slice A0_3 l0_3.length c0_3) := (blk_cell BK247.out 3).trans rfl
                have hfz29_0 := blk_frozen BK247.out 0
                have hfz29_1 := blk_frozen BK247.out 1
                have hfz29_2 := blk_frozen BK247.out 2
                have hfz29_3 := blk_frozen BK247.out 3
                have hcz30_0 : w7.cell? ⟨gb254, 0, none⟩ = some (.string (⟨#[]⟩ : ByteArray)) := (blk_cell BK254.out 0).trans rfl
                have hcz30_1 : w7.cell? ⟨gb254, 1, none⟩ = some (.slice none 0 0) := (blk_cell BK254.out 1).trans rfl
                have hcz30_2 : w7.cell? ⟨gb254, 2, none⟩ = some (.bool false) := (blk_cell BK254.out 2).trans rfl
                have hfz30_0 := blk_frozen BK254.out 0
                have hfz30_1 := blk_frozen BK254.out 1
                have hfz30_2 := blk_frozen BK254.out 2
                go_wp2
                go_meet
                case rel => exact ⟨_, H', ⟨by first | omega | exact Nat.le_refl _⟩, ⟨by (with_reducible repeat (first | apply Kd.V_alloc | apply Kd.V_drewN | apply Kd.V_drew)); exact Kd.V_mono (Kd.V_far (p := ⟨gb254, 2, none⟩) (Kd.V_far (p := ⟨gb254, 1, none⟩) (Kd.V_far (p := ⟨gb254, 0, none⟩) (Kd.V_mono HO251.out (fun k_ hk => (⟨hk, hk.2⟩ : _ ∧ k_ ≠ gb254))) (fun _ hk => hk.2) (.string t248)) (fun _ hk => hk.2) (.slice Ao10 t249.length co10)) (fun _ hk => hk.2) (.bool false)) (fun _ hk => ⟨hk.1.1, hk.1.2⟩)⟩, ⟨by (with_reducible repeat (first | refine blk_drewN ?_ _ | refine blk_drew ?_ | refine blk_alloc ?_ _)); refine blk_far ?_ NB247_254.out _; (with_reducible repeat (first | refine blk_drewN ?_ _ | refine blk_drew ?_ | refine blk_alloc ?_ _)); refine blk_far ?_ NB247_254.out _; (with_reducible repeat (first | refine blk_drewN ?_ _ | refine blk_drew ?_ | refine blk_alloc ?_ _)); refine blk_far ?_ NB247_254.out _; (with_reducible repeat (first | refine blk_drewN ?_ _ | refine blk_drew ?_ | refine blk_alloc ?_ _)); exact BK247.out⟩, ⟨by (with_reducible repeat (first | refine blk_drewN ?_ _ | refine blk_drew ?_ | refine blk_alloc ?_ _)); refine blk_put (cs := #[.string t248, .slice Ao10 t249.length co10, .bool false]) ?_ 2 _ rfl; (with_reducible repeat (first | refine blk_drewN ?_ _ | refine blk_drew ?_ | refine blk_alloc ?_ _)); refine blk_put (cs := #[.string t248, .slice none 0 0, .bool false]) ?_ 1 _ rfl; (with_reducible repeat (first | refine blk_drewN ?_ _ | refine blk_drew ?_ | refine blk_alloc ?_ _)); refine blk_put (cs := #[.string (⟨#[]⟩ : ByteArray), .slice none 0 0, .bool false]) ?_ 0 _ rfl; (with_reducible repeat (first | refine blk_drewN ?_ _ | refine blk_drew ?_ | refine blk_alloc ?_ _)); exact BK254.out⟩, ⟨by repeat (first | (with_reducible first | exact HB.out | apply below_alloc | apply pw_below_drewN | apply below_drew1 | refine below_set ?_ GE247.out | refine below_set ?_ GE254.out) | exact HB.out)⟩⟩
        · rw [if_neg c15] at H
          have c15b0 : ((l0_2.length : Int) == (t249.length : Int)) = false := beq_eq_false_iff_ne.mpr c15
          have c15b1 : ((l0_2.length : Int) != (t249.length : Int)) = true := bne_iff_ne.mpr c15
          have c15b2 : (l0_2.length == t249.length) = false := by first | simpa using c15 | (simp at c15 ⊢; omega)
          obtain rfl := Option.some.inj H
          have hnb31 := NB247_254.out
          have hnc31 := NB254_247.out
          have hcz32_0 : w7.cell? ⟨gb247, 0, none⟩ = some (.int .u8 a0_0) := (blk_cell BK247.out 0).trans rfl
          have hcz32_1 : w7.cell? ⟨gb247, 1, none⟩ = some (.int .u64 a0_1) := (blk_cell BK247.out 1).trans rfl
          have hcz32_2 : w7.cell? ⟨gb247, 2, none⟩ = some (.slice A0_2 l0_2.length c0_2) := (blk_cell BK247.out 2).trans rfl
          have hcz32_3 : w7.cell? ⟨gb247, 3, none⟩ = some (.slice A0_3 l0_3.length c0_3) := (blk_cell BK247.out 3).trans rfl
          have hfz32_0 := blk_frozen BK247.out 0
          have hfz32_1 := blk_frozen BK247.out 1
          have hfz32_2 := blk_frozen BK247.out 2
          have hfz32_3 := blk_frozen BK247.out 3
          have hcz33_0 : w7.cell? ⟨gb254, 0, none⟩ = some (.string (⟨#[]⟩ : ByteArray)) := (blk_cell BK254.out 0).trans rfl
          have hcz33_1 : w7.cell? ⟨gb254, 1, none⟩ = some (.slice none 0 0) := (blk_cell BK254.out 1).trans rfl
          have hcz33_2 : w7.cell? ⟨gb254, 2, none⟩ = some (.bool false) := (blk_cell BK254.out 2).trans rfl
          have hfz33_0 := blk_frozen BK254.out 0
          have hfz33_1 := blk_frozen BK254.out 1
          have hfz33_2 := blk_frozen BK254.out 2
          go_wp2
          go_ret
          exact ⟨by first | rfl | (simp [errW_none, errW_some] <;> rfl) | (simp [*, errW_none, errW_some] <;> rfl), by repeat (first | (with_reducible first | exact HB.out | apply below_alloc | apply pw_below_drewN | apply below_drew1 | refine below_set ?_ GE247.out | refine below_set ?_ GE254.out) | exact HB.out)⟩
    · replace c11 := Bool.eq_false_iff.mpr c11
      subst c11
      have H1 : (some 5) = some r := by rw [if_neg (show ¬ (false = true) by decide)] at H; exact H
      clear H
      have H := H1
      clear H1
      obtain rfl := Option.some.inj H
      go_wp2
      go_ret
      exact ⟨by first | rfl | (simp [errW_none, errW_some] <;> rfl) | (simp [*, errW_none, errW_some] <;> rfl), by repeat (first | (with_reducible first | exact HB.out | apply below_alloc | apply pw_below_drewN | apply below_drew1 | refine below_set ?_ GE247.out | refine below_set ?_ GE254.out) | exact HB.out)⟩
  case rest =>
    clear HC3
    try clear c1
    try clear c2
    try clear p2
    try clear c3
    try clear c8
    try clear c10
    try clear c11
    try clear c12
    try clear c12b0
    try clear c13
    try clear c15
    try clear c15b0
    try clear c15b1
    try clear c15b2
    try clear c16
    try clear c16b0
    try clear c16b1
    try clear c17
    try clear c20
    try clear c21
    try clear c24
    try clear c24b0
    try clear c24b1
    try clear c25
    try clear c28
    try clear c31
    try clear hcz14_0
    try clear hcz14_1
    try clear hcz14_2
    try clear hcz14_3
    try clear hcz18_0
    try clear hcz18_1
    try clear hcz18_2
    try clear hcz18_3
    try clear hcz19_0
    try clear hcz19_1
    try clear hcz19_2
    try clear hcz22_0
    try clear hcz22_1
    try clear hcz22_2
    try clear hcz22_3
    try clear hcz23_0
    try clear hcz23_1
    try clear hcz23_2
    try clear hcz26_0
    try clear hcz26_1
    try clear hcz26_2
    try clear hcz26_3
    try clear hcz27_0
    try clear hcz27_1
    try clear hcz27_2
    try clear hcz29_0
    try clear hcz29_1
    try clear hcz29_2
    try clear hcz29_3
    try clear hcz30_0
    try clear hcz30_1
    try clear hcz30_2
    try clear hcz32_0
    try clear hcz32_1
    try clear hcz32_2
    try clear hcz32_3
    try clear hcz33_0
    try clear hcz33_1
    try clear hcz33_2
    try clear hcz5_0
    try clear hcz5_1
    try clear hcz5_2
    try clear hcz5_3
    try clear hcz9_0
    try clear hcz9_1
    try clear hcz9_2
    try clear hfz14_0
    try clear hfz14_1
    try clear hfz14_2
    try clear hfz14_3
    try clear hfz18_0
    try clear hfz18_1
    try clear hfz18_2
    try clear hfz18_3
    try clear hfz19_0
    try clear hfz19_1
    try clear hfz19_2
    try clear hfz22_0
    try clear hfz22_1
    try clear hfz22_2
    try clear hfz22_3
    try clear hfz23_0
    try clear hfz23_1
    try clear hfz23_2
    try clear hfz26_0
    try clear hfz26_1
    try clear hfz26_2
    try clear hfz26_3
    try clear hfz27_0
    try clear hfz27_1
    try clear hfz27_2
    try clear hfz29_0
    try clear hfz29_1
    try clear hfz29_2
    try clear hfz29_3
    try clear hfz30_0
    try clear hfz30_1
    try clear hfz30_2
    try clear hfz32_0
    try clear hfz32_1
    try clear hfz32_2
    try clear hfz32_3
    try clear hfz33_0
    try clear hfz33_1
    try clear hfz33_2
    try clear hfz5_0
    try clear hfz5_1
    try clear hfz5_2
    try clear hfz5_3
    try clear hfz9_0
    try clear hfz9_1
    try clear hfz9_2
    obtain ⟨kq, HA, HJ2, HO_255001, BK247, BK254, HB⟩ := hcut
    cases kq with
    | zero => exact absurd HA.out (by simp [event_Event_Check.j0])
    | succ kj2 =>
      have H := HA.out
      clear HA
      simp only [event_Event_Check.j0] at H
      have H' := Aside0.mk H
      clear H
      have hnb34 := NB247_254.out
      have hnc34 := NB254_247.out
      have hcz35_0 : wc.cell? ⟨gb247, 0, none⟩ = some (.int .u8 a0_0) := (blk_cell BK247.out 0).trans rfl
      have hcz35_1 : wc.cell? ⟨gb247, 1, none⟩ = some (.int .u64 a0_1) := (blk_cell BK247.out 1).trans rfl
      have hcz35_2 : wc.cell? ⟨gb247, 2, none⟩ = some (.slice A0_2 l0_2.length c0_2) := (blk_cell BK247.out 2).trans rfl
      have hcz35_3 : wc.cell? ⟨gb247, 3, none⟩ = some (.slice A0_3 l0_3.length c0_3) := (blk_cell BK247.out 3).trans rfl
      have hfz35_0 := blk_frozen BK247.out 0
      have hfz35_1 := blk_frozen BK247.out 1
      have hfz35_2 := blk_frozen BK247.out 2
      have hfz35_3 := blk_frozen BK247.out 3
      go_wp2
      go_loopg [47] kj2 (fun kq v47 w' => ∃ (x47_2 : Int), v47 = .int .i64 x47_2 ∧ Aside0 (event_Event_Check.l0 kq l0_2 (l0_2.length : Int) x47_2 = some r) ∧ Aside0 (kq ≤ kj2) ∧ Aside0 (Kd.V Kd.string 9 w' w.heap.size (fun k_ => k_ ≠ gb247 ∧ k_ ≠ gb254) (.slice Ao10 t249.length co10) t249) ∧ Aside0 (w'.heap[gb247]? = some (.cells #[.int .u8 a0_0, .int .u64 a0_1, (.slice A0_2 l0_2.length c0_2), (.slice A0_3 l0_3.length c0_3)] 40 (0, 0))) ∧ Aside0 (w'.heap[gb254]? = some (.cells #[.string t248, (.slice Ao10 t249.length co10), .bool t252] 27 (0, 0))) ∧ Aside0 (Below w.heap.size w w'))
      case atStart => exact ⟨(0), (by first | rfl | (simp; done) | (simp [*]; done)), H', ⟨Nat.le_refl _⟩, ⟨by (with_reducible repeat (first | apply Kd.V_alloc | apply Kd.V_drewN | apply Kd.V_drew)); exact HO_255001.out⟩, ⟨by (with_reducible repeat (first | refine blk_drewN ?_ _ | refine blk_drew ?_ | refine blk_alloc ?_ _)); exact BK247.out⟩, ⟨by (with_reducible repeat (first | refine blk_drewN ?_ _ | refine blk_drew ?_ | refine blk_alloc ?_ _)); exact BK254.out⟩, ⟨by repeat (first | (with_reducible first | exact HB.out | apply below_alloc | apply pw_below_drewN | apply below_drew1 | refine below_set ?_ GE247.out | refine below_set ?_ GE254.out) | exact HB.out)⟩⟩
      case round =>
        clear H'
        try clear c1
        try clear c2
        try clear p2
        try clear c3
        try clear c8
        try clear c10
        try clear c11
        try clear c12
        try clear c12b0
        try clear c13
        try clear c15
        try clear c15b0
        try clear c15b1
        try clear c15b2
        try clear c16
        try clear c16b0
        try clear c16b1
        try clear c17
        try clear c20
        try clear c21
        try clear c24
        try clear c24b0
        try clear c24b1
        try clear c25
        try clear c28
        try clear c31
        try clear c34
        try clear hcz14_0
        try clear hcz14_1
        try clear hcz14_2
        try clear hcz14_3
        try clear hcz18_0
        try clear hcz18_1
        try clear hcz18_2
        try clear hcz18_3
        try clear hcz19_0
        try clear hcz19_1
        try clear hcz19_2
        try clear hcz22_0
        try clear hcz22_1
        try clear hcz22_2
        try clear hcz22_3
        try clear hcz23_0
        try clear hcz23_1
        try clear hcz23_2
        try clear hcz26_0
        try clear hcz26_1
        try clear hcz26_2
        try clear hcz26_3
        try clear hcz27_0
        try clear hcz27_1
        try clear hcz27_2
        try clear hcz29_0
        try clear hcz29_1
        try clear hcz29_2
        try clear hcz29_3
        try clear hcz30_0
        try clear hcz30_1
        try clear hcz30_2
        try clear hcz32_0
        try clear hcz32_1
        try clear hcz32_2
        try clear hcz32_3
        try clear hcz33_0
        try clear hcz33_1
        try clear hcz33_2
        try clear hcz35_0
        try clear hcz35_1
        try clear hcz35_2
        try clear hcz35_3
        try clear hcz5_0
        try clear hcz5_1
        try clear hcz5_2
        try clear hcz5_3
        try clear hcz9_0
        try clear hcz9_1
        try clear hcz9_2
        try clear hfz14_0
        try clear hfz14_1
        try clear hfz14_2
        try clear hfz14_3
        try clear hfz18_0
        try clear hfz18_1
        try clear hfz18_2
        try clear hfz18_3
        try clear hfz19_0
        try clear hfz19_1
        try clear hfz19_2
        try clear hfz22_0
        try clear hfz22_1
        try clear hfz22_2
        try clear hfz22_3
        try clear hfz23_0
        try clear hfz23_1
        try clear hfz23_2
        try clear hfz26_0
        try clear hfz26_1
        try clear hfz26_2
        try clear hfz26_3
        try clear hfz27_0
        try clear hfz27_1
        try clear hfz27_2
        try clear hfz29_0
        try clear hfz29_1
        try clear hfz29_2
        try clear hfz29_3
        try clear hfz30_0
        try clear hfz30_1
        try clear hfz30_2
        try clear hfz32_0
        try clear hfz32_1
        try clear hfz32_2
        try clear hfz32_3
        try clear hfz33_0
        try clear hfz33_1
        try clear hfz33_2
        try clear hfz35_0
        try clear hfz35_1
        try clear hfz35_2
        try clear hfz35_3
        try clear hfz5_0
        try clear hfz5_1
        try clear hfz5_2
        try clear hfz5_3
        try clear hfz9_0
        try clear hfz9_1
        try clear hfz9_2
        try clear p2
        obtain ⟨x47_2, rfl, HA, HK2, HO_255001, BK247, BK254, HB⟩ := hrel
        cases gk with
        | zero => exact absurd HA.out (by simp [event_Event_Check.l0])
        | succ k2 =>
          have H := HA.out
          clear HA
          simp only [event_Event_Check.l0] at H
          by_cases c36 : x47_2 < (l0_2.length : Int)
          · rw [if_pos c36] at H
            have c36b0 : decide (x47_2 < (l0_2.length : Int)) = true := decide_eq_true c36
            clear c36
            by_cases c37 : 0 ≤ x47_2
            · rw [if_pos c37] at H
              have c37b0 : decide (0 ≤ x47_2) = true := decide_eq_true c37
              clear c37
              by_cases c38 : x47_2 < (l0_2.length : Int)
              · rw [if_pos c38] at H
                have c38b0 : decide (x47_2 < (l0_2.length : Int)) = true := decide_eq_true c38
                clear c38
                by_cases c39 : (rd l0_2 x47_2) > 4611686018427387903
                · rw [if_pos c39] at H
                  have c39b0 : decide (4611686018427387903 < (rd l0_2 x47_2)) = true := decide_eq_true c39
                  clear c39
                  obtain rfl := Option.some.inj H
                  have p255 : 0 ≤ (x47_2 : Int) := of_decide_eq_true (by first | (with_reducible assumption) | assumption)
                  have q255 : x47_2 < (l0_2.length : Int) := of_decide_eq_true (by first | (with_reducible assumption) | assumption)
                  obtain ⟨ad255, e255, hx255_0⟩ := Kd.at_int HR0_2.out x47_2 p255 q255
                  cases e255
                  replace hx255_0 := (HB.out.cell (World.block_lt_of_cell? w _ hx255_0)).trans hx255_0
                  replace p255 := eq_true p255
                  replace q255 := eq_true q255
                  go_wp2
                  go_ret
                  exact ⟨by first | rfl | (simp [errW_none, errW_some] <;> rfl) | (simp [*, errW_none, errW_some] <;> rfl), by repeat (first | (with_reducible first | exact HB.out | apply below_alloc | apply pw_below_drewN | apply below_drew1 | refine below_set ?_ GE247.out | refine below_set ?_ GE254.out) | exact HB.out)⟩
                · rw [if_neg c39] at H
                  have c39b0 : decide (4611686018427387903 < (rd l0_2 x47_2)) = false := decide_eq_false c39
                  clear c39
                  have H' := Aside0.mk H
                  clear H
                  have p255 : 0 ≤ (x47_2 : Int) := of_decide_eq_true (by first | (with_reducible assumption) | assumption)
                  have q255 : x47_2 < (l0_2.length : Int) := of_decide_eq_true (by first | (with_reducible assumption) | assumption)
                  obtain ⟨ad255, e255, hx255_0⟩ := Kd.at_int HR0_2.out x47_2 p255 q255
                  cases e255
                  replace hx255_0 := (HB.out.cell (World.block_lt_of_cell? w _ hx255_0)).trans hx255_0
                  replace p255 := eq_true p255
                  replace q255 := eq_true q255
                  go_wp2
                  go_roundg k2
                  case measure => have := HJ2.out; have := HK2.out; omega
                  case rel => exact ⟨(wrap64 (x47_2 + 1)), (by first | rfl | (simp; done) | (simp [*]; done)), H', ⟨by have := HJ2.out; have := HK2.out; omega⟩, ⟨by (with_reducible repeat (first | apply Kd.V_alloc | apply Kd.V_drewN | apply Kd.V_drew)); exact HO_255001.out⟩, ⟨by (with_reducible repeat (first | refine blk_drewN ?_ _ | refine blk_drew ?_ | refine blk_alloc ?_ _)); exact BK247.out⟩, ⟨by (with_reducible repeat (first | refine blk_drewN ?_ _ | refine blk_drew ?_ | refine blk_alloc ?_ _)); exact BK254.out⟩, ⟨by repeat (first | (with_reducible first | exact HB.out | apply below_alloc | apply pw_below_drewN | apply below_drew1 | refine below_set ?_ GE247.out | refine below_set ?_ GE254.out) | exact HB.out)⟩⟩
              · rw [if_neg c38] at H
                exact absurd H (by simp)
            · rw [if_neg c37] at H
              exact absurd H (by simp)
          · rw [if_neg c36] at H
            have c36b0 : decide (x47_2 < (l0_2.length : Int)) = false := decide_eq_false c36
            clear c36
            obtain rfl := Option.some.inj H
            go_wp2
            go_ret
            exact ⟨by first | rfl | (simp [errW_none, errW_some] <;> rfl) | (simp [*, errW_none, errW_some] <;> rfl), by repeat (first | (with_reducible first | exact HB.out | apply below_alloc | apply pw_below_drewN | apply below_drew1 | refine below_set ?_ GE247.out | refine below_set ?_ GE254.out) | exact HB.out)⟩

-- NOT PRINTED: function 14 (event_Event_Clone)

-- NOT PRINTED: function 18 (binnaclelaw24_Fit)

-- NOT PRINTED: function 5 (binnaclelaw24_EventChecks)

end Go.Proofs.Ytclmnpdabnogkaa.PEventChecks
