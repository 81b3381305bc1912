-- PRINTED BY print.sh 35421559b90ae4d0a3588c463048766b98c2df88dd9212a6774a882060cdf62d: not written by this session
import Derived.Test.YtloiihbhpmmaiaaPCongGrowsx0
import Derived.Test.YtloiihbhpmmaiaaPCongGrowsx1
namespace Go.Proofs.Ytloiihbhpmmaiaa.PCongGrows
open Go.RowKit Go.Proofs.YtloiihbhpmmaiaaW.PrintWords Go.Proofs.YtloiihbhpmmaiaaW.PrintLast Go.Proofs.YtloiihbhpmmaiaaW.PrintMore
attribute [local go_sem] max2_int min2_int max_two min_two max_three min_three max_four min_four   -- for this text's walks alone
set_option linter.unusedVariables false
set_option linter.unusedSimpArgs false

/-! ### binnaclelaw18_CongGrows: function 5 -/
mutual
def binnaclelaw18_CongGrows.l0 : Nat → Int → Int → Int → Int → Int → Int → Int → Bool → Option (Bool)
  | 0, _, _, _, _, _, _, _, _ => none
  | k + 1, x6, x18, x19, x127000, x127001, x127002, x127003, x127004 => if x19 < x18 then (binnaclelaw18_CongGrows.l1 k x6 x19 x127000 x18 x19 x127000 x127001 x127002 x127003 x127004) else (some true)
def binnaclelaw18_CongGrows.l1 : Nat → Int → Int → Int → Int → Int → Int → Int → Int → Int → Bool → Option (Bool)
  | 0, _, _, _, _, _, _, _, _, _, _ => none
  | k + 1, x6, x7, x8, x18, x19, x127000, x127001, x127002, x127003, x127004 => (cong_Window_Room.f x127000 x127001 x127002 x127003 x127004).bind fun t127 => (if t127 > 0 then ((cong_Window_Sent.f x127000 x127001 x127002 x127003 x127004 x6).bind fun bt128 => (binnaclelaw18_CongGrows.l1 k x6 x7 x8 x18 x19 bt128.1 bt128.2.1 bt128.2.2.1 bt128.2.2.2.1 bt128.2.2.2.2)) else (if x6 = 0 then (none) else (binnaclelaw18_CongGrows.l2 k x6 x7 x8 x18 x19 (IntKind.u64.wrap (Int.tdiv (IntKind.u64.wrap ((IntKind.u64.wrap (x8 + x6)) - 1)) x6)) 0 x127000 x127001 x127002 x127003 x127004)))
def binnaclelaw18_CongGrows.l2 : Nat → Int → Int → Int → Int → Int → Int → Int → Int → Int → Int → Int → Bool → Option (Bool)
  | 0, _, _, _, _, _, _, _, _, _, _, _, _ => none
  | k + 1, x6, x7, x8, x18, x19, x35, x36, x127000, x127001, x127002, x127003, x127004 => if x36 < x35 then ((cong_Window_Came.f k x127000 x127001 x127002 x127003 x127004 x6 (IntKind.u64.wrap ((IntKind.u64.wrap (x7)) + 1))).bind fun bt133 => (binnaclelaw18_CongGrows.l3 k x6 x7 x8 x18 x19 x35 x36 bt133.1 bt133.2.1 bt133.2.2.1 bt133.2.2.2.1 bt133.2.2.2.2)) else (if x127000 < (IntKind.u64.wrap (2 * x8)) then (some false) else (if x127000 > (IntKind.u64.wrap ((IntKind.u64.wrap (2 * x8)) + x6)) then (some false) else (binnaclelaw18_CongGrows.l0 k x6 x18 (wrap64 (x19 + 1)) x127000 x127001 x127002 x127003 x127004)))
def binnaclelaw18_CongGrows.l3 : Nat → Int → Int → Int → Int → Int → Int → Int → Int → Int → Int → Int → Bool → Option (Bool)
  | 0, _, _, _, _, _, _, _, _, _, _, _, _ => none
  | k + 1, x6, x7, x8, x18, x19, x35, x36, x127000, x127001, x127002, x127003, x127004 => (cong_Window_Room.f x127000 x127001 x127002 x127003 x127004).bind fun t138 => (if t138 > 0 then ((cong_Window_Sent.f x127000 x127001 x127002 x127003 x127004 x6).bind fun bt139 => (binnaclelaw18_CongGrows.l3 k x6 x7 x8 x18 x19 x35 x36 bt139.1 bt139.2.1 bt139.2.2.1 bt139.2.2.2.1 bt139.2.2.2.2)) else (binnaclelaw18_CongGrows.l2 k x6 x7 x8 x18 x19 x35 (IntKind.u64.wrap (x36 + 1)) x127000 x127001 x127002 x127003 x127004))
end
def binnaclelaw18_CongGrows.f (k : Nat) (a0 : Int) (a1 : Int) : Option (Bool) := (binnaclelaw18_Awake.f).bind fun t120 => (if t120 = true then ((cong_New.f).bind fun bt121 => (binnaclelaw18_CongGrows.l0 k (IntKind.u64.wrap (100 + (IntKind.u64.wrap (Int.tmod a1 1100)))) (wrap64 (Int.tmod a0 8)) 0 bt121.1 bt121.2.1 bt121.2.2.1 bt121.2.2.2.1 bt121.2.2.2.2)) else (some false))
theorem binnaclelaw18_CongGrows.mono_l : ∀ k, (∀ y0 y1 y2 y3 y4 y5 y6 y7, LeO (binnaclelaw18_CongGrows.l0 k y0 y1 y2 y3 y4 y5 y6 y7) (binnaclelaw18_CongGrows.l0 (k + 1) y0 y1 y2 y3 y4 y5 y6 y7)) ∧ (∀ y0 y1 y2 y3 y4 y5 y6 y7 y8 y9, LeO (binnaclelaw18_CongGrows.l1 k y0 y1 y2 y3 y4 y5 y6 y7 y8 y9) (binnaclelaw18_CongGrows.l1 (k + 1) y0 y1 y2 y3 y4 y5 y6 y7 y8 y9)) ∧ (∀ y0 y1 y2 y3 y4 y5 y6 y7 y8 y9 y10 y11, LeO (binnaclelaw18_CongGrows.l2 k y0 y1 y2 y3 y4 y5 y6 y7 y8 y9 y10 y11) (binnaclelaw18_CongGrows.l2 (k + 1) y0 y1 y2 y3 y4 y5 y6 y7 y8 y9 y10 y11)) ∧ (∀ y0 y1 y2 y3 y4 y5 y6 y7 y8 y9 y10 y11, LeO (binnaclelaw18_CongGrows.l3 k y0 y1 y2 y3 y4 y5 y6 y7 y8 y9 y10 y11) (binnaclelaw18_CongGrows.l3 (k + 1) y0 y1 y2 y3 y4 y5 y6 y7 y8 y9 y10 y11))
  | 0 => ⟨fun _ _ _ _ _ _ _ _ r h => by simp [binnaclelaw18_CongGrows.l0] at h, fun _ _ _ _ _ _ _ _ _ _ r h => by simp [binnaclelaw18_CongGrows.l1] at h, fun _ _ _ _ _ _ _ _ _ _ _ _ r h => by simp [binnaclelaw18_CongGrows.l2] at h, fun _ _ _ _ _ _ _ _ _ _ _ _ r h => by simp [binnaclelaw18_CongGrows.l3] at h⟩
  | k + 1 => by
    obtain ⟨ih0, ih1, ih2, ih3⟩ := binnaclelaw18_CongGrows.mono_l k
    refine ⟨?_, ?_, ?_, ?_⟩
    · intro y0 y1 y2 y3 y4 y5 y6 y7
      unfold binnaclelaw18_CongGrows.l0
      repeat' first
      | (with_reducible exact ih0 _ _ _ _ _ _ _ _)
      | (with_reducible exact ih1 _ _ _ _ _ _ _ _ _ _)
      | (with_reducible exact ih2 _ _ _ _ _ _ _ _ _ _ _ _)
      | (with_reducible exact ih3 _ _ _ _ _ _ _ _ _ _ _ _)
      | (with_reducible exact cong_Window_Came.mono _ _ _ _ _ _ _ _)
      | (with_reducible exact LeO.refl _)
      | (with_reducible exact LeO.none _)
      | (with_reducible refine LeO.ite ?_ ?_)
      | (with_reducible refine LeO.bind ?_ (fun _ => ?_))
      | exact ih0 _ _ _ _ _ _ _ _
      | exact ih1 _ _ _ _ _ _ _ _ _ _
      | exact ih2 _ _ _ _ _ _ _ _ _ _ _ _
      | exact ih3 _ _ _ _ _ _ _ _ _ _ _ _
      | exact cong_Window_Came.mono _ _ _ _ _ _ _ _
      | exact LeO.none _
      | refine LeO.ite ?_ ?_
      | refine LeO.bind ?_ (fun _ => ?_)
    · intro y0 y1 y2 y3 y4 y5 y6 y7 y8 y9
      unfold binnaclelaw18_CongGrows.l1
      repeat' first
      | (with_reducible exact ih0 _ _ _ _ _ _ _ _)
      | (with_reducible exact ih1 _ _ _ _ _ _ _ _ _ _)
      | (with_reducible exact ih2 _ _ _ _ _ _ _ _ _ _ _ _)
      | (with_reducible exact ih3 _ _ _ _ _ _ _ _ _ _ _ _)
      | (with_reducible exact cong_Window_Came.mono _ _ _ _ _ _ _ _)
      | (with_reducible exact LeO.refl _)
      | (with_reducible exact LeO.none _)
      | (with_reducible refine LeO.ite ?_ ?_)
      | (with_reducible refine LeO.bind ?_ (fun _ => ?_))
      | exact ih0 _ _ _ _ _ _ _ _
      | exact ih1 _ _ _ _ _ _ _ _ _ _
      | exact ih2 _ _ _ _ _ _ _ _ _ _ _ _
      | exact ih3 _ _ _ _ _ _ _ _ _ _ _ _
      | exact cong_Window_Came.mono _ _ _ _ _ _ _ _
      | exact LeO.none _
      | refine LeO.ite ?_ ?_
      | refine LeO.bind ?_ (fun _ => ?_)
    · intro y0 y1 y2 y3 y4 y5 y6 y7 y8 y9 y10 y11
      unfold binnaclelaw18_CongGrows.l2
      repeat' first
      | (with_reducible exact ih0 _ _ _ _ _ _ _ _)
      | (with_reducible exact ih1 _ _ _ _ _ _ _ _ _ _)
      | (with_reducible exact ih2 _ _ _ _ _ _ _ _ _ _ _ _)
      | (with_reducible exact ih3 _ _ _ _ _ _ _ _ _ _ _ _)
      | (with_reducible exact cong_Window_Came.mono _ _ _ _ _ _ _ _)
      | (with_reducible exact LeO.refl _)
      | (with_reducible exact LeO.none _)
      | (with_reducible refine LeO.ite ?_ ?_)
      | (with_reducible refine LeO.bind ?_ (fun _ => ?_))
      | exact ih0 _ _ _ _ _ _ _ _
      | exact ih1 _ _ _ _ _ _ _ _ _ _
      | exact ih2 _ _ _ _ _ _ _ _ _ _ _ _
      | exact ih3 _ _ _ _ _ _ _ _ _ _ _ _
      | exact cong_Window_Came.mono _ _ _ _ _ _ _ _
      | exact LeO.none _
      | refine LeO.ite ?_ ?_
      | refine LeO.bind ?_ (fun _ => ?_)
    · intro y0 y1 y2 y3 y4 y5 y6 y7 y8 y9 y10 y11
      unfold binnaclelaw18_CongGrows.l3
      repeat' first
      | (with_reducible exact ih0 _ _ _ _ _ _ _ _)
      | (with_reducible exact ih1 _ _ _ _ _ _ _ _ _ _)
      | (with_reducible exact ih2 _ _ _ _ _ _ _ _ _ _ _ _)
      | (with_reducible exact ih3 _ _ _ _ _ _ _ _ _ _ _ _)
      | (with_reducible exact cong_Window_Came.mono _ _ _ _ _ _ _ _)
      | (with_reducible exact LeO.refl _)
      | (with_reducible exact LeO.none _)
      | (with_reducible refine LeO.ite ?_ ?_)
      | (with_reducible refine LeO.bind ?_ (fun _ => ?_))
      | exact ih0 _ _ _ _ _ _ _ _
      | exact ih1 _ _ _ _ _ _ _ _ _ _
      | exact ih2 _ _ _ _ _ _ _ _ _ _ _ _
      | exact ih3 _ _ _ _ _ _ _ _ _ _ _ _
      | exact cong_Window_Came.mono _ _ _ _ _ _ _ _
      | exact LeO.none _
      | refine LeO.ite ?_ ?_
      | refine LeO.bind ?_ (fun _ => ?_)
theorem binnaclelaw18_CongGrows.mono : ∀ a0 a1 k, LeO (binnaclelaw18_CongGrows.f k a0 a1) (binnaclelaw18_CongGrows.f (k + 1) a0 a1) := by
  intro a0 a1 k
  obtain ⟨ih0, ih1, ih2, ih3⟩ := binnaclelaw18_CongGrows.mono_l k
  unfold binnaclelaw18_CongGrows.f
  repeat' first
      | (with_reducible exact ih0 _ _ _ _ _ _ _ _)
      | (with_reducible exact ih1 _ _ _ _ _ _ _ _ _ _)
      | (with_reducible exact ih2 _ _ _ _ _ _ _ _ _ _ _ _)
      | (with_reducible exact ih3 _ _ _ _ _ _ _ _ _ _ _ _)
      | (with_reducible exact cong_Window_Came.mono _ _ _ _ _ _ _ _)
      | (with_reducible exact LeO.refl _)
      | (with_reducible exact LeO.none _)
      | (with_reducible refine LeO.ite ?_ ?_)
      | (with_reducible refine LeO.bind ?_ (fun _ => ?_))
      | exact ih0 _ _ _ _ _ _ _ _
      | exact ih1 _ _ _ _ _ _ _ _ _ _
      | exact ih2 _ _ _ _ _ _ _ _ _ _ _ _
      | exact ih3 _ _ _ _ _ _ _ _ _ _ _ _
      | exact cong_Window_Came.mono _ _ _ _ _ _ _ _
      | exact LeO.none _
      | refine LeO.ite ?_ ?_
      | refine LeO.bind ?_ (fun _ => ?_)
set_option maxHeartbeats 8000000 in
set_option maxRecDepth 100000 in
theorem binnaclelaw18_CongGrows.calls (k : Nat) (a0 : Int) (a1 : Int) (r : Bool) (w : World) (h : binnaclelaw18_CongGrows.f k a0 a1 = some r) :
    Calls Try.prog 5 #[.int .u8 a0, .int .u16 a1] w fun e w' => e = .returned (.bool r) ∧ Below w.heap.size w w' := by
  have hu39 := Try.underlying39
  have HB := Aside0.mk (Below.refl w.heap.size w)
  have H : ((binnaclelaw18_Awake.f).bind fun t120 => (if t120 = true then ((cong_New.f).bind fun bt121 => (binnaclelaw18_CongGrows.l0 k (IntKind.u64.wrap (100 + (IntKind.u64.wrap (Int.tmod a1 1100)))) (wrap64 (Int.tmod a0 8)) 0 bt121.1 bt121.2.1 bt121.2.2.1 bt121.2.2.2.1 bt121.2.2.2.2)) else (some false))) = some r := h
  clear h
  replace H := Option.bind_eq_some_iff.mp H
  obtain ⟨t120, A30, H⟩ := H
  replace H : (if t120 = true then ((cong_New.f).bind fun bt121 => (binnaclelaw18_CongGrows.l0 k (IntKind.u64.wrap (100 + (IntKind.u64.wrap (Int.tmod a1 1100)))) (wrap64 (Int.tmod a0 8)) 0 bt121.1 bt121.2.1 bt121.2.2.1 bt121.2.2.2.1 bt121.2.2.2.2)) else (some false)) = some r := H
  have A3 := Aside0.mk A30
  clear A30
  by_cases c4 : t120 = true
  · subst c4
    have H1 : ((cong_New.f).bind fun bt121 => (binnaclelaw18_CongGrows.l0 k (IntKind.u64.wrap (100 + (IntKind.u64.wrap (Int.tmod a1 1100)))) (wrap64 (Int.tmod a0 8)) 0 bt121.1 bt121.2.1 bt121.2.2.1 bt121.2.2.2.1 bt121.2.2.2.2)) = some r := by rw [if_pos rfl] at H; exact H
    clear H
    have H := H1
    clear H1
    replace H := Option.bind_eq_some_iff.mp H
    obtain ⟨⟨t121, t122, t123, t124, t125⟩, A50, H⟩ := H
    replace H : (binnaclelaw18_CongGrows.l0 k (IntKind.u64.wrap (100 + (IntKind.u64.wrap (Int.tmod a1 1100)))) (wrap64 (Int.tmod a0 8)) 0 t121 t122 t123 t124 t125) = some r := H
    have A5 := Aside0.mk A50
    clear A50
    have H' := Aside0.mk H
    clear H
    go_enter Try.func5, Try.ntmps5
    go_wp2_with (first | ((with_reducible refine gate_callee (f := 19) rfl ?_); refine goesL_ (some 9) rfl rfl Try.func19 (by kernel_rfl) rfl #[] rfl (by (try simp only [List.map_toArray, List.map_cons, List.map_nil]); first | done | rfl | (simp only [List.length_drop, List.length_take]; rfl)) ?_; (with_reducible refine (binnaclelaw18_Awake.calls  true _ A3.out).mono ?_); rintro e w6 ⟨rfl, hb⟩; refine ⟨_, rfl, ?_⟩; have n0_ := Aside0.mk (below_step (by repeat (first | (with_reducible first | exact HB.out | apply below_alloc | apply pw_below_drewN | apply below_drew1) | exact HB.out)) hb); clear HB; have HB := n0_; clear n0_; (try clear hb); (try clear hb2); (try clear hk); (try clear hi)) | ((with_reducible refine gate_callee (f := 20) rfl ?_); refine goesL_ (some 11) rfl rfl Try.func20 (by kernel_rfl) rfl #[] rfl (by (try simp only [List.map_toArray, List.map_cons, List.map_nil]); first | done | rfl | (simp only [List.length_drop, List.length_take]; rfl)) ?_; (with_reducible refine (cong_New.calls  t121 t122 t123 t124 t125 _ A5.out).mono ?_); rintro e w7 ⟨rfl, hb⟩; refine ⟨_, rfl, ?_⟩; have n0_ := Aside0.mk (below_step (by repeat (first | (with_reducible first | exact HB.out | apply below_alloc | apply pw_below_drewN | apply below_drew1) | exact HB.out)) hb); clear HB; have HB := n0_; clear n0_; (try clear hb); (try clear hb2); (try clear hk); (try clear hi)) | ((with_reducible refine gate_dst (N := 5) rfl ?_); refine box_event ?hg (N := 5) ?hd (cs := #[.int .u64 0, .int .u64 0, .int .u64 0, .int .u64 0, .bool false]) (t := 39) ?hr ?_; (case hd => rfl); (case hg => rfl); (case hr => first | (go_simp; done) | (go_simp; rfl)); intro gb126 hg w8 hbox hb; have n0_ := Aside0.mk (below_step (by repeat (first | (with_reducible first | exact HB.out | apply below_alloc | apply pw_below_drewN | apply below_drew1) | exact HB.out)) hb); have n1_ := Aside0.mk (hbox); have n2_ := Aside0.mk ((by rw [hg]; exact (below_size (by repeat (first | (with_reducible first | exact HB.out | apply below_alloc | apply pw_below_drewN | apply below_drew1) | exact HB.out))) : w.heap.size ≤ gb126)); have n3_ := Aside0.mk ((by rw [hg]; exact (below_size (by repeat (first | (with_reducible first | exact HB.out | apply below_alloc | apply pw_below_drewN | apply below_drew1) | exact HB.out))) : w.heap.size ≤ gb126)); clear HB; have HB := n0_; have BK126 := n1_; have GW126 := n2_; have GE126 := n3_; clear n0_ n1_ n2_ n3_; clear hb hbox hg; have hcz9_0 : w8.cell? ⟨gb126, 0, none⟩ = some (.int .u64 0) := (blk_cell BK126.out 0).trans rfl; have hcz9_1 : w8.cell? ⟨gb126, 1, none⟩ = some (.int .u64 0) := (blk_cell BK126.out 1).trans rfl; have hcz9_2 : w8.cell? ⟨gb126, 2, none⟩ = some (.int .u64 0) := (blk_cell BK126.out 2).trans rfl; have hcz9_3 : w8.cell? ⟨gb126, 3, none⟩ = some (.int .u64 0) := (blk_cell BK126.out 3).trans rfl; have hcz9_4 : w8.cell? ⟨gb126, 4, none⟩ = some (.bool false) := (blk_cell BK126.out 4).trans rfl; have hfz9_0 := blk_frozen BK126.out 0; have hfz9_1 := blk_frozen BK126.out 1; have hfz9_2 := blk_frozen BK126.out 2; have hfz9_3 := blk_frozen BK126.out 3; have hfz9_4 := blk_frozen BK126.out 4))
    go_loopg [19] k (fun kq v19 w' => ∃ (x19_1 : Int) (x127000_1 : Int) (x127001_1 : Int) (x127002_1 : Int) (x127003_1 : Int) (x127004_1 : Bool), v19 = .int .i64 x19_1 ∧ Aside0 (binnaclelaw18_CongGrows.l0 kq (IntKind.u64.wrap (100 + (IntKind.u64.wrap (Int.tmod a1 1100)))) (wrap64 (Int.tmod a0 8)) x19_1 x127000_1 x127001_1 x127002_1 x127003_1 x127004_1 = some r) ∧ Aside0 (kq ≤ k) ∧ Aside0 (w'.heap[gb126]? = some (.cells #[.int .u64 x127000_1, .int .u64 x127001_1, .int .u64 x127002_1, .int .u64 x127003_1, .bool x127004_1] 39 (0, 0))) ∧ Aside0 (Below w.heap.size w w'))
    case atStart => exact ⟨(0), (t121), (t122), (t123), (t124), (t125), (by first | rfl | (simp; done) | (simp [*]; done)), H', ⟨Nat.le_refl _⟩, ⟨by (with_reducible repeat (first | refine blk_drewN ?_ _ | refine blk_drew ?_ | refine blk_alloc ?_ _)); refine blk_put (cs := #[.int .u64 t121, .int .u64 t122, .int .u64 t123, .int .u64 t124, .bool false]) ?_ 4 _ rfl; (with_reducible repeat (first | refine blk_drewN ?_ _ | refine blk_drew ?_ | refine blk_alloc ?_ _)); refine blk_put (cs := #[.int .u64 t121, .int .u64 t122, .int .u64 t123, .int .u64 0, .bool false]) ?_ 3 _ rfl; (with_reducible repeat (first | refine blk_drewN ?_ _ | refine blk_drew ?_ | refine blk_alloc ?_ _)); refine blk_put (cs := #[.int .u64 t121, .int .u64 t122, .int .u64 0, .int .u64 0, .bool false]) ?_ 2 _ rfl; (with_reducible repeat (first | refine blk_drewN ?_ _ | refine blk_drew ?_ | refine blk_alloc ?_ _)); refine blk_put (cs := #[.int .u64 t121, .int .u64 0, .int .u64 0, .int .u64 0, .bool false]) ?_ 1 _ rfl; (with_reducible repeat (first | refine blk_drewN ?_ _ | refine blk_drew ?_ | refine blk_alloc ?_ _)); refine blk_put (cs := #[.int .u64 0, .int .u64 0, .int .u64 0, .int .u64 0, .bool false]) ?_ 0 _ rfl; (with_reducible repeat (first | refine blk_drewN ?_ _ | refine blk_drew ?_ | refine blk_alloc ?_ _)); exact BK126.out⟩, ⟨by repeat (first | (with_reducible first | exact HB.out | apply below_alloc | apply pw_below_drewN | apply below_drew1 | refine below_set ?_ GE126.out) | exact HB.out)⟩⟩
    case round =>
      clear H'
      try clear c1
      try clear c2
      try clear p2
      try clear c4
      try clear c5
      try clear p6
      try clear hcz9_0
      try clear hcz9_1
      try clear hcz9_2
      try clear hcz9_3
      try clear hcz9_4
      try clear hfz9_0
      try clear hfz9_1
      try clear hfz9_2
      try clear hfz9_3
      try clear hfz9_4
      obtain ⟨x19_1, x127000_1, x127001_1, x127002_1, x127003_1, x127004_1, rfl, HA, HK1, BK126, HB⟩ := hrel
      cases gk with
      | zero => exact absurd HA.out (by simp [binnaclelaw18_CongGrows.l0])
      | succ k1 =>
        have H := HA.out
        clear HA
        simp only [binnaclelaw18_CongGrows.l0] at H
        by_cases c10 : x19_1 < (wrap64 (Int.tmod a0 8))
        · rw [if_pos c10] at H
          have c10b0 : decide (x19_1 < (wrap64 (Int.tmod a0 8))) = true := decide_eq_true c10
          clear c10
          have H' := Aside0.mk H
          clear H
          have hcz11_0 : wr.cell? ⟨gb126, 0, none⟩ = some (.int .u64 x127000_1) := (blk_cell BK126.out 0).trans rfl
          have hcz11_1 : wr.cell? ⟨gb126, 1, none⟩ = some (.int .u64 x127001_1) := (blk_cell BK126.out 1).trans rfl
          have hcz11_2 : wr.cell? ⟨gb126, 2, none⟩ = some (.int .u64 x127002_1) := (blk_cell BK126.out 2).trans rfl
          have hcz11_3 : wr.cell? ⟨gb126, 3, none⟩ = some (.int .u64 x127003_1) := (blk_cell BK126.out 3).trans rfl
          have hcz11_4 : wr.cell? ⟨gb126, 4, none⟩ = some (.bool x127004_1) := (blk_cell BK126.out 4).trans rfl
          have hfz11_0 := blk_frozen BK126.out 0
          have hfz11_1 := blk_frozen BK126.out 1
          have hfz11_2 := blk_frozen BK126.out 2
          have hfz11_3 := blk_frozen BK126.out 3
          have hfz11_4 := blk_frozen BK126.out 4
          go_wp2
          go_loopg [] k1 (fun kq w' => ∃ (x127000_2 : Int) (x127001_2 : Int) (x127002_2 : Int) (x127003_2 : Int) (x127004_2 : Bool), Aside0 (binnaclelaw18_CongGrows.l1 kq (IntKind.u64.wrap (100 + (IntKind.u64.wrap (Int.tmod a1 1100)))) x19_1 x127000_1 (wrap64 (Int.tmod a0 8)) x19_1 x127000_2 x127001_2 x127002_2 x127003_2 x127004_2 = some r) ∧ Aside0 (kq ≤ k1) ∧ Aside0 (w'.heap[gb126]? = some (.cells #[.int .u64 x127000_2, .int .u64 x127001_2, .int .u64 x127002_2, .int .u64 x127003_2, .bool x127004_2] 39 (0, 0))) ∧ Aside0 (Below w.heap.size w w'))
          case atStart => exact ⟨(x127000_1), (x127001_1), (x127002_1), (x127003_1), (x127004_1), H', ⟨Nat.le_refl _⟩, ⟨by (with_reducible repeat (first | refine blk_drewN ?_ _ | refine blk_drew ?_ | refine blk_alloc ?_ _)); exact BK126.out⟩, ⟨by repeat (first | (with_reducible first | exact HB.out | apply below_alloc | apply pw_below_drewN | apply below_drew1 | refine below_set ?_ GE126.out) | exact HB.out)⟩⟩
          case round =>
            clear H'
            try clear c1
            try clear c2
            try clear p2
            try clear c4
            try clear c5
            try clear p6
            try clear c10
            try clear c10b0
            try clear hcz11_0
            try clear hcz11_1
            try clear hcz11_2
            try clear hcz11_3
            try clear hcz11_4
            try clear hcz9_0
            try clear hcz9_1
            try clear hcz9_2
            try clear hcz9_3
            try clear hcz9_4
            try clear hfz11_0
            try clear hfz11_1
            try clear hfz11_2
            try clear hfz11_3
            try clear hfz11_4
            try clear hfz9_0
            try clear hfz9_1
            try clear hfz9_2
            try clear hfz9_3
            try clear hfz9_4
            try clear p2
            try clear p6
            obtain ⟨x127000_2, x127001_2, x127002_2, x127003_2, x127004_2, HA, HK2, BK126, HB⟩ := hrel
            cases gk with
            | zero => exact absurd HA.out (by simp [binnaclelaw18_CongGrows.l1])
            | succ k2 =>
              have H := HA.out
              clear HA
              simp only [binnaclelaw18_CongGrows.l1] at H
              replace H := Option.bind_eq_some_iff.mp H
              obtain ⟨t127, A120, H⟩ := H
              replace H : (if t127 > 0 then ((cong_Window_Sent.f x127000_2 x127001_2 x127002_2 x127003_2 x127004_2 (IntKind.u64.wrap (100 + (IntKind.u64.wrap (Int.tmod a1 1100))))).bind fun bt128 => (binnaclelaw18_CongGrows.l1 k2 (IntKind.u64.wrap (100 + (IntKind.u64.wrap (Int.tmod a1 1100)))) x19_1 x127000_1 (wrap64 (Int.tmod a0 8)) x19_1 bt128.1 bt128.2.1 bt128.2.2.1 bt128.2.2.2.1 bt128.2.2.2.2)) else (if (IntKind.u64.wrap (100 + (IntKind.u64.wrap (Int.tmod a1 1100)))) = 0 then (none) else (binnaclelaw18_CongGrows.l2 k2 (IntKind.u64.wrap (100 + (IntKind.u64.wrap (Int.tmod a1 1100)))) x19_1 x127000_1 (wrap64 (Int.tmod a0 8)) x19_1 (IntKind.u64.wrap (Int.tdiv (IntKind.u64.wrap ((IntKind.u64.wrap (x127000_1 + (IntKind.u64.wrap (100 + (IntKind.u64.wrap (Int.tmod a1 1100)))))) - 1)) (IntKind.u64.wrap (100 + (IntKind.u64.wrap (Int.tmod a1 1100)))))) 0 x127000_2 x127001_2 x127002_2 x127003_2 x127004_2))) = some r := H
              have A12 := Aside0.mk A120
              clear A120
              by_cases c13 : t127 > 0
              · rw [if_pos c13] at H
                have c13b0 : decide (0 < t127) = true := decide_eq_true c13
                clear c13
                replace H := Option.bind_eq_some_iff.mp H
                obtain ⟨⟨t128, t129, t130, t131, t132⟩, A140, H⟩ := H
                replace H : (binnaclelaw18_CongGrows.l1 k2 (IntKind.u64.wrap (100 + (IntKind.u64.wrap (Int.tmod a1 1100)))) x19_1 x127000_1 (wrap64 (Int.tmod a0 8)) x19_1 t128 t129 t130 t131 t132) = some r := H
                have A14 := Aside0.mk A140
                clear A140
                have H' := Aside0.mk H
                clear H
                have hcz15_0 : wr.cell? ⟨gb126, 0, none⟩ = some (.int .u64 x127000_2) := (blk_cell BK126.out 0).trans rfl
                have hcz15_1 : wr.cell? ⟨gb126, 1, none⟩ = some (.int .u64 x127001_2) := (blk_cell BK126.out 1).trans rfl
                have hcz15_2 : wr.cell? ⟨gb126, 2, none⟩ = some (.int .u64 x127002_2) := (blk_cell BK126.out 2).trans rfl
                have hcz15_3 : wr.cell? ⟨gb126, 3, none⟩ = some (.int .u64 x127003_2) := (blk_cell BK126.out 3).trans rfl
                have hcz15_4 : wr.cell? ⟨gb126, 4, none⟩ = some (.bool x127004_2) := (blk_cell BK126.out 4).trans rfl
                have hfz15_0 := blk_frozen BK126.out 0
                have hfz15_1 := blk_frozen BK126.out 1
                have hfz15_2 := blk_frozen BK126.out 2
                have hfz15_3 := blk_frozen BK126.out 3
                have hfz15_4 := blk_frozen BK126.out 4
                go_wp2_with (first | ((with_reducible refine gate_callee (f := 21) rfl ?_); refine goesL_ (some 25) rfl rfl Try.func21 (by kernel_rfl) rfl #[.agg #[.int .u64 x127000_2, .int .u64 x127001_2, .int .u64 x127002_2, .int .u64 x127003_2, .bool x127004_2]] rfl (by (try simp only [List.map_toArray, List.map_cons, List.map_nil]); first | done | rfl | (simp only [List.length_drop, List.length_take]; rfl)) ?_; (with_reducible refine (cong_Window_Room.calls x127000_2 x127001_2 x127002_2 x127003_2 x127004_2 t127 _ A12.out).mono ?_); rintro e w16 ⟨rfl, hb⟩; refine ⟨_, rfl, ?_⟩; have n0_ := Aside0.mk (blk_below (g := gb126) (o := .cells #[.int .u64 x127000_2, .int .u64 x127001_2, .int .u64 x127002_2, .int .u64 x127003_2, .bool x127004_2] 39 (0, 0)) (by (with_reducible repeat (first | refine blk_drewN ?_ _ | refine blk_drew ?_ | refine blk_alloc ?_ _)); exact BK126.out) hb); have n1_ := Aside0.mk (below_step (by repeat (first | (with_reducible first | exact HB.out | apply below_alloc | apply pw_below_drewN | apply below_drew1 | refine below_set ?_ GE126.out) | exact HB.out)) hb); clear BK126; clear HB; have BK126 := n0_; have HB := n1_; clear n0_ n1_; (try clear hb); (try clear hb2); (try clear hk); (try clear hi); have hcz17_0 : w16.cell? ⟨gb126, 0, none⟩ = some (.int .u64 x127000_2) := (blk_cell BK126.out 0).trans rfl; have hcz17_1 : w16.cell? ⟨gb126, 1, none⟩ = some (.int .u64 x127001_2) := (blk_cell BK126.out 1).trans rfl; have hcz17_2 : w16.cell? ⟨gb126, 2, none⟩ = some (.int .u64 x127002_2) := (blk_cell BK126.out 2).trans rfl; have hcz17_3 : w16.cell? ⟨gb126, 3, none⟩ = some (.int .u64 x127003_2) := (blk_cell BK126.out 3).trans rfl; have hcz17_4 : w16.cell? ⟨gb126, 4, none⟩ = some (.bool x127004_2) := (blk_cell BK126.out 4).trans rfl; have hfz17_0 := blk_frozen BK126.out 0; have hfz17_1 := blk_frozen BK126.out 1; have hfz17_2 := blk_frozen BK126.out 2; have hfz17_3 := blk_frozen BK126.out 3; have hfz17_4 := blk_frozen BK126.out 4) | ((with_reducible refine gate_callee (f := 22) rfl ?_); refine goesL_ (some 29) rfl rfl Try.func22 (by kernel_rfl) rfl #[.agg #[.int .u64 x127000_2, .int .u64 x127001_2, .int .u64 x127002_2, .int .u64 x127003_2, .bool x127004_2], .int .u64 (IntKind.u64.wrap (100 + (IntKind.u64.wrap (Int.tmod a1 1100))))] rfl (by (try simp only [List.map_toArray, List.map_cons, List.map_nil]); first | done | rfl | (simp only [List.length_drop, List.length_take]; rfl)) ?_; (with_reducible refine (cong_Window_Sent.calls x127000_2 x127001_2 x127002_2 x127003_2 x127004_2 (IntKind.u64.wrap (100 + (IntKind.u64.wrap (Int.tmod a1 1100)))) t128 t129 t130 t131 t132 _ A14.out).mono ?_); rintro e w18 ⟨rfl, hb⟩; refine ⟨_, rfl, ?_⟩; have n0_ := Aside0.mk (blk_below (g := gb126) (o := .cells #[.int .u64 x127000_2, .int .u64 x127001_2, .int .u64 x127002_2, .int .u64 x127003_2, .bool x127004_2] 39 (0, 0)) (by (with_reducible repeat (first | refine blk_drewN ?_ _ | refine blk_drew ?_ | refine blk_alloc ?_ _)); exact BK126.out) hb); have n1_ := Aside0.mk (below_step (by repeat (first | (with_reducible first | exact HB.out | apply below_alloc | apply pw_below_drewN | apply below_drew1 | refine below_set ?_ GE126.out) | exact HB.out)) hb); clear BK126; clear HB; have BK126 := n0_; have HB := n1_; clear n0_ n1_; (try clear hb); (try clear hb2); (try clear hk); (try clear hi); have hcz19_0 : w18.cell? ⟨gb126, 0, none⟩ = some (.int .u64 x127000_2) := (blk_cell BK126.out 0).trans rfl; have hcz19_1 : w18.cell? ⟨gb126, 1, none⟩ = some (.int .u64 x127001_2) := (blk_cell BK126.out 1).trans rfl; have hcz19_2 : w18.cell? ⟨gb126, 2, none⟩ = some (.int .u64 x127002_2) := (blk_cell BK126.out 2).trans rfl; have hcz19_3 : w18.cell? ⟨gb126, 3, none⟩ = some (.int .u64 x127003_2) := (blk_cell BK126.out 3).trans rfl; have hcz19_4 : w18.cell? ⟨gb126, 4, none⟩ = some (.bool x127004_2) := (blk_cell BK126.out 4).trans rfl; have hfz19_0 := blk_frozen BK126.out 0; have hfz19_1 := blk_frozen BK126.out 1; have hfz19_2 := blk_frozen BK126.out 2; have hfz19_3 := blk_frozen BK126.out 3; have hfz19_4 := blk_frozen BK126.out 4))
                go_roundg k2
                case measure => have := HK1.out; have := HK2.out; omega
                case rel => exact ⟨(t128), (t129), (t130), (t131), (t132), H', ⟨by have := HK1.out; have := HK2.out; omega⟩, ⟨by (with_reducible repeat (first | refine blk_drewN ?_ _ | refine blk_drew ?_ | refine blk_alloc ?_ _)); refine blk_put (cs := #[.int .u64 t128, .int .u64 t129, .int .u64 t130, .int .u64 t131, .bool x127004_2]) ?_ 4 _ rfl; (with_reducible repeat (first | refine blk_drewN ?_ _ | refine blk_drew ?_ | refine blk_alloc ?_ _)); refine blk_put (cs := #[.int .u64 t128, .int .u64 t129, .int .u64 t130, .int .u64 x127003_2, .bool x127004_2]) ?_ 3 _ rfl; (with_reducible repeat (first | refine blk_drewN ?_ _ | refine blk_drew ?_ | refine blk_alloc ?_ _)); refine blk_put (cs := #[.int .u64 t128, .int .u64 t129, .int .u64 x127002_2, .int .u64 x127003_2, .bool x127004_2]) ?_ 2 _ rfl; (with_reducible repeat (first | refine blk_drewN ?_ _ | refine blk_drew ?_ | refine blk_alloc ?_ _)); refine blk_put (cs := #[.int .u64 t128, .int .u64 x127001_2, .int .u64 x127002_2, .int .u64 x127003_2, .bool x127004_2]) ?_ 1 _ rfl; (with_reducible repeat (first | refine blk_drewN ?_ _ | refine blk_drew ?_ | refine blk_alloc ?_ _)); refine blk_put (cs := #[.int .u64 x127000_2, .int .u64 x127001_2, .int .u64 x127002_2, .int .u64 x127003_2, .bool x127004_2]) ?_ 0 _ rfl; (with_reducible repeat (first | refine blk_drewN ?_ _ | refine blk_drew ?_ | refine blk_alloc ?_ _)); exact BK126.out⟩, ⟨by repeat (first | (with_reducible first | exact HB.out | apply below_alloc | apply pw_below_drewN | apply below_drew1 | refine below_set ?_ GE126.out) | exact HB.out)⟩⟩
              · rw [if_neg c13] at H
                have c13b0 : decide (0 < t127) = false := decide_eq_false c13
                clear c13
                by_cases c20 : (IntKind.u64.wrap (100 + (IntKind.u64.wrap (Int.tmod a1 1100)))) = 0
                · rw [if_pos c20] at H
                  exact absurd H (by simp)
                · rw [if_neg c20] at H
                  have c20b0 : ((IntKind.u64.wrap (100 + (IntKind.u64.wrap (Int.tmod a1 1100)))) == 0) = false := beq_eq_false_iff_ne.mpr c20
                  have c20b1 : ((IntKind.u64.wrap (100 + (IntKind.u64.wrap (Int.tmod a1 1100)))) != 0) = true := bne_iff_ne.mpr c20
                  have H' := Aside0.mk H
                  clear H
                  have hcz21_0 : wr.cell? ⟨gb126, 0, none⟩ = some (.int .u64 x127000_2) := (blk_cell BK126.out 0).trans rfl
                  have hcz21_1 : wr.cell? ⟨gb126, 1, none⟩ = some (.int .u64 x127001_2) := (blk_cell BK126.out 1).trans rfl
                  have hcz21_2 : wr.cell? ⟨gb126, 2, none⟩ = some (.int .u64 x127002_2) := (blk_cell BK126.out 2).trans rfl
                  have hcz21_3 : wr.cell? ⟨gb126, 3, none⟩ = some (.int .u64 x127003_2) := (blk_cell BK126.out 3).trans rfl
                  have hcz21_4 : wr.cell? ⟨gb126, 4, none⟩ = some (.bool x127004_2) := (blk_cell BK126.out 4).trans rfl
                  have hfz21_0 := blk_frozen BK126.out 0
                  have hfz21_1 := blk_frozen BK126.out 1
                  have hfz21_2 := blk_frozen BK126.out 2
                  have hfz21_3 := blk_frozen BK126.out 3
                  have hfz21_4 := blk_frozen BK126.out 4
                  go_wp2_with (first | ((with_reducible refine gate_callee (f := 21) rfl ?_); refine goesL_ (some 25) rfl rfl Try.func21 (by kernel_rfl) rfl #[.agg #[.int .u64 x127000_2, .int .u64 x127001_2, .int .u64 x127002_2, .int .u64 x127003_2, .bool x127004_2]] rfl (by (try simp only [List.map_toArray, List.map_cons, List.map_nil]); first | done | rfl | (simp only [List.length_drop, List.length_take]; rfl)) ?_; (with_reducible refine (cong_Window_Room.calls x127000_2 x127001_2 x127002_2 x127003_2 x127004_2 t127 _ A12.out).mono ?_); rintro e w22 ⟨rfl, hb⟩; refine ⟨_, rfl, ?_⟩; have n0_ := Aside0.mk (blk_below (g := gb126) (o := .cells #[.int .u64 x127000_2, .int .u64 x127001_2, .int .u64 x127002_2, .int .u64 x127003_2, .bool x127004_2] 39 (0, 0)) (by (with_reducible repeat (first | refine blk_drewN ?_ _ | refine blk_drew ?_ | refine blk_alloc ?_ _)); exact BK126.out) hb); have n1_ := Aside0.mk (below_step (by repeat (first | (with_reducible first | exact HB.out | apply below_alloc | apply pw_below_drewN | apply below_drew1 | refine below_set ?_ GE126.out) | exact HB.out)) hb); clear BK126; clear HB; have BK126 := n0_; have HB := n1_; clear n0_ n1_; (try clear hb); (try clear hb2); (try clear hk); (try clear hi)))
                  go_loopg [36] k2 (fun kq v36 w' => ∃ (x36_3 : Int) (x127000_3 : Int) (x127001_3 : Int) (x127002_3 : Int) (x127003_3 : Int) (x127004_3 : Bool), v36 = .int .u64 x36_3 ∧ Aside0 (binnaclelaw18_CongGrows.l2 kq (IntKind.u64.wrap (100 + (IntKind.u64.wrap (Int.tmod a1 1100)))) x19_1 x127000_1 (wrap64 (Int.tmod a0 8)) x19_1 (IntKind.u64.wrap (Int.tdiv (IntKind.u64.wrap ((IntKind.u64.wrap (x127000_1 + (IntKind.u64.wrap (100 + (IntKind.u64.wrap (Int.tmod a1 1100)))))) - 1)) (IntKind.u64.wrap (100 + (IntKind.u64.wrap (Int.tmod a1 1100)))))) x36_3 x127000_3 x127001_3 x127002_3 x127003_3 x127004_3 = some r) ∧ Aside0 (kq ≤ k2) ∧ Aside0 (w'.heap[gb126]? = some (.cells #[.int .u64 x127000_3, .int .u64 x127001_3, .int .u64 x127002_3, .int .u64 x127003_3, .bool x127004_3] 39 (0, 0))) ∧ Aside0 (Below w.heap.size w w'))
                  case atStart => exact ⟨(0), (x127000_2), (x127001_2), (x127002_2), (x127003_2), (x127004_2), (by first | rfl | (simp; done) | (simp [*]; done)), H', ⟨Nat.le_refl _⟩, ⟨by (with_reducible repeat (first | refine blk_drewN ?_ _ | refine blk_drew ?_ | refine blk_alloc ?_ _)); exact BK126.out⟩, ⟨by repeat (first | (with_reducible first | exact HB.out | apply below_alloc | apply pw_below_drewN | apply below_drew1 | refine below_set ?_ GE126.out) | exact HB.out)⟩⟩
                  case round =>
                    clear H'
                    try clear c1
                    try clear c2
                    try clear p2
                    try clear c4
                    try clear c5
                    try clear p6
                    try clear c10
                    try clear c10b0
                    try clear c13
                    try clear c13b0
                    try clear c19
                    try clear c20
                    try clear c20b0
                    try clear c20b1
                    try clear c21
                    try clear c22
                    try clear hcz11_0
                    try clear hcz11_1
                    try clear hcz11_2
                    try clear hcz11_3
                    try clear hcz11_4
                    try clear hcz15_0
                    try clear hcz15_1
                    try clear hcz15_2
                    try clear hcz15_3
                    try clear hcz15_4
                    try clear hcz17_0
                    try clear hcz17_1
                    try clear hcz17_2
                    try clear hcz17_3
                    try clear hcz17_4
                    try clear hcz19_0
                    try clear hcz19_1
                    try clear hcz19_2
                    try clear hcz19_3
                    try clear hcz19_4
                    try clear hcz21_0
                    try clear hcz21_1
                    try clear hcz21_2
                    try clear hcz21_3
                    try clear hcz21_4
                    try clear hcz9_0
                    try clear hcz9_1
                    try clear hcz9_2
                    try clear hcz9_3
                    try clear hcz9_4
                    try clear hfz11_0
                    try clear hfz11_1
                    try clear hfz11_2
                    try clear hfz11_3
                    try clear hfz11_4
                    try clear hfz15_0
                    try clear hfz15_1
                    try clear hfz15_2
                    try clear hfz15_3
                    try clear hfz15_4
                    try clear hfz17_0
                    try clear hfz17_1
                    try clear hfz17_2
                    try clear hfz17_3
                    try clear hfz17_4
                    try clear hfz19_0
                    try clear hfz19_1
                    try clear hfz19_2
                    try clear hfz19_3
                    try clear hfz19_4
                    try clear hfz21_0
                    try clear hfz21_1
                    try clear hfz21_2
                    try clear hfz21_3
                    try clear hfz21_4
                    try clear hfz9_0
                    try clear hfz9_1
                    try clear hfz9_2
                    try clear hfz9_3
                    try clear hfz9_4
                    try clear p2
                    try clear p6
                    obtain ⟨x36_3, x127000_3, x127001_3, x127002_3, x127003_3, x127004_3, rfl, HA, HK3, BK126, HB⟩ := hrel
                    cases gk with
                    | zero => exact absurd HA.out (by simp [binnaclelaw18_CongGrows.l2])
                    | succ k3 =>
                      have H := HA.out
                      clear HA
                      simp only [binnaclelaw18_CongGrows.l2] at H
                      by_cases c23 : x36_3 < (IntKind.u64.wrap (Int.tdiv (IntKind.u64.wrap ((IntKind.u64.wrap (x127000_1 + (IntKind.u64.wrap (100 + (IntKind.u64.wrap (Int.tmod a1 1100)))))) - 1)) (IntKind.u64.wrap (100 + (IntKind.u64.wrap (Int.tmod a1 1100))))))
                      · rw [if_pos c23] at H
                        have c23b0 : decide (x36_3 < (IntKind.u64.wrap (Int.tdiv (IntKind.u64.wrap ((IntKind.u64.wrap (x127000_1 + (IntKind.u64.wrap (100 + (IntKind.u64.wrap (Int.tmod a1 1100)))))) - 1)) (IntKind.u64.wrap (100 + (IntKind.u64.wrap (Int.tmod a1 1100))))))) = true := decide_eq_true c23
                        clear c23
                        replace H := Option.bind_eq_some_iff.mp H
                        obtain ⟨⟨t133, t134, t135, t136, t137⟩, A240, H⟩ := H
                        replace H : (binnaclelaw18_CongGrows.l3 k3 (IntKind.u64.wrap (100 + (IntKind.u64.wrap (Int.tmod a1 1100)))) x19_1 x127000_1 (wrap64 (Int.tmod a0 8)) x19_1 (IntKind.u64.wrap (Int.tdiv (IntKind.u64.wrap ((IntKind.u64.wrap (x127000_1 + (IntKind.u64.wrap (100 + (IntKind.u64.wrap (Int.tmod a1 1100)))))) - 1)) (IntKind.u64.wrap (100 + (IntKind.u64.wrap (Int.tmod a1 1100)))))) x36_3 t133 t134 t135 t136 t137) = some r := H
                        have A24 := Aside0.mk A240
                        clear A240
                        have H' := Aside0.mk H
                        clear H
                        have hcz25_0 : wr.cell? ⟨gb126, 0, none⟩ = some (.int .u64 x127000_3) := (blk_cell BK126.out 0).trans rfl
                        have hcz25_1 : wr.cell? ⟨gb126, 1, none⟩ = some (.int .u64 x127001_3) := (blk_cell BK126.out 1).trans rfl
                        have hcz25_2 : wr.cell? ⟨gb126, 2, none⟩ = some (.int .u64 x127002_3) := (blk_cell BK126.out 2).trans rfl
                        have hcz25_3 : wr.cell? ⟨gb126, 3, none⟩ = some (.int .u64 x127003_3) := (blk_cell BK126.out 3).trans rfl
                        have hcz25_4 : wr.cell? ⟨gb126, 4, none⟩ = some (.bool x127004_3) := (blk_cell BK126.out 4).trans rfl
                        have hfz25_0 := blk_frozen BK126.out 0
                        have hfz25_1 := blk_frozen BK126.out 1
                        have hfz25_2 := blk_frozen BK126.out 2
                        have hfz25_3 := blk_frozen BK126.out 3
                        have hfz25_4 := blk_frozen BK126.out 4
                        go_wp2_with (first | ((with_reducible refine gate_callee (f := 23) rfl ?_); refine goesL_ (some 43) rfl rfl Try.func23 (by kernel_rfl) rfl #[.agg #[.int .u64 x127000_3, .int .u64 x127001_3, .int .u64 x127002_3, .int .u64 x127003_3, .bool x127004_3], .int .u64 (IntKind.u64.wrap (100 + (IntKind.u64.wrap (Int.tmod a1 1100)))), .int .u64 (IntKind.u64.wrap ((IntKind.u64.wrap (x19_1)) + 1))] rfl (by (try simp only [List.map_toArray, List.map_cons, List.map_nil]); first | done | rfl | (simp only [List.length_drop, List.length_take]; rfl)) ?_; (with_reducible refine (cong_Window_Came.calls k3 x127000_3 x127001_3 x127002_3 x127003_3 x127004_3 (IntKind.u64.wrap (100 + (IntKind.u64.wrap (Int.tmod a1 1100)))) (IntKind.u64.wrap ((IntKind.u64.wrap (x19_1)) + 1)) t133 t134 t135 t136 t137 _ A24.out).mono ?_); rintro e w26 ⟨rfl, hb⟩; refine ⟨_, rfl, ?_⟩; have n0_ := Aside0.mk (blk_below (g := gb126) (o := .cells #[.int .u64 x127000_3, .int .u64 x127001_3, .int .u64 x127002_3, .int .u64 x127003_3, .bool x127004_3] 39 (0, 0)) (by (with_reducible repeat (first | refine blk_drewN ?_ _ | refine blk_drew ?_ | refine blk_alloc ?_ _)); exact BK126.out) hb); have n1_ := Aside0.mk (below_step (by repeat (first | (with_reducible first | exact HB.out | apply below_alloc | apply pw_below_drewN | apply below_drew1 | refine below_set ?_ GE126.out) | exact HB.out)) hb); clear BK126; clear HB; have BK126 := n0_; have HB := n1_; clear n0_ n1_; (try clear hb); (try clear hb2); (try clear hk); (try clear hi); have hcz27_0 : w26.cell? ⟨gb126, 0, none⟩ = some (.int .u64 x127000_3) := (blk_cell BK126.out 0).trans rfl; have hcz27_1 : w26.cell? ⟨gb126, 1, none⟩ = some (.int .u64 x127001_3) := (blk_cell BK126.out 1).trans rfl; have hcz27_2 : w26.cell? ⟨gb126, 2, none⟩ = some (.int .u64 x127002_3) := (blk_cell BK126.out 2).trans rfl; have hcz27_3 : w26.cell? ⟨gb126, 3, none⟩ = some (.int .u64 x127003_3) := (blk_cell BK126.out 3).trans rfl; have hcz27_4 : w26.cell? ⟨gb126, 4, none⟩ = some (.bool x127004_3) := (blk_cell BK126.out 4).trans rfl; have hfz27_0 := blk_frozen BK126.out 0; have hfz27_1 := blk_frozen BK126.out 1; have hfz27_2 := blk_frozen BK126.out 2; have hfz27_3 := blk_frozen BK126.out 3; have hfz27_4 := blk_frozen BK126.out 4))
                        go_loopg [] k3 (fun kq w' => ∃ (x127000_4 : Int) (x127001_4 : Int) (x127002_4 : Int) (x127003_4 : Int) (x127004_4 : Bool), Aside0 (binnaclelaw18_CongGrows.l3 kq (IntKind.u64.wrap (100 + (IntKind.u64.wrap (Int.tmod a1 1100)))) x19_1 x127000_1 (wrap64 (Int.tmod a0 8)) x19_1 (IntKind.u64.wrap (Int.tdiv (IntKind.u64.wrap ((IntKind.u64.wrap (x127000_1 + (IntKind.u64.wrap (100 + (IntKind.u64.wrap (Int.tmod a1 1100)))))) - 1)) (IntKind.u64.wrap (100 + (IntKind.u64.wrap (Int.tmod a1 1100)))))) x36_3 x127000_4 x127001_4 x127002_4 x127003_4 x127004_4 = some r) ∧ Aside0 (kq ≤ k3) ∧ Aside0 (w'.heap[gb126]? = some (.cells #[.int .u64 x127000_4, .int .u64 x127001_4, .int .u64 x127002_4, .int .u64 x127003_4, .bool x127004_4] 39 (0, 0))) ∧ Aside0 (Below w.heap.size w w'))
                        case atStart => exact ⟨(t133), (t134), (t135), (t136), (t137), H', ⟨Nat.le_refl _⟩, ⟨by (with_reducible repeat (first | refine blk_drewN ?_ _ | refine blk_drew ?_ | refine blk_alloc ?_ _)); refine blk_put (cs := #[.int .u64 t133, .int .u64 t134, .int .u64 t135, .int .u64 t136, .bool x127004_3]) ?_ 4 _ rfl; (with_reducible repeat (first | refine blk_drewN ?_ _ | refine blk_drew ?_ | refine blk_alloc ?_ _)); refine blk_put (cs := #[.int .u64 t133, .int .u64 t134, .int .u64 t135, .int .u64 x127003_3, .bool x127004_3]) ?_ 3 _ rfl; (with_reducible repeat (first | refine blk_drewN ?_ _ | refine blk_drew ?_ | refine blk_alloc ?_ _)); refine blk_put (cs := #[.int .u64 t133, .int .u64 t134, .int .u64 x127002_3, .int .u64 x127003_3, .bool x127004_3]) ?_ 2 _ rfl; (with_reducible repeat (first | refine blk_drewN ?_ _ | refine blk_drew ?_ | refine blk_alloc ?_ _)); refine blk_put (cs := #[.int .u64 t133, .int .u64 x127001_3, .int .u64 x127002_3, .int .u64 x127003_3, .bool x127004_3]) ?_ 1 _ rfl; (with_reducible repeat (first | refine blk_drewN ?_ _ | refine blk_drew ?_ | refine blk_alloc ?_ _)); refine blk_put (cs := #[.int .u64 x127000_3, .int .u64 x127001_3, .int .u64 x127002_3, .int .u64 x127003_3, .bool x127004_3]) ?_ 0 _ rfl; (with_reducible repeat (first | refine blk_drewN ?_ _ | refine blk_drew ?_ | refine blk_alloc ?_ _)); exact BK126.out⟩, ⟨by repeat (first | (with_reducible first | exact HB.out | apply below_alloc | apply pw_below_drewN | apply below_drew1 | refine below_set ?_ GE126.out) | exact HB.out)⟩⟩
                        case round =>
                          clear H'
                          try clear c1
                          try clear c2
                          try clear p2
                          try clear c4
                          try clear c5
                          try clear p6
                          try clear c10
                          try clear c10b0
                          try clear c13
                          try clear c13b0
                          try clear c19
                          try clear c20
                          try clear c20b0
                          try clear c20b1
                          try clear c21
                          try clear c22
                          try clear c23
                          try clear c23b0
                          try clear hcz11_0
                          try clear hcz11_1
                          try clear hcz11_2
                          try clear hcz11_3
                          try clear hcz11_4
                          try clear hcz15_0
                          try clear hcz15_1
                          try clear hcz15_2
                          try clear hcz15_3
                          try clear hcz15_4
                          try clear hcz17_0
                          try clear hcz17_1
                          try clear hcz17_2
                          try clear hcz17_3
                          try clear hcz17_4
                          try clear hcz19_0
                          try clear hcz19_1
                          try clear hcz19_2
                          try clear hcz19_3
                          try clear hcz19_4
                          try clear hcz21_0
                          try clear hcz21_1
                          try clear hcz21_2
                          try clear hcz21_3
                          try clear hcz21_4
                          try clear hcz25_0
                          try clear hcz25_1
                          try clear hcz25_2
                          try clear hcz25_3
                          try clear hcz25_4
                          try clear hcz27_0
                          try clear hcz27_1
                          try clear hcz27_2
                          try clear hcz27_3
                          try clear hcz27_4
                          try clear hcz9_0
                          try clear hcz9_1
                          try clear hcz9_2
                          try clear hcz9_3
                          try clear hcz9_4
                          try clear hfz11_0
                          try clear hfz11_1
                          try clear hfz11_2
                          try clear hfz11_3
                          try clear hfz11_4
                          try clear hfz15_0
                          try clear hfz15_1
                          try clear hfz15_2
                          try clear hfz15_3
                          try clear hfz15_4
                          try clear hfz17_0
                          try clear hfz17_1
                          try clear hfz17_2
                          try clear hfz17_3
                          try clear hfz17_4
                          try clear hfz19_0
                          try clear hfz19_1
                          try clear hfz19_2
                          try clear hfz19_3
                          try clear hfz19_4
                          try clear hfz21_0
                          try clear hfz21_1
                          try clear hfz21_2
                          try clear hfz21_3
                          try clear hfz21_4
                          try clear hfz25_0
                          try clear hfz25_1
                          try clear hfz25_2
                          try clear hfz25_3
                          try clear hfz25_4
                          try clear hfz27_0
                          try clear hfz27_1
                          try clear hfz27_2
                          try clear hfz27_3
                          try clear hfz27_4
                          try clear hfz9_0
                          try clear hfz9_1
                          try clear hfz9_2
                          try clear hfz9_3
                          try clear hfz9_4
                          try clear p2
                          try clear p6
                          obtain ⟨x127000_4, x127001_4, x127002_4, x127003_4, x127004_4, HA, HK4, BK126, HB⟩ := hrel
                          cases gk with
                          | zero => exact absurd HA.out (by simp [binnaclelaw18_CongGrows.l3])
                          | succ k4 =>
                            have H := HA.out
                            clear HA
                            simp only [binnaclelaw18_CongGrows.l3] at H
                            replace H := Option.bind_eq_some_iff.mp H
                            obtain ⟨t138, A280, H⟩ := H
                            replace H : (if t138 > 0 then ((cong_Window_Sent.f x127000_4 x127001_4 x127002_4 x127003_4 x127004_4 (IntKind.u64.wrap (100 + (IntKind.u64.wrap (Int.tmod a1 1100))))).bind fun bt139 => (binnaclelaw18_CongGrows.l3 k4 (IntKind.u64.wrap (100 + (IntKind.u64.wrap (Int.tmod a1 1100)))) x19_1 x127000_1 (wrap64 (Int.tmod a0 8)) x19_1 (IntKind.u64.wrap (Int.tdiv (IntKind.u64.wrap ((IntKind.u64.wrap (x127000_1 + (IntKind.u64.wrap (100 + (IntKind.u64.wrap (Int.tmod a1 1100)))))) - 1)) (IntKind.u64.wrap (100 + (IntKind.u64.wrap (Int.tmod a1 1100)))))) x36_3 bt139.1 bt139.2.1 bt139.2.2.1 bt139.2.2.2.1 bt139.2.2.2.2)) else (binnaclelaw18_CongGrows.l2 k4 (IntKind.u64.wrap (100 + (IntKind.u64.wrap (Int.tmod a1 1100)))) x19_1 x127000_1 (wrap64 (Int.tmod a0 8)) x19_1 (IntKind.u64.wrap (Int.tdiv (IntKind.u64.wrap ((IntKind.u64.wrap (x127000_1 + (IntKind.u64.wrap (100 + (IntKind.u64.wrap (Int.tmod a1 1100)))))) - 1)) (IntKind.u64.wrap (100 + (IntKind.u64.wrap (Int.tmod a1 1100)))))) (IntKind.u64.wrap (x36_3 + 1)) x127000_4 x127001_4 x127002_4 x127003_4 x127004_4)) = some r := H
                            have A28 := Aside0.mk A280
                            clear A280
                            by_cases c29 : t138 > 0
                            · rw [if_pos c29] at H
                              have c29b0 : decide (0 < t138) = true := decide_eq_true c29
                              clear c29
                              replace H := Option.bind_eq_some_iff.mp H
                              obtain ⟨⟨t139, t140, t141, t142, t143⟩, A300, H⟩ := H
                              replace H : (binnaclelaw18_CongGrows.l3 k4 (IntKind.u64.wrap (100 + (IntKind.u64.wrap (Int.tmod a1 1100)))) x19_1 x127000_1 (wrap64 (Int.tmod a0 8)) x19_1 (IntKind.u64.wrap (Int.tdiv (IntKind.u64.wrap ((IntKind.u64.wrap (x127000_1 + (IntKind.u64.wrap (100 + (IntKind.u64.wrap (Int.tmod a1 1100)))))) - 1)) (IntKind.u64.wrap (100 + (IntKind.u64.wrap (Int.tmod a1 1100)))))) x36_3 t139 t140 t141 t142 t143) = some r := H
                              have A30 := Aside0.mk A300
                              clear A300
                              have H' := Aside0.mk H
                              clear H
                              have hcz31_0 : wr.cell? ⟨gb126, 0, none⟩ = some (.int .u64 x127000_4) := (blk_cell BK126.out 0).trans rfl
                              have hcz31_1 : wr.cell? ⟨gb126, 1, none⟩ = some (.int .u64 x127001_4) := (blk_cell BK126.out 1).trans rfl
                              have hcz31_2 : wr.cell? ⟨gb126, 2, none⟩ = some (.int .u64 x127002_4) := (blk_cell BK126.out 2).trans rfl
                              have hcz31_3 : wr.cell? ⟨gb126, 3, none⟩ = some (.int .u64 x127003_4) := (blk_cell BK126.out 3).trans rfl
                              have hcz31_4 : wr.cell? ⟨gb126, 4, none⟩ = some (.bool x127004_4) := (blk_cell BK126.out 4).trans rfl
                              have hfz31_0 := blk_frozen BK126.out 0
                              have hfz31_1 := blk_frozen BK126.out 1
                              have hfz31_2 := blk_frozen BK126.out 2
                              have hfz31_3 := blk_frozen BK126.out 3
                              have hfz31_4 := blk_frozen BK126.out 4
                              go_wp2_with (first | ((with_reducible refine gate_callee (f := 21) rfl ?_); refine goesL_ (some 45) rfl rfl Try.func21 (by kernel_rfl) rfl #[.agg #[.int .u64 x127000_4, .int .u64 x127001_4, .int .u64 x127002_4, .int .u64 x127003_4, .bool x127004_4]] rfl (by (try simp only [List.map_toArray, List.map_cons, List.map_nil]); first | done | rfl | (simp only [List.length_drop, List.length_take]; rfl)) ?_; (with_reducible refine (cong_Window_Room.calls x127000_4 x127001_4 x127002_4 x127003_4 x127004_4 t138 _ A28.out).mono ?_); rintro e w32 ⟨rfl, hb⟩; refine ⟨_, rfl, ?_⟩; have n0_ := Aside0.mk (blk_below (g := gb126) (o := .cells #[.int .u64 x127000_4, .int .u64 x127001_4, .int .u64 x127002_4, .int .u64 x127003_4, .bool x127004_4] 39 (0, 0)) (by (with_reducible repeat (first | refine blk_drewN ?_ _ | refine blk_drew ?_ | refine blk_alloc ?_ _)); exact BK126.out) hb); have n1_ := Aside0.mk (below_step (by repeat (first | (with_reducible first | exact HB.out | apply below_alloc | apply pw_below_drewN | apply below_drew1 | refine below_set ?_ GE126.out) | exact HB.out)) hb); clear BK126; clear HB; have BK126 := n0_; have HB := n1_; clear n0_ n1_; (try clear hb); (try clear hb2); (try clear hk); (try clear hi); have hcz33_0 : w32.cell? ⟨gb126, 0, none⟩ = some (.int .u64 x127000_4) := (blk_cell BK126.out 0).trans rfl; have hcz33_1 : w32.cell? ⟨gb126, 1, none⟩ = some (.int .u64 x127001_4) := (blk_cell BK126.out 1).trans rfl; have hcz33_2 : w32.cell? ⟨gb126, 2, none⟩ = some (.int .u64 x127002_4) := (blk_cell BK126.out 2).trans rfl; have hcz33_3 : w32.cell? ⟨gb126, 3, none⟩ = some (.int .u64 x127003_4) := (blk_cell BK126.out 3).trans rfl; have hcz33_4 : w32.cell? ⟨gb126, 4, none⟩ = some (.bool x127004_4) := (blk_cell BK126.out 4).trans rfl; have hfz33_0 := blk_frozen BK126.out 0; have hfz33_1 := blk_frozen BK126.out 1; have hfz33_2 := blk_frozen BK126.out 2; have hfz33_3 := blk_frozen BK126.out 3; have hfz33_4 := blk_frozen BK126.out 4) | ((with_reducible refine gate_callee (f := 22) rfl ?_); refine goesL_ (some 49) rfl rfl Try.func22 (by kernel_rfl) rfl #[.agg #[.int .u64 x127000_4, .int .u64 x127001_4, .int .u64 x127002_4, .int .u64 x127003_4, .bool x127004_4], .int .u64 (IntKind.u64.wrap (100 + (IntKind.u64.wrap (Int.tmod a1 1100))))] rfl (by (try simp only [List.map_toArray, List.map_cons, List.map_nil]); first | done | rfl | (simp only [List.length_drop, List.length_take]; rfl)) ?_; (with_reducible refine (cong_Window_Sent.calls x127000_4 x127001_4 x127002_4 x127003_4 x127004_4 (IntKind.u64.wrap (100 + (IntKind.u64.wrap (Int.tmod a1 1100)))) t139 t140 t141 t142 t143 _ A30.out).mono ?_); rintro e w34 ⟨rfl, hb⟩; refine ⟨_, rfl, ?_⟩; have n0_ := Aside0.mk (blk_below (g := gb126) (o := .cells #[.int .u64 x127000_4, .int .u64 x127001_4, .int .u64 x127002_4, .int .u64 x127003_4, .bool x127004_4] 39 (0, 0)) (by (with_reducible repeat (first | refine blk_drewN ?_ _ | refine blk_drew ?_ | refine blk_alloc ?_ _)); exact BK126.out) hb); have n1_ := Aside0.mk (below_step (by repeat (first | (with_reducible first | exact HB.out | apply below_alloc | apply pw_below_drewN | apply below_drew1 | refine below_set ?_ GE126.out) | exact HB.out)) hb); clear BK126; clear HB; have BK126 := n0_; have HB := n1_; clear n0_ n1_; (try clear hb); (try clear hb2); (try clear hk); (try clear hi); have hcz35_0 : w34.cell? ⟨gb126, 0, none⟩ = some (.int .u64 x127000_4) := (blk_cell BK126.out 0).trans rfl; have hcz35_1 : w34.cell? ⟨gb126, 1, none⟩ = some (.int .u64 x127001_4) := (blk_cell BK126.out 1).trans rfl; have hcz35_2 : w34.cell? ⟨gb126, 2, none⟩ = some (.int .u64 x127002_4) := (blk_cell BK126.out 2).trans rfl; have hcz35_3 : w34.cell? ⟨gb126, 3, none⟩ = some (.int .u64 x127003_4) := (blk_cell BK126.out 3).trans rfl; have hcz35_4 : w34.cell? ⟨gb126, 4, none⟩ = some (.bool x127004_4) := (blk_cell BK126.out 4).trans rfl; have hfz35_0 := blk_frozen BK126.out 0; have hfz35_1 := blk_frozen BK126.out 1; have hfz35_2 := blk_frozen BK126.out 2; have hfz35_3 := blk_frozen BK126.out 3; have hfz35_4 := blk_frozen BK126.out 4))
                              go_roundg k4
                              case measure => have := HK1.out; have := HK2.out; have := HK3.out; have := HK4.out; omega
                              case rel => exact ⟨(t139), (t140), (t141), (t142), (t143), H', ⟨by have := HK1.out; have := HK2.out; have := HK3.out; have := HK4.out; omega⟩, ⟨by (with_reducible repeat (first | refine blk_drewN ?_ _ | refine blk_drew ?_ | refine blk_alloc ?_ _)); refine blk_put (cs := #[.int .u64 t139, .int .u64 t140, .int .u64 t141, .int .u64 t142, .bool x127004_4]) ?_ 4 _ rfl; (with_reducible repeat (first | refine blk_drewN ?_ _ | refine blk_drew ?_ | refine blk_alloc ?_ _)); refine blk_put (cs := #[.int .u64 t139, .int .u64 t140, .int .u64 t141, .int .u64 x127003_4, .bool x127004_4]) ?_ 3 _ rfl; (with_reducible repeat (first | refine blk_drewN ?_ _ | refine blk_drew ?_ | refine blk_alloc ?_ _)); refine blk_put (cs := #[.int .u64 t139, .int .u64 t140, .int .u64 x127002_4, .int .u64 x127003_4, .bool x127004_4]) ?_ 2 _ rfl; (with_reducible repeat (first | refine blk_drewN ?_ _ | refine blk_drew ?_ | refine blk_alloc ?_ _)); refine blk_put (cs := #[.int .u64 t139, .int .u64 x127001_4, .int .u64 x127002_4, .int .u64 x127003_4, .bool x127004_4]) ?_ 1 _ rfl; (with_reducible repeat (first | refine blk_drewN ?_ _ | refine blk_drew ?_ | refine blk_alloc ?_ _)); refine blk_put (cs := #[.int .u64 x127000_4, .int .u64 x127001_4, .int .u64 x127002_4, .int .u64 x127003_4, .bool x127004_4]) ?_ 0 _ rfl; (with_reducible repeat (first | refine blk_drewN ?_ _ | refine blk_drew ?_ | refine blk_alloc ?_ _)); exact BK126.out⟩, ⟨by repeat (first | (with_reducible first | exact HB.out | apply below_alloc | apply pw_below_drewN | apply below_drew1 | refine below_set ?_ GE126.out) | exact HB.out)⟩⟩
                            · rw [if_neg c29] at H
                              have c29b0 : decide (0 < t138) = false := decide_eq_false c29
                              clear c29
                              have H' := Aside0.mk H
                              clear H
                              have hcz36_0 : wr.cell? ⟨gb126, 0, none⟩ = some (.int .u64 x127000_4) := (blk_cell BK126.out 0).trans rfl
                              have hcz36_1 : wr.cell? ⟨gb126, 1, none⟩ = some (.int .u64 x127001_4) := (blk_cell BK126.out 1).trans rfl
                              have hcz36_2 : wr.cell? ⟨gb126, 2, none⟩ = some (.int .u64 x127002_4) := (blk_cell BK126.out 2).trans rfl
                              have hcz36_3 : wr.cell? ⟨gb126, 3, none⟩ = some (.int .u64 x127003_4) := (blk_cell BK126.out 3).trans rfl
                              have hcz36_4 : wr.cell? ⟨gb126, 4, none⟩ = some (.bool x127004_4) := (blk_cell BK126.out 4).trans rfl
                              have hfz36_0 := blk_frozen BK126.out 0
                              have hfz36_1 := blk_frozen BK126.out 1
                              have hfz36_2 := blk_frozen BK126.out 2
                              have hfz36_3 := blk_frozen BK126.out 3
                              have hfz36_4 := blk_frozen BK126.out 4
                              go_wp2_with (first | ((with_reducible refine gate_callee (f := 21) rfl ?_); refine goesL_ (some 45) rfl rfl Try.func21 (by kernel_rfl) rfl #[.agg #[.int .u64 x127000_4, .int .u64 x127001_4, .int .u64 x127002_4, .int .u64 x127003_4, .bool x127004_4]] rfl (by (try simp only [List.map_toArray, List.map_cons, List.map_nil]); first | done | rfl | (simp only [List.length_drop, List.length_take]; rfl)) ?_; (with_reducible refine (cong_Window_Room.calls x127000_4 x127001_4 x127002_4 x127003_4 x127004_4 t138 _ A28.out).mono ?_); rintro e w37 ⟨rfl, hb⟩; refine ⟨_, rfl, ?_⟩; have n0_ := Aside0.mk (blk_below (g := gb126) (o := .cells #[.int .u64 x127000_4, .int .u64 x127001_4, .int .u64 x127002_4, .int .u64 x127003_4, .bool x127004_4] 39 (0, 0)) (by (with_reducible repeat (first | refine blk_drewN ?_ _ | refine blk_drew ?_ | refine blk_alloc ?_ _)); exact BK126.out) hb); have n1_ := Aside0.mk (below_step (by repeat (first | (with_reducible first | exact HB.out | apply below_alloc | apply pw_below_drewN | apply below_drew1 | refine below_set ?_ GE126.out) | exact HB.out)) hb); clear BK126; clear HB; have BK126 := n0_; have HB := n1_; clear n0_ n1_; (try clear hb); (try clear hb2); (try clear hk); (try clear hi)))
                              go_roundg k4
                              case measure => have := HK1.out; have := HK2.out; have := HK3.out; have := HK4.out; omega
                              case rel => exact ⟨(IntKind.u64.wrap (x36_3 + 1)), (x127000_4), (x127001_4), (x127002_4), (x127003_4), (x127004_4), (by first | rfl | (simp; done) | (simp [*]; done)), H', ⟨by have := HK1.out; have := HK2.out; have := HK3.out; have := HK4.out; omega⟩, ⟨by (with_reducible repeat (first | refine blk_drewN ?_ _ | refine blk_drew ?_ | refine blk_alloc ?_ _)); exact BK126.out⟩, ⟨by repeat (first | (with_reducible first | exact HB.out | apply below_alloc | apply pw_below_drewN | apply below_drew1 | refine below_set ?_ GE126.out) | exact HB.out)⟩⟩
                      · rw [if_neg c23] at H
                        have c23b0 : decide (x36_3 < (IntKind.u64.wrap (Int.tdiv (IntKind.u64.wrap ((IntKind.u64.wrap (x127000_1 + (IntKind.u64.wrap (100 + (IntKind.u64.wrap (Int.tmod a1 1100)))))) - 1)) (IntKind.u64.wrap (100 + (IntKind.u64.wrap (Int.tmod a1 1100))))))) = false := decide_eq_false c23
                        clear c23
                        by_cases c38 : x127000_3 < (IntKind.u64.wrap (2 * x127000_1))
                        · rw [if_pos c38] at H
                          have c38b0 : decide (x127000_3 < (IntKind.u64.wrap (2 * x127000_1))) = true := decide_eq_true c38
                          clear c38
                          obtain rfl := Option.some.inj H
                          have hcz39_0 : wr.cell? ⟨gb126, 0, none⟩ = some (.int .u64 x127000_3) := (blk_cell BK126.out 0).trans rfl
                          have hcz39_1 : wr.cell? ⟨gb126, 1, none⟩ = some (.int .u64 x127001_3) := (blk_cell BK126.out 1).trans rfl
                          have hcz39_2 : wr.cell? ⟨gb126, 2, none⟩ = some (.int .u64 x127002_3) := (blk_cell BK126.out 2).trans rfl
                          have hcz39_3 : wr.cell? ⟨gb126, 3, none⟩ = some (.int .u64 x127003_3) := (blk_cell BK126.out 3).trans rfl
                          have hcz39_4 : wr.cell? ⟨gb126, 4, none⟩ = some (.bool x127004_3) := (blk_cell BK126.out 4).trans rfl
                          have hfz39_0 := blk_frozen BK126.out 0
                          have hfz39_1 := blk_frozen BK126.out 1
                          have hfz39_2 := blk_frozen BK126.out 2
                          have hfz39_3 := blk_frozen BK126.out 3
                          have hfz39_4 := blk_frozen BK126.out 4
                          go_wp2
                          go_ret
                          exact ⟨by first | rfl | (simp [errW_none, errW_some] <;> rfl) | (simp [*, errW_none, errW_some] <;> rfl), by repeat (first | (with_reducible first | exact HB.out | apply below_alloc | apply pw_below_drewN | apply below_drew1 | refine below_set ?_ GE126.out) | exact HB.out)⟩
                        · rw [if_neg c38] at H
                          have c38b0 : decide (x127000_3 < (IntKind.u64.wrap (2 * x127000_1))) = false := decide_eq_false c38
                          clear c38
                          by_cases c40 : x127000_3 > (IntKind.u64.wrap ((IntKind.u64.wrap (2 * x127000_1)) + (IntKind.u64.wrap (100 + (IntKind.u64.wrap (Int.tmod a1 1100))))))
                          · rw [if_pos c40] at H
                            have c40b0 : decide ((IntKind.u64.wrap ((IntKind.u64.wrap (2 * x127000_1)) + (IntKind.u64.wrap (100 + (IntKind.u64.wrap (Int.tmod a1 1100)))))) < x127000_3) = true := decide_eq_true c40
                            clear c40
                            obtain rfl := Option.some.inj H
                            have hcz41_0 : wr.cell? ⟨gb126, 0, none⟩ = some (.int .u64 x127000_3) := (blk_cell BK126.out 0).trans rfl
                            have hcz41_1 : wr.cell? ⟨gb126, 1, none⟩ = some (.int .u64 x127001_3) := (blk_cell BK126.out 1).trans rfl
                            have hcz41_2 : wr.cell? ⟨gb126, 2, none⟩ = some (.int .u64 x127002_3) := (blk_cell BK126.out 2).trans rfl
                            have hcz41_3 : wr.cell? ⟨gb126, 3, none⟩ = some (.int .u64 x127003_3) := (blk_cell BK126.out 3).trans rfl
                            have hcz41_4 : wr.cell? ⟨gb126, 4, none⟩ = some (.bool x127004_3) := (blk_cell BK126.out 4).trans rfl
                            have hfz41_0 := blk_frozen BK126.out 0
                            have hfz41_1 := blk_frozen BK126.out 1
                            have hfz41_2 := blk_frozen BK126.out 2
                            have hfz41_3 := blk_frozen BK126.out 3
                            have hfz41_4 := blk_frozen BK126.out 4
                            go_wp2
                            go_ret
                            exact ⟨by first | rfl | (simp [errW_none, errW_some] <;> rfl) | (simp [*, errW_none, errW_some] <;> rfl), by repeat (first | (with_reducible first | exact HB.out | apply below_alloc | apply pw_below_drewN | apply below_drew1 | refine below_set ?_ GE126.out) | exact HB.out)⟩
                          · rw [if_neg c40] at H
                            have c40b0 : decide ((IntKind.u64.wrap ((IntKind.u64.wrap (2 * x127000_1)) + (IntKind.u64.wrap (100 + (IntKind.u64.wrap (Int.tmod a1 1100)))))) < x127000_3) = false := decide_eq_false c40
                            clear c40
                            have H' := Aside0.mk H
                            clear H
                            have hcz42_0 : wr.cell? ⟨gb126, 0, none⟩ = some (.int .u64 x127000_3) := (blk_cell BK126.out 0).trans rfl
                            have hcz42_1 : wr.cell? ⟨gb126, 1, none⟩ = some (.int .u64 x127001_3) := (blk_cell BK126.out 1).trans rfl
                            have hcz42_2 : wr.cell? ⟨gb126, 2, none⟩ = some (.int .u64 x127002_3) := (blk_cell BK126.out 2).trans rfl
                            have hcz42_3 : wr.cell? ⟨gb126, 3, none⟩ = some (.int .u64 x127003_3) := (blk_cell BK126.out 3).trans rfl
                            have hcz42_4 : wr.cell? ⟨gb126, 4, none⟩ = some (.bool x127004_3) := (blk_cell BK126.out 4).trans rfl
                            have hfz42_0 := blk_frozen BK126.out 0
                            have hfz42_1 := blk_frozen BK126.out 1
                            have hfz42_2 := blk_frozen BK126.out 2
                            have hfz42_3 := blk_frozen BK126.out 3
                            have hfz42_4 := blk_frozen BK126.out 4
                            go_wp2
                            go_roundg k3
                            case measure => have := HK1.out; have := HK2.out; have := HK3.out; omega
                            case rel => exact ⟨(wrap64 (x19_1 + 1)), (x127000_3), (x127001_3), (x127002_3), (x127003_3), (x127004_3), (by first | rfl | (simp; done) | (simp [*]; done)), H', ⟨by have := HK1.out; have := HK2.out; have := HK3.out; omega⟩, ⟨by (with_reducible repeat (first | refine blk_drewN ?_ _ | refine blk_drew ?_ | refine blk_alloc ?_ _)); exact BK126.out⟩, ⟨by repeat (first | (with_reducible first | exact HB.out | apply below_alloc | apply pw_below_drewN | apply below_drew1 | refine below_set ?_ GE126.out) | exact HB.out)⟩⟩
        · rw [if_neg c10] at H
          have c10b0 : decide (x19_1 < (wrap64 (Int.tmod a0 8))) = false := decide_eq_false c10
          clear c10
          obtain rfl := Option.some.inj H
          go_wp2
          go_ret
          exact ⟨by first | rfl | (simp [errW_none, errW_some] <;> rfl) | (simp [*, errW_none, errW_some] <;> rfl), by repeat (first | (with_reducible first | exact HB.out | apply below_alloc | apply pw_below_drewN | apply below_drew1 | refine below_set ?_ GE126.out) | exact HB.out)⟩
  · replace c4 := Bool.eq_false_iff.mpr c4
    subst c4
    have H1 : (some false) = some r := by rw [if_neg (show ¬ (false = true) by decide)] at H; exact H
    clear H
    have H := H1
    clear H1
    obtain rfl := Option.some.inj H
    go_enter Try.func5, Try.ntmps5
    go_wp2_with (first | ((with_reducible refine gate_callee (f := 19) rfl ?_); refine goesL_ (some 9) rfl rfl Try.func19 (by kernel_rfl) rfl #[] rfl (by (try simp only [List.map_toArray, List.map_cons, List.map_nil]); first | done | rfl | (simp only [List.length_drop, List.length_take]; rfl)) ?_; (with_reducible refine (binnaclelaw18_Awake.calls  false _ A3.out).mono ?_); rintro e w43 ⟨rfl, hb⟩; refine ⟨_, rfl, ?_⟩; have n0_ := Aside0.mk (below_step (by repeat (first | (with_reducible first | exact HB.out | apply below_alloc | apply pw_below_drewN | apply below_drew1) | exact HB.out)) hb); clear HB; have HB := n0_; clear n0_; (try clear hb); (try clear hb2); (try clear hk); (try clear hi)))
    go_ret
    exact ⟨by first | rfl | (simp [errW_none, errW_some] <;> rfl) | (simp [*, errW_none, errW_some] <;> rfl), by repeat (first | (with_reducible first | exact HB.out | apply below_alloc | apply pw_below_drewN | apply below_drew1) | exact HB.out)⟩

/-- THE ONE PURE STATEMENT of binnaclelaw18_CongGrows: yours. -/
def binnaclelaw18_CongGrows.Pure : Prop := ∀ (a0 : Int) (a1 : Int), (Lit.int .u8 a0).wf = true → (Lit.int .u16 a1).wf = true → ∃ k, binnaclelaw18_CongGrows.f k a0 a1 = some true
theorem binnaclelaw18_CongGrows.walk (P : binnaclelaw18_CongGrows.Pure) (a0 : Int) (a1 : Int) (w : World) (w0 : (Lit.int .u8 a0).wf = true) (w1 : (Lit.int .u16 a1).wf = true) :
    Calls Try.prog 5 #[.int .u8 a0, .int .u16 a1] w fun e w' => e = .returned (.bool true) ∧ Below w.heap.size w w' := by
  obtain ⟨k, h⟩ := P a0 a1 w0 w1
  refine (binnaclelaw18_CongGrows.calls k a0 a1 true w h).mono ?_
  rintro e w' ⟨rfl, hd⟩
  exact ⟨rfl, hd⟩

end Go.Proofs.Ytloiihbhpmmaiaa.PCongGrows
