-- PRINTED BY print.sh 35421559b90ae4d0a3588c463048766b98c2df88dd9212a6774a882060cdf62d: not written by this session
import Derived.Test.YtloiihbhpmmaiaaPCreditMeetsx0
import Derived.Test.YtloiihbhpmmaiaaPCreditMeetsx1
namespace Go.Proofs.Ytloiihbhpmmaiaa.PCreditMeets
open Go.RowKit Go.Proofs.YtloiihbhpmmaiaaW.PrintWords Go.Proofs.YtloiihbhpmmaiaaW.PrintLast Go.Proofs.YtloiihbhpmmaiaaW.PrintMore
attribute [local go_sem] max2_int min2_int max_two min_two max_three min_three max_four min_four   -- for this text's walks alone
set_option linter.unusedVariables false
set_option linter.unusedSimpArgs false

/-! ### binnaclelaw20_CreditMeets: function 8 -/
mutual
def binnaclelaw20_CreditMeets.j2 : Nat → Int → Int → Int → Int → Int → Int → Int → Int → Int → Option (Bool)
  | 0, _, _, _, _, _, _, _, _, _ => none
  | k + 1, x7, x140000, x140001, x140002, x140003, x140004, x141000, x141001, x141002 => (credit_Given_Wants.f x140000 x140001 x140002 x140003 x140004).bind fun t172 => (if t172 = true then ((credit_Given_Told.f x140000 x140001 x140002 x140003 x140004).bind fun bt173 => ((credit_Got_Raise.f x141000 x141001 x141002 bt173.1).bind fun bt178 => ((credit_Got_Room.f bt178.1 bt178.2.1 bt178.2.2).bind fun t181 => (if t181 ≥ (IntKind.u64.wrap (Int.tdiv x7 2)) then ((credit_Got_Room.f bt178.1 bt178.2.1 bt178.2.2).bind fun t182 => (if t182 > 0 then (some true) else (some (decide (x7 < 2))))) else (some false))))) else ((credit_Got_Room.f x141000 x141001 x141002).bind fun t183 => (if t183 ≥ (IntKind.u64.wrap (Int.tdiv x7 2)) then ((credit_Got_Room.f x141000 x141001 x141002).bind fun t184 => (if t184 > 0 then (some true) else (some (decide (x7 < 2))))) else (some false))))
def binnaclelaw20_CreditMeets.l0 : Nat → List Bool → Int → Int → List Int → Int → Int → Int → Int → Int → Int → Int → Int → Int → Int → Option (Bool)
  | 0, _, _, _, _, _, _, _, _, _, _, _, _, _, _ => none
  | k + 1, x2, x7, x10, x28, x29, x30, x140000, x140001, x140002, x140003, x140004, x141000, x141001, x141002 => if x30 < x29 then (if 0 ≤ x30 then (if x30 < (x28.length : Int) then (if x30 ≥ 200 then (binnaclelaw20_CreditMeets.j2 k x7 x140000 x140001 x140002 x140003 x140004 x141000 x141001 x141002) else ((credit_Got_Use.f x141000 x141001 x141002 (IntKind.u64.wrap (rd x28 x30))).bind fun bt145 => ((credit_Given_Use.f x140000 x140001 x140002 x140003 x140004 bt145.2.2.2).bind fun bt150 => (if bt150.2.2.2.2.2 = 0 then ((credit_Given_Take.f bt150.1 bt150.2.1 bt150.2.2.1 bt150.2.2.2.1 bt150.2.2.2.2.1 bt145.2.2.2).bind fun bt157 => ((credit_Given_Wants.f bt157.1 bt157.2.1 bt157.2.2.1 bt157.2.2.2.1 bt157.2.2.2.2).bind fun t162 => (if t162 = true then (if x30 ≥ (x2.length : Int) then (binnaclelaw20_CreditMeets.j1 k x2 x7 (IntKind.u64.wrap (x10 + bt145.2.2.2)) x28 x29 x30 true bt157.1 bt157.2.1 bt157.2.2.1 bt157.2.2.2.1 bt157.2.2.2.2 bt145.1 bt145.2.1 bt145.2.2.1) else (if x30 < (x2.length : Int) then (binnaclelaw20_CreditMeets.j1 k x2 x7 (IntKind.u64.wrap (x10 + bt145.2.2.2)) x28 x29 x30 (rdOf false x2 x30) bt157.1 bt157.2.1 bt157.2.2.1 bt157.2.2.2.1 bt157.2.2.2.2 bt145.1 bt145.2.1 bt145.2.2.1) else (none))) else (binnaclelaw20_CreditMeets.j1 k x2 x7 (IntKind.u64.wrap (x10 + bt145.2.2.2)) x28 x29 x30 false bt157.1 bt157.2.1 bt157.2.2.1 bt157.2.2.2.1 bt157.2.2.2.2 bt145.1 bt145.2.1 bt145.2.2.1)))) else (some false))))) else (none)) else (none)) else (binnaclelaw20_CreditMeets.j2 k x7 x140000 x140001 x140002 x140003 x140004 x141000 x141001 x141002)
def binnaclelaw20_CreditMeets.j1 : Nat → List Bool → Int → Int → List Int → Int → Int → Bool → Int → Int → Int → Int → Int → Int → Int → Int → Option (Bool)
  | 0, _, _, _, _, _, _, _, _, _, _, _, _, _, _, _ => none
  | k + 1, x2, x7, x10, x28, x29, x30, x72, x140000, x140001, x140002, x140003, x140004, x141000, x141001, x141002 => if x72 = true then ((credit_Given_Told.f x140000 x140001 x140002 x140003 x140004).bind fun bt164 => ((credit_Got_Raise.f x141000 x141001 x141002 bt164.1).bind fun bt169 => (if bt164.2.1 = x10 then (if bt169.2.1 = x10 then (if bt169.1 > bt164.1 then (some false) else (binnaclelaw20_CreditMeets.l0 k x2 x7 x10 x28 x29 (wrap64 (x30 + 1)) bt164.1 bt164.2.1 bt164.2.2.1 bt164.2.2.2.1 bt164.2.2.2.2 bt169.1 bt169.2.1 bt169.2.2)) else (some false)) else (some false)))) else (if x140001 = x10 then (if x141001 = x10 then (if x141000 > x140000 then (some false) else (binnaclelaw20_CreditMeets.l0 k x2 x7 x10 x28 x29 (wrap64 (x30 + 1)) x140000 x140001 x140002 x140003 x140004 x141000 x141001 x141002)) else (some false)) else (some false))
end
def binnaclelaw20_CreditMeets.f (k : Nat) (a0 : Int) (l1 : List Int) (l2 : List Bool) : Option (Bool) := (binnaclelaw20_Awake.f).bind fun t133 => (if t133 = true then ((credit_New.f (IntKind.u64.wrap (1 + (IntKind.u64.wrap (Int.tmod a0 300))))).bind fun bt134 => ((credit_Got_Raise.f 0 0 0 (IntKind.u64.wrap (1 + (IntKind.u64.wrap (Int.tmod a0 300))))).bind fun bt141 => (binnaclelaw20_CreditMeets.l0 k l2 (IntKind.u64.wrap (1 + (IntKind.u64.wrap (Int.tmod a0 300)))) 0 l1 (l1.length : Int) 0 bt134.1 bt134.2.1 bt134.2.2.1 bt134.2.2.2.1 bt134.2.2.2.2 bt141.1 bt141.2.1 bt141.2.2))) else (some false))
theorem binnaclelaw20_CreditMeets.mono_l : ∀ k, (∀ y0 y1 y2 y3 y4 y5 y6 y7 y8, LeO (binnaclelaw20_CreditMeets.j2 k y0 y1 y2 y3 y4 y5 y6 y7 y8) (binnaclelaw20_CreditMeets.j2 (k + 1) y0 y1 y2 y3 y4 y5 y6 y7 y8)) ∧ (∀ y0 y1 y2 y3 y4 y5 y6 y7 y8 y9 y10 y11 y12 y13, LeO (binnaclelaw20_CreditMeets.l0 k y0 y1 y2 y3 y4 y5 y6 y7 y8 y9 y10 y11 y12 y13) (binnaclelaw20_CreditMeets.l0 (k + 1) y0 y1 y2 y3 y4 y5 y6 y7 y8 y9 y10 y11 y12 y13)) ∧ (∀ y0 y1 y2 y3 y4 y5 y6 y7 y8 y9 y10 y11 y12 y13 y14, LeO (binnaclelaw20_CreditMeets.j1 k y0 y1 y2 y3 y4 y5 y6 y7 y8 y9 y10 y11 y12 y13 y14) (binnaclelaw20_CreditMeets.j1 (k + 1) y0 y1 y2 y3 y4 y5 y6 y7 y8 y9 y10 y11 y12 y13 y14))
  | 0 => ⟨fun _ _ _ _ _ _ _ _ _ r h => by simp [binnaclelaw20_CreditMeets.j2] at h, fun _ _ _ _ _ _ _ _ _ _ _ _ _ _ r h => by simp [binnaclelaw20_CreditMeets.l0] at h, fun _ _ _ _ _ _ _ _ _ _ _ _ _ _ _ r h => by simp [binnaclelaw20_CreditMeets.j1] at h⟩
  | k + 1 => by
    obtain ⟨ih0, ih1, ih2⟩ := binnaclelaw20_CreditMeets.mono_l k
    refine ⟨?_, ?_, ?_⟩
    · intro y0 y1 y2 y3 y4 y5 y6 y7 y8
      unfold binnaclelaw20_CreditMeets.j2
      repeat' first
      | (with_reducible exact ih0 _ _ _ _ _ _ _ _ _)
      | (with_reducible exact ih1 _ _ _ _ _ _ _ _ _ _ _ _ _ _)
      | (with_reducible exact ih2 _ _ _ _ _ _ _ _ _ _ _ _ _ _ _)
      | (with_reducible exact LeO.refl _)
      | (with_reducible exact LeO.none _)
      | (with_reducible refine LeO.ite ?_ ?_)
      | (with_reducible refine LeO.bind ?_ (fun _ => ?_))
      | exact ih0 _ _ _ _ _ _ _ _ _
      | exact ih1 _ _ _ _ _ _ _ _ _ _ _ _ _ _
      | exact ih2 _ _ _ _ _ _ _ _ _ _ _ _ _ _ _
      | exact LeO.none _
      | refine LeO.ite ?_ ?_
      | refine LeO.bind ?_ (fun _ => ?_)
    · intro y0 y1 y2 y3 y4 y5 y6 y7 y8 y9 y10 y11 y12 y13
      unfold binnaclelaw20_CreditMeets.l0
      repeat' first
      | (with_reducible exact ih0 _ _ _ _ _ _ _ _ _)
      | (with_reducible exact ih1 _ _ _ _ _ _ _ _ _ _ _ _ _ _)
      | (with_reducible exact ih2 _ _ _ _ _ _ _ _ _ _ _ _ _ _ _)
      | (with_reducible exact LeO.refl _)
      | (with_reducible exact LeO.none _)
      | (with_reducible refine LeO.ite ?_ ?_)
      | (with_reducible refine LeO.bind ?_ (fun _ => ?_))
      | exact ih0 _ _ _ _ _ _ _ _ _
      | exact ih1 _ _ _ _ _ _ _ _ _ _ _ _ _ _
      | exact ih2 _ _ _ _ _ _ _ _ _ _ _ _ _ _ _
      | exact LeO.none _
      | refine LeO.ite ?_ ?_
      | refine LeO.bind ?_ (fun _ => ?_)
    · intro y0 y1 y2 y3 y4 y5 y6 y7 y8 y9 y10 y11 y12 y13 y14
      unfold binnaclelaw20_CreditMeets.j1
      repeat' first
      | (with_reducible exact ih0 _ _ _ _ _ _ _ _ _)
      | (with_reducible exact ih1 _ _ _ _ _ _ _ _ _ _ _ _ _ _)
      | (with_reducible exact ih2 _ _ _ _ _ _ _ _ _ _ _ _ _ _ _)
      | (with_reducible exact LeO.refl _)
      | (with_reducible exact LeO.none _)
      | (with_reducible refine LeO.ite ?_ ?_)
      | (with_reducible refine LeO.bind ?_ (fun _ => ?_))
      | exact ih0 _ _ _ _ _ _ _ _ _
      | exact ih1 _ _ _ _ _ _ _ _ _ _ _ _ _ _
      | exact ih2 _ _ _ _ _ _ _ _ _ _ _ _ _ _ _
      | exact LeO.none _
      | refine LeO.ite ?_ ?_
      | refine LeO.bind ?_ (fun _ => ?_)
theorem binnaclelaw20_CreditMeets.mono : ∀ a0 a1 a2 k, LeO (binnaclelaw20_CreditMeets.f k a0 a1 a2) (binnaclelaw20_CreditMeets.f (k + 1) a0 a1 a2) := by
  intro a0 a1 a2 k
  obtain ⟨ih0, ih1, ih2⟩ := binnaclelaw20_CreditMeets.mono_l k
  unfold binnaclelaw20_CreditMeets.f
  repeat' first
      | (with_reducible exact ih0 _ _ _ _ _ _ _ _ _)
      | (with_reducible exact ih1 _ _ _ _ _ _ _ _ _ _ _ _ _ _)
      | (with_reducible exact ih2 _ _ _ _ _ _ _ _ _ _ _ _ _ _ _)
      | (with_reducible exact LeO.refl _)
      | (with_reducible exact LeO.none _)
      | (with_reducible refine LeO.ite ?_ ?_)
      | (with_reducible refine LeO.bind ?_ (fun _ => ?_))
      | exact ih0 _ _ _ _ _ _ _ _ _
      | exact ih1 _ _ _ _ _ _ _ _ _ _ _ _ _ _
      | exact ih2 _ _ _ _ _ _ _ _ _ _ _ _ _ _ _
      | exact LeO.none _
      | refine LeO.ite ?_ ?_
      | refine LeO.bind ?_ (fun _ => ?_)
set_option maxHeartbeats 8000000 in
set_option maxRecDepth 100000 in
theorem binnaclelaw20_CreditMeets.calls (k : Nat) (a0 : Int) (A1 : Option Addr) (c1 : Nat) (l1 : List Int) (A2 : Option Addr) (c2 : Nat) (l2 : List Bool) (r : Bool) (w : World) (hr1 : Kd.C (Kd.int .u8) w A1 l1.length l1) (hc1 : l1.length ≤ c1) (hr2 : Kd.C Kd.bool w A2 l2.length l2) (hc2 : l2.length ≤ c2) (h : binnaclelaw20_CreditMeets.f k a0 l1 l2 = some r) :
    Calls Try.prog 8 #[.int .u16 a0, .slice A1 l1.length c1, .slice A2 l2.length c2] w fun e w' => e = .returned (.bool r) ∧ Below w.heap.size w w' := by
  have hu51 := Try.underlying51
  have hu61 := Try.underlying61
  have HR1 := Aside0.mk hr1
  have HC1 := Aside0.mk hc1
  clear hr1 hc1
  have HR2 := Aside0.mk hr2
  have HC2 := Aside0.mk hc2
  clear hr2 hc2
  have HB := Aside0.mk (Below.refl w.heap.size w)
  have H : ((binnaclelaw20_Awake.f).bind fun t133 => (if t133 = true then ((credit_New.f (IntKind.u64.wrap (1 + (IntKind.u64.wrap (Int.tmod a0 300))))).bind fun bt134 => ((credit_Got_Raise.f 0 0 0 (IntKind.u64.wrap (1 + (IntKind.u64.wrap (Int.tmod a0 300))))).bind fun bt141 => (binnaclelaw20_CreditMeets.l0 k l2 (IntKind.u64.wrap (1 + (IntKind.u64.wrap (Int.tmod a0 300)))) 0 l1 (l1.length : Int) 0 bt134.1 bt134.2.1 bt134.2.2.1 bt134.2.2.2.1 bt134.2.2.2.2 bt141.1 bt141.2.1 bt141.2.2))) else (some false))) = some r := h
  clear h
  replace H := Option.bind_eq_some_iff.mp H
  obtain ⟨t133, A40, H⟩ := H
  replace H : (if t133 = true then ((credit_New.f (IntKind.u64.wrap (1 + (IntKind.u64.wrap (Int.tmod a0 300))))).bind fun bt134 => ((credit_Got_Raise.f 0 0 0 (IntKind.u64.wrap (1 + (IntKind.u64.wrap (Int.tmod a0 300))))).bind fun bt141 => (binnaclelaw20_CreditMeets.l0 k l2 (IntKind.u64.wrap (1 + (IntKind.u64.wrap (Int.tmod a0 300)))) 0 l1 (l1.length : Int) 0 bt134.1 bt134.2.1 bt134.2.2.1 bt134.2.2.2.1 bt134.2.2.2.2 bt141.1 bt141.2.1 bt141.2.2))) else (some false)) = some r := H
  have A4 := Aside0.mk A40
  clear A40
  by_cases c5 : t133 = true
  · subst c5
    have H1 : ((credit_New.f (IntKind.u64.wrap (1 + (IntKind.u64.wrap (Int.tmod a0 300))))).bind fun bt134 => ((credit_Got_Raise.f 0 0 0 (IntKind.u64.wrap (1 + (IntKind.u64.wrap (Int.tmod a0 300))))).bind fun bt141 => (binnaclelaw20_CreditMeets.l0 k l2 (IntKind.u64.wrap (1 + (IntKind.u64.wrap (Int.tmod a0 300)))) 0 l1 (l1.length : Int) 0 bt134.1 bt134.2.1 bt134.2.2.1 bt134.2.2.2.1 bt134.2.2.2.2 bt141.1 bt141.2.1 bt141.2.2))) = some r := by rw [if_pos rfl] at H; exact H
    clear H
    have H := H1
    clear H1
    replace H := Option.bind_eq_some_iff.mp H
    obtain ⟨⟨t134, t135, t136, t137, t138⟩, A60, H⟩ := H
    replace H : ((credit_Got_Raise.f 0 0 0 (IntKind.u64.wrap (1 + (IntKind.u64.wrap (Int.tmod a0 300))))).bind fun bt141 => (binnaclelaw20_CreditMeets.l0 k l2 (IntKind.u64.wrap (1 + (IntKind.u64.wrap (Int.tmod a0 300)))) 0 l1 (l1.length : Int) 0 t134 t135 t136 t137 t138 bt141.1 bt141.2.1 bt141.2.2)) = some r := H
    have A6 := Aside0.mk A60
    clear A60
    replace H := Option.bind_eq_some_iff.mp H
    obtain ⟨⟨t141, t142, t143⟩, A70, H⟩ := H
    replace H : (binnaclelaw20_CreditMeets.l0 k l2 (IntKind.u64.wrap (1 + (IntKind.u64.wrap (Int.tmod a0 300)))) 0 l1 (l1.length : Int) 0 t134 t135 t136 t137 t138 t141 t142 t143) = some r := H
    have A7 := Aside0.mk A70
    clear A70
    have HC8 := Aside0.mk H
    clear H
    go_enter Try.func8, Try.ntmps8
    go_upto_block 0 with (first | ((with_reducible refine gate_callee (f := 26) rfl ?_); refine goesL_ (some 17) rfl rfl Try.func26 (by kernel_rfl) rfl #[] rfl (by (try simp only [List.map_toArray, List.map_cons, List.map_nil]); first | done | rfl | (simp only [List.length_drop, List.length_take]; rfl)) ?_; (with_reducible refine (binnaclelaw20_Awake.calls  true _ A4.out).mono ?_); rintro e w9 ⟨rfl, hb⟩; refine ⟨_, rfl, ?_⟩; have n0_ := Aside0.mk (below_step (by repeat (first | (with_reducible first | exact HB.out | apply below_alloc | apply pw_below_drewN | apply below_drew1) | exact HB.out)) hb); clear HB; have HB := n0_; clear n0_; (try clear hb); (try clear hb2); (try clear hk); (try clear hi)) | ((with_reducible refine gate_callee (f := 27) rfl ?_); refine goesL_ (some 24) rfl rfl Try.func27 (by kernel_rfl) rfl #[.int .u64 (IntKind.u64.wrap (1 + (IntKind.u64.wrap (Int.tmod a0 300))))] rfl (by (try simp only [List.map_toArray, List.map_cons, List.map_nil]); first | done | rfl | (simp only [List.length_drop, List.length_take]; rfl)) ?_; (with_reducible refine (credit_New.calls (IntKind.u64.wrap (1 + (IntKind.u64.wrap (Int.tmod a0 300)))) t134 t135 t136 t137 t138 _ A6.out).mono ?_); rintro e w10 ⟨rfl, hb⟩; refine ⟨_, rfl, ?_⟩; have n0_ := Aside0.mk (below_step (by repeat (first | (with_reducible first | exact HB.out | apply below_alloc | apply pw_below_drewN | apply below_drew1) | exact HB.out)) hb); clear HB; have HB := n0_; clear n0_; (try clear hb); (try clear hb2); (try clear hk); (try clear hi)) | ((with_reducible refine gate_dst (N := 8) rfl ?_); (try (refine gate_guard (by rfl) ?_; dsimp only)); refine box_event ?hg (N := 8) ?hd (cs := #[.int .u64 0, .int .u64 0, .int .u64 0, .int .u64 0, .int .u64 0]) (t := 51) ?hr ?_; (case hd => rfl); (case hg => rfl); (case hr => first | (go_simp; done) | (go_simp; rfl)); intro gb139 hg w11 hbox hb; have n0_ := Aside0.mk (below_step (by repeat (first | (with_reducible first | exact HB.out | apply below_alloc | apply pw_below_drewN | apply below_drew1) | exact HB.out)) hb); have n1_ := Aside0.mk (hbox); have n2_ := Aside0.mk ((by rw [hg]; exact (below_size (by repeat (first | (with_reducible first | exact HB.out | apply below_alloc | apply pw_below_drewN | apply below_drew1) | exact HB.out))) : w.heap.size ≤ gb139)); have n3_ := Aside0.mk ((by rw [hg]; exact (below_size (by repeat (first | (with_reducible first | exact HB.out | apply below_alloc | apply pw_below_drewN | apply below_drew1) | exact HB.out))) : w.heap.size ≤ gb139)); clear HB; have HB := n0_; have BK139 := n1_; have GW139 := n2_; have GE139 := n3_; clear n0_ n1_ n2_ n3_; clear hb hbox hg; have hcz12_0 : w11.cell? ⟨gb139, 0, none⟩ = some (.int .u64 0) := (blk_cell BK139.out 0).trans rfl; have hcz12_1 : w11.cell? ⟨gb139, 1, none⟩ = some (.int .u64 0) := (blk_cell BK139.out 1).trans rfl; have hcz12_2 : w11.cell? ⟨gb139, 2, none⟩ = some (.int .u64 0) := (blk_cell BK139.out 2).trans rfl; have hcz12_3 : w11.cell? ⟨gb139, 3, none⟩ = some (.int .u64 0) := (blk_cell BK139.out 3).trans rfl; have hcz12_4 : w11.cell? ⟨gb139, 4, none⟩ = some (.int .u64 0) := (blk_cell BK139.out 4).trans rfl; have hfz12_0 := blk_frozen BK139.out 0; have hfz12_1 := blk_frozen BK139.out 1; have hfz12_2 := blk_frozen BK139.out 2; have hfz12_3 := blk_frozen BK139.out 3; have hfz12_4 := blk_frozen BK139.out 4) | ((with_reducible refine gate_dst (N := 9) rfl ?_); (try (refine gate_guard (by rfl) ?_; dsimp only)); refine box_event ?hg (N := 9) ?hd (cs := #[.int .u64 0, .int .u64 0, .int .u64 0]) (t := 61) ?hr ?_; (case hd => rfl); (case hg => rfl); (case hr => first | (go_simp; done) | (go_simp; rfl)); intro gb140 hg w13 hbox hb; have n0_ := Aside0.mk (blk_below (g := gb139) (o := .cells #[.int .u64 t134, .int .u64 t135, .int .u64 t136, .int .u64 t137, .int .u64 t138] 51 (0, 0)) (by (with_reducible repeat (first | refine blk_drewN ?_ _ | refine blk_drew ?_ | refine blk_alloc ?_ _)); refine blk_put (cs := #[.int .u64 t134, .int .u64 t135, .int .u64 t136, .int .u64 t137, .int .u64 0]) ?_ 4 _ rfl; (with_reducible repeat (first | refine blk_drewN ?_ _ | refine blk_drew ?_ | refine blk_alloc ?_ _)); refine blk_put (cs := #[.int .u64 t134, .int .u64 t135, .int .u64 t136, .int .u64 0, .int .u64 0]) ?_ 3 _ rfl; (with_reducible repeat (first | refine blk_drewN ?_ _ | refine blk_drew ?_ | refine blk_alloc ?_ _)); refine blk_put (cs := #[.int .u64 t134, .int .u64 t135, .int .u64 0, .int .u64 0, .int .u64 0]) ?_ 2 _ rfl; (with_reducible repeat (first | refine blk_drewN ?_ _ | refine blk_drew ?_ | refine blk_alloc ?_ _)); refine blk_put (cs := #[.int .u64 t134, .int .u64 0, .int .u64 0, .int .u64 0, .int .u64 0]) ?_ 1 _ rfl; (with_reducible repeat (first | refine blk_drewN ?_ _ | refine blk_drew ?_ | refine blk_alloc ?_ _)); refine blk_put (cs := #[.int .u64 0, .int .u64 0, .int .u64 0, .int .u64 0, .int .u64 0]) ?_ 0 _ rfl; (with_reducible repeat (first | refine blk_drewN ?_ _ | refine blk_drew ?_ | refine blk_alloc ?_ _)); exact BK139.out) hb); have n1_ := Aside0.mk (below_step (by repeat (first | (with_reducible first | exact HB.out | apply below_alloc | apply pw_below_drewN | apply below_drew1 | refine below_set ?_ GE139.out) | exact HB.out)) hb); have n2_ := Aside0.mk (hbox); have n3_ := Aside0.mk ((by rw [hg]; exact (below_size (by repeat (first | (with_reducible first | exact HB.out | apply below_alloc | apply pw_below_drewN | apply below_drew1 | refine below_set ?_ GE139.out) | exact HB.out))) : w.heap.size ≤ gb140)); have n4_ := Aside0.mk ((by rw [hg]; exact (below_size (by repeat (first | (with_reducible first | exact HB.out | apply below_alloc | apply pw_below_drewN | apply below_drew1 | refine below_set ?_ GE139.out) | exact HB.out))) : w.heap.size ≤ gb140)); have n5_ := Aside0.mk ((by rw [hg]; exact Nat.ne_of_lt (blk_lt (g := gb139) (o := .cells #[.int .u64 t134, .int .u64 t135, .int .u64 t136, .int .u64 t137, .int .u64 t138] 51 (0, 0)) (by (with_reducible repeat (first | refine blk_drewN ?_ _ | refine blk_drew ?_ | refine blk_alloc ?_ _)); refine blk_put (cs := #[.int .u64 t134, .int .u64 t135, .int .u64 t136, .int .u64 t137, .int .u64 0]) ?_ 4 _ rfl; (with_reducible repeat (first | refine blk_drewN ?_ _ | refine blk_drew ?_ | refine blk_alloc ?_ _)); refine blk_put (cs := #[.int .u64 t134, .int .u64 t135, .int .u64 t136, .int .u64 0, .int .u64 0]) ?_ 3 _ rfl; (with_reducible repeat (first | refine blk_drewN ?_ _ | refine blk_drew ?_ | refine blk_alloc ?_ _)); refine blk_put (cs := #[.int .u64 t134, .int .u64 t135, .int .u64 0, .int .u64 0, .int .u64 0]) ?_ 2 _ rfl; (with_reducible repeat (first | refine blk_drewN ?_ _ | refine blk_drew ?_ | refine blk_alloc ?_ _)); refine blk_put (cs := #[.int .u64 t134, .int .u64 0, .int .u64 0, .int .u64 0, .int .u64 0]) ?_ 1 _ rfl; (with_reducible repeat (first | refine blk_drewN ?_ _ | refine blk_drew ?_ | refine blk_alloc ?_ _)); refine blk_put (cs := #[.int .u64 0, .int .u64 0, .int .u64 0, .int .u64 0, .int .u64 0]) ?_ 0 _ rfl; (with_reducible repeat (first | refine blk_drewN ?_ _ | refine blk_drew ?_ | refine blk_alloc ?_ _)); exact BK139.out)) : gb139 ≠ gb140)); have n6_ := Aside0.mk ((by rw [hg]; exact Nat.ne_of_gt (blk_lt (g := gb139) (o := .cells #[.int .u64 t134, .int .u64 t135, .int .u64 t136, .int .u64 t137, .int .u64 t138] 51 (0, 0)) (by (with_reducible repeat (first | refine blk_drewN ?_ _ | refine blk_drew ?_ | refine blk_alloc ?_ _)); refine blk_put (cs := #[.int .u64 t134, .int .u64 t135, .int .u64 t136, .int .u64 t137, .int .u64 0]) ?_ 4 _ rfl; (with_reducible repeat (first | refine blk_drewN ?_ _ | refine blk_drew ?_ | refine blk_alloc ?_ _)); refine blk_put (cs := #[.int .u64 t134, .int .u64 t135, .int .u64 t136, .int .u64 0, .int .u64 0]) ?_ 3 _ rfl; (with_reducible repeat (first | refine blk_drewN ?_ _ | refine blk_drew ?_ | refine blk_alloc ?_ _)); refine blk_put (cs := #[.int .u64 t134, .int .u64 t135, .int .u64 0, .int .u64 0, .int .u64 0]) ?_ 2 _ rfl; (with_reducible repeat (first | refine blk_drewN ?_ _ | refine blk_drew ?_ | refine blk_alloc ?_ _)); refine blk_put (cs := #[.int .u64 t134, .int .u64 0, .int .u64 0, .int .u64 0, .int .u64 0]) ?_ 1 _ rfl; (with_reducible repeat (first | refine blk_drewN ?_ _ | refine blk_drew ?_ | refine blk_alloc ?_ _)); refine blk_put (cs := #[.int .u64 0, .int .u64 0, .int .u64 0, .int .u64 0, .int .u64 0]) ?_ 0 _ rfl; (with_reducible repeat (first | refine blk_drewN ?_ _ | refine blk_drew ?_ | refine blk_alloc ?_ _)); exact BK139.out)) : gb140 ≠ gb139)); clear BK139; clear HB; have BK139 := n0_; have HB := n1_; have BK140 := n2_; have GW140 := n3_; have GE140 := n4_; have NB139_140 := n5_; have NB140_139 := n6_; clear n0_ n1_ n2_ n3_ n4_ n5_ n6_; clear hb hbox hg; have hnb14 := NB140_139.out; have hnc14 := NB139_140.out; have hcz15_0 : w13.cell? ⟨gb140, 0, none⟩ = some (.int .u64 0) := (blk_cell BK140.out 0).trans rfl; have hcz15_1 : w13.cell? ⟨gb140, 1, none⟩ = some (.int .u64 0) := (blk_cell BK140.out 1).trans rfl; have hcz15_2 : w13.cell? ⟨gb140, 2, none⟩ = some (.int .u64 0) := (blk_cell BK140.out 2).trans rfl; have hfz15_0 := blk_frozen BK140.out 0; have hfz15_1 := blk_frozen BK140.out 1; have hfz15_2 := blk_frozen BK140.out 2) | ((with_reducible refine gate_callee (f := 35) rfl ?_); refine goesL_ (some 27) rfl rfl Try.func35 (by kernel_rfl) rfl #[.agg #[.int .u64 0, .int .u64 0, .int .u64 0], .int .u64 (IntKind.u64.wrap (1 + (IntKind.u64.wrap (Int.tmod a0 300))))] rfl (by (try simp only [List.map_toArray, List.map_cons, List.map_nil]); first | done | rfl | (simp only [List.length_drop, List.length_take]; rfl)) ?_; (with_reducible refine (credit_Got_Raise.calls 0 0 0 (IntKind.u64.wrap (1 + (IntKind.u64.wrap (Int.tmod a0 300)))) t141 t142 t143 _ A7.out).mono ?_); rintro e w16 ⟨rfl, hb⟩; refine ⟨_, rfl, ?_⟩; have n0_ := Aside0.mk (blk_below (g := gb139) (o := .cells #[.int .u64 t134, .int .u64 t135, .int .u64 t136, .int .u64 t137, .int .u64 t138] 51 (0, 0)) (by (with_reducible repeat (first | refine blk_drewN ?_ _ | refine blk_drew ?_ | refine blk_alloc ?_ _)); exact BK139.out) hb); have n1_ := Aside0.mk (blk_below (g := gb140) (o := .cells #[.int .u64 0, .int .u64 0, .int .u64 0] 61 (0, 0)) (by (with_reducible repeat (first | refine blk_drewN ?_ _ | refine blk_drew ?_ | refine blk_alloc ?_ _)); exact BK140.out) hb); have n2_ := Aside0.mk (below_step (by repeat (first | (with_reducible first | exact HB.out | apply below_alloc | apply pw_below_drewN | apply below_drew1 | refine below_set ?_ GE139.out | refine below_set ?_ GE140.out) | exact HB.out)) hb); clear BK139; clear BK140; clear HB; have BK139 := n0_; have BK140 := n1_; have HB := n2_; clear n0_ n1_ n2_; (try clear hb); (try clear hb2); (try clear hk); (try clear hi); have hcz17_0 : w16.cell? ⟨gb140, 0, none⟩ = some (.int .u64 0) := (blk_cell BK140.out 0).trans rfl; have hcz17_1 : w16.cell? ⟨gb140, 1, none⟩ = some (.int .u64 0) := (blk_cell BK140.out 1).trans rfl; have hcz17_2 : w16.cell? ⟨gb140, 2, none⟩ = some (.int .u64 0) := (blk_cell BK140.out 2).trans rfl; have hfz17_0 := blk_frozen BK140.out 0; have hfz17_1 := blk_frozen BK140.out 1; have hfz17_2 := blk_frozen BK140.out 2))
    (try simp only [Act.put, List.setIfInBounds_toArray, List.set_cons_zero, List.set_cons_succ])
    go_cut [] (fun wc => ∃ (kq : Nat) (x140000_7 : Int) (x140001_7 : Int) (x140002_7 : Int) (x140003_7 : Int) (x140004_7 : Int) (x141000_7 : Int) (x141001_7 : Int) (x141002_7 : Int), Aside0 (binnaclelaw20_CreditMeets.j2 kq (IntKind.u64.wrap (1 + (IntKind.u64.wrap (Int.tmod a0 300)))) x140000_7 x140001_7 x140002_7 x140003_7 x140004_7 x141000_7 x141001_7 x141002_7 = some r) ∧ Aside0 (kq ≤ k) ∧ Aside0 (wc.heap[gb139]? = some (.cells #[.int .u64 x140000_7, .int .u64 x140001_7, .int .u64 x140002_7, .int .u64 x140003_7, .int .u64 x140004_7] 51 (0, 0))) ∧ Aside0 (wc.heap[gb140]? = some (.cells #[.int .u64 x141000_7, .int .u64 x141001_7, .int .u64 x141002_7] 61 (0, 0))) ∧ Aside0 (Below w.heap.size w wc))
    case first =>
      have H := HC8.out
      clear HC8
      have H' := Aside0.mk H
      clear H
      go_wp2
      go_loopg [10, 30] k (fun kq v10 v30 w' => ∃ (x10_1 : Int) (x30_1 : Int) (x140000_1 : Int) (x140001_1 : Int) (x140002_1 : Int) (x140003_1 : Int) (x140004_1 : Int) (x141000_1 : Int) (x141001_1 : Int) (x141002_1 : Int), v10 = .int .u64 x10_1 ∧ v30 = .int .i64 x30_1 ∧ Aside0 (binnaclelaw20_CreditMeets.l0 kq l2 (IntKind.u64.wrap (1 + (IntKind.u64.wrap (Int.tmod a0 300)))) x10_1 l1 (l1.length : Int) x30_1 x140000_1 x140001_1 x140002_1 x140003_1 x140004_1 x141000_1 x141001_1 x141002_1 = some r) ∧ Aside0 (kq ≤ k) ∧ Aside0 (w'.heap[gb139]? = some (.cells #[.int .u64 x140000_1, .int .u64 x140001_1, .int .u64 x140002_1, .int .u64 x140003_1, .int .u64 x140004_1] 51 (0, 0))) ∧ Aside0 (w'.heap[gb140]? = some (.cells #[.int .u64 x141000_1, .int .u64 x141001_1, .int .u64 x141002_1] 61 (0, 0))) ∧ Aside0 (Below w.heap.size w w'))
      case atStart => exact ⟨(0), (0), (t134), (t135), (t136), (t137), (t138), (t141), (t142), (t143), (by first | rfl | (simp; done) | (simp [*]; done)), (by first | rfl | (simp; done) | (simp [*]; done)), H', ⟨Nat.le_refl _⟩, ⟨by (with_reducible repeat (first | refine blk_drewN ?_ _ | refine blk_drew ?_ | refine blk_alloc ?_ _)); refine blk_far ?_ NB139_140.out _; (with_reducible repeat (first | refine blk_drewN ?_ _ | refine blk_drew ?_ | refine blk_alloc ?_ _)); refine blk_far ?_ NB139_140.out _; (with_reducible repeat (first | refine blk_drewN ?_ _ | refine blk_drew ?_ | refine blk_alloc ?_ _)); refine blk_far ?_ NB139_140.out _; (with_reducible repeat (first | refine blk_drewN ?_ _ | refine blk_drew ?_ | refine blk_alloc ?_ _)); exact BK139.out⟩, ⟨by (with_reducible repeat (first | refine blk_drewN ?_ _ | refine blk_drew ?_ | refine blk_alloc ?_ _)); refine blk_put (cs := #[.int .u64 t141, .int .u64 t142, .int .u64 0]) ?_ 2 _ rfl; (with_reducible repeat (first | refine blk_drewN ?_ _ | refine blk_drew ?_ | refine blk_alloc ?_ _)); refine blk_put (cs := #[.int .u64 t141, .int .u64 0, .int .u64 0]) ?_ 1 _ rfl; (with_reducible repeat (first | refine blk_drewN ?_ _ | refine blk_drew ?_ | refine blk_alloc ?_ _)); refine blk_put (cs := #[.int .u64 0, .int .u64 0, .int .u64 0]) ?_ 0 _ rfl; (with_reducible repeat (first | refine blk_drewN ?_ _ | refine blk_drew ?_ | refine blk_alloc ?_ _)); exact BK140.out⟩, ⟨by repeat (first | (with_reducible first | exact HB.out | apply below_alloc | apply pw_below_drewN | apply below_drew1 | refine below_set ?_ GE139.out | refine below_set ?_ GE140.out) | exact HB.out)⟩⟩
      case round =>
        clear H'
        try clear c1
        try clear c2
        try clear p2
        try clear c3
        try clear c5
        try clear c8
        try clear c14
        try clear hcz12_0
        try clear hcz12_1
        try clear hcz12_2
        try clear hcz12_3
        try clear hcz12_4
        try clear hcz15_0
        try clear hcz15_1
        try clear hcz15_2
        try clear hcz17_0
        try clear hcz17_1
        try clear hcz17_2
        try clear hfz12_0
        try clear hfz12_1
        try clear hfz12_2
        try clear hfz12_3
        try clear hfz12_4
        try clear hfz15_0
        try clear hfz15_1
        try clear hfz15_2
        try clear hfz17_0
        try clear hfz17_1
        try clear hfz17_2
        obtain ⟨x10_1, x30_1, x140000_1, x140001_1, x140002_1, x140003_1, x140004_1, x141000_1, x141001_1, x141002_1, rfl, rfl, HA, HK1, BK139, BK140, HB⟩ := hrel
        cases gk with
        | zero => exact absurd HA.out (by simp [binnaclelaw20_CreditMeets.l0])
        | succ k1 =>
          have H := HA.out
          clear HA
          simp only [binnaclelaw20_CreditMeets.l0] at H
          by_cases c18 : x30_1 < (l1.length : Int)
          · rw [if_pos c18] at H
            have c18b0 : decide (x30_1 < (l1.length : Int)) = true := decide_eq_true c18
            clear c18
            (first | rw [c18b0] | (simp only [i64_w, i32_w]; rw [c18b0]) | skip)
            by_cases c19 : 0 ≤ x30_1
            · rw [if_pos c19] at H
              have c19b0 : decide (0 ≤ x30_1) = true := decide_eq_true c19
              clear c19
              by_cases c20 : x30_1 < (l1.length : Int)
              · rw [if_pos c20] at H
                have c20b0 : decide (x30_1 < (l1.length : Int)) = true := decide_eq_true c20
                clear c20
                by_cases c21 : x30_1 ≥ 200
                · rw [if_pos c21] at H
                  have c21b0 : decide (200 ≤ x30_1) = true := decide_eq_true c21
                  clear c21
                  have H' := Aside0.mk H
                  clear H
                  have p144 : 0 ≤ (x30_1 : Int) := of_decide_eq_true (by first | (with_reducible assumption) | assumption)
                  have q144 : x30_1 < (l1.length : Int) := of_decide_eq_true (by first | (with_reducible assumption) | assumption)
                  obtain ⟨ad144, e144, hx144_0⟩ := Kd.at_int HR1.out x30_1 p144 q144
                  cases e144
                  replace hx144_0 := (HB.out.cell (World.block_lt_of_cell? w _ hx144_0)).trans hx144_0
                  replace p144 := eq_true p144
                  replace q144 := eq_true q144
                  go_wp2
                  go_meet
                  case rel => exact ⟨_, (x140000_1), (x140001_1), (x140002_1), (x140003_1), (x140004_1), (x141000_1), (x141001_1), (x141002_1), H', ⟨by have := HK1.out; first | omega | exact Nat.le_refl _⟩, ⟨by (with_reducible repeat (first | refine blk_drewN ?_ _ | refine blk_drew ?_ | refine blk_alloc ?_ _)); exact BK139.out⟩, ⟨by (with_reducible repeat (first | refine blk_drewN ?_ _ | refine blk_drew ?_ | refine blk_alloc ?_ _)); exact BK140.out⟩, ⟨by repeat (first | (with_reducible first | exact HB.out | apply below_alloc | apply pw_below_drewN | apply below_drew1 | refine below_set ?_ GE139.out | refine below_set ?_ GE140.out) | exact HB.out)⟩⟩
                · rw [if_neg c21] at H
                  have c21b0 : decide (200 ≤ x30_1) = false := decide_eq_false c21
                  clear c21
                  replace H := Option.bind_eq_some_iff.mp H
                  obtain ⟨⟨t145, t146, t147, t148⟩, A220, H⟩ := H
                  replace H : ((credit_Given_Use.f x140000_1 x140001_1 x140002_1 x140003_1 x140004_1 t148).bind fun bt150 => (if bt150.2.2.2.2.2 = 0 then ((credit_Given_Take.f bt150.1 bt150.2.1 bt150.2.2.1 bt150.2.2.2.1 bt150.2.2.2.2.1 t148).bind fun bt157 => ((credit_Given_Wants.f bt157.1 bt157.2.1 bt157.2.2.1 bt157.2.2.2.1 bt157.2.2.2.2).bind fun t162 => (if t162 = true then (if x30_1 ≥ (l2.length : Int) then (binnaclelaw20_CreditMeets.j1 k1 l2 (IntKind.u64.wrap (1 + (IntKind.u64.wrap (Int.tmod a0 300)))) (IntKind.u64.wrap (x10_1 + t148)) l1 (l1.length : Int) x30_1 true bt157.1 bt157.2.1 bt157.2.2.1 bt157.2.2.2.1 bt157.2.2.2.2 t145 t146 t147) else (if x30_1 < (l2.length : Int) then (binnaclelaw20_CreditMeets.j1 k1 l2 (IntKind.u64.wrap (1 + (IntKind.u64.wrap (Int.tmod a0 300)))) (IntKind.u64.wrap (x10_1 + t148)) l1 (l1.length : Int) x30_1 (rdOf false l2 x30_1) bt157.1 bt157.2.1 bt157.2.2.1 bt157.2.2.2.1 bt157.2.2.2.2 t145 t146 t147) else (none))) else (binnaclelaw20_CreditMeets.j1 k1 l2 (IntKind.u64.wrap (1 + (IntKind.u64.wrap (Int.tmod a0 300)))) (IntKind.u64.wrap (x10_1 + t148)) l1 (l1.length : Int) x30_1 false bt157.1 bt157.2.1 bt157.2.2.1 bt157.2.2.2.1 bt157.2.2.2.2 t145 t146 t147)))) else (some false))) = some r := H
                  have A22 := Aside0.mk A220
                  clear A220
                  replace H := Option.bind_eq_some_iff.mp H
                  obtain ⟨⟨t150, t151, t152, t153, t154, t155⟩, A230, H⟩ := H
                  replace H : (if t155 = 0 then ((credit_Given_Take.f t150 t151 t152 t153 t154 t148).bind fun bt157 => ((credit_Given_Wants.f bt157.1 bt157.2.1 bt157.2.2.1 bt157.2.2.2.1 bt157.2.2.2.2).bind fun t162 => (if t162 = true then (if x30_1 ≥ (l2.length : Int) then (binnaclelaw20_CreditMeets.j1 k1 l2 (IntKind.u64.wrap (1 + (IntKind.u64.wrap (Int.tmod a0 300)))) (IntKind.u64.wrap (x10_1 + t148)) l1 (l1.length : Int) x30_1 true bt157.1 bt157.2.1 bt157.2.2.1 bt157.2.2.2.1 bt157.2.2.2.2 t145 t146 t147) else (if x30_1 < (l2.length : Int) then (binnaclelaw20_CreditMeets.j1 k1 l2 (IntKind.u64.wrap (1 + (IntKind.u64.wrap (Int.tmod a0 300)))) (IntKind.u64.wrap (x10_1 + t148)) l1 (l1.length : Int) x30_1 (rdOf false l2 x30_1) bt157.1 bt157.2.1 bt157.2.2.1 bt157.2.2.2.1 bt157.2.2.2.2 t145 t146 t147) else (none))) else (binnaclelaw20_CreditMeets.j1 k1 l2 (IntKind.u64.wrap (1 + (IntKind.u64.wrap (Int.tmod a0 300)))) (IntKind.u64.wrap (x10_1 + t148)) l1 (l1.length : Int) x30_1 false bt157.1 bt157.2.1 bt157.2.2.1 bt157.2.2.2.1 bt157.2.2.2.2 t145 t146 t147)))) else (some false)) = some r := H
                  have A23 := Aside0.mk A230
                  clear A230
                  by_cases c24 : t155 = 0
                  · rw [if_pos c24] at H
                    have c24b0 : (t155 == 0) = true := beq_iff_eq.mpr c24
                    have c24b1 : (t155 != 0) = false := bne_eq_false_iff_eq.mpr c24
                    clear c24
                    replace H := Option.bind_eq_some_iff.mp H
                    obtain ⟨⟨t157, t158, t159, t160, t161⟩, A250, H⟩ := H
                    replace H : ((credit_Given_Wants.f t157 t158 t159 t160 t161).bind fun t162 => (if t162 = true then (if x30_1 ≥ (l2.length : Int) then (binnaclelaw20_CreditMeets.j1 k1 l2 (IntKind.u64.wrap (1 + (IntKind.u64.wrap (Int.tmod a0 300)))) (IntKind.u64.wrap (x10_1 + t148)) l1 (l1.length : Int) x30_1 true t157 t158 t159 t160 t161 t145 t146 t147) else (if x30_1 < (l2.length : Int) then (binnaclelaw20_CreditMeets.j1 k1 l2 (IntKind.u64.wrap (1 + (IntKind.u64.wrap (Int.tmod a0 300)))) (IntKind.u64.wrap (x10_1 + t148)) l1 (l1.length : Int) x30_1 (rdOf false l2 x30_1) t157 t158 t159 t160 t161 t145 t146 t147) else (none))) else (binnaclelaw20_CreditMeets.j1 k1 l2 (IntKind.u64.wrap (1 + (IntKind.u64.wrap (Int.tmod a0 300)))) (IntKind.u64.wrap (x10_1 + t148)) l1 (l1.length : Int) x30_1 false t157 t158 t159 t160 t161 t145 t146 t147))) = some r := H
                    have A25 := Aside0.mk A250
                    clear A250
                    have HC26 := Aside0.mk H
                    clear H
                    have p144 : 0 ≤ (x30_1 : Int) := of_decide_eq_true (by first | (with_reducible assumption) | assumption)
                    have q144 : x30_1 < (l1.length : Int) := of_decide_eq_true (by first | (with_reducible assumption) | assumption)
                    obtain ⟨ad144, e144, hx144_0⟩ := Kd.at_int HR1.out x30_1 p144 q144
                    cases e144
                    replace hx144_0 := (HB.out.cell (World.block_lt_of_cell? w _ hx144_0)).trans hx144_0
                    replace p144 := eq_true p144
                    replace q144 := eq_true q144
                    have hnb27 := NB140_139.out
                    have hnc27 := NB139_140.out
                    have hcz28_0 : wr.cell? ⟨gb140, 0, none⟩ = some (.int .u64 x141000_1) := (blk_cell BK140.out 0).trans rfl
                    have hcz28_1 : wr.cell? ⟨gb140, 1, none⟩ = some (.int .u64 x141001_1) := (blk_cell BK140.out 1).trans rfl
                    have hcz28_2 : wr.cell? ⟨gb140, 2, none⟩ = some (.int .u64 x141002_1) := (blk_cell BK140.out 2).trans rfl
                    have hfz28_0 := blk_frozen BK140.out 0
                    have hfz28_1 := blk_frozen BK140.out 1
                    have hfz28_2 := blk_frozen BK140.out 2
                    go_upto_region 19 with (first | ((with_reducible refine gate_callee (f := 36) rfl ?_); refine goesL_ (some 41) rfl rfl Try.func36 (by kernel_rfl) rfl #[.agg #[.int .u64 x141000_1, .int .u64 x141001_1, .int .u64 x141002_1], .int .u64 (IntKind.u64.wrap (rd l1 x30_1))] rfl (by (try simp only [List.map_toArray, List.map_cons, List.map_nil]); first | done | rfl | (simp only [List.length_drop, List.length_take]; rfl)) ?_; (with_reducible refine (credit_Got_Use.calls x141000_1 x141001_1 x141002_1 (IntKind.u64.wrap (rd l1 x30_1)) t145 t146 t147 t148 _ A22.out).mono ?_); rintro e w29 ⟨rfl, hb⟩; refine ⟨_, rfl, ?_⟩; have n0_ := Aside0.mk (blk_below (g := gb139) (o := .cells #[.int .u64 x140000_1, .int .u64 x140001_1, .int .u64 x140002_1, .int .u64 x140003_1, .int .u64 x140004_1] 51 (0, 0)) (by (with_reducible repeat (first | refine blk_drewN ?_ _ | refine blk_drew ?_ | refine blk_alloc ?_ _)); exact BK139.out) hb); have n1_ := Aside0.mk (blk_below (g := gb140) (o := .cells #[.int .u64 x141000_1, .int .u64 x141001_1, .int .u64 x141002_1] 61 (0, 0)) (by (with_reducible repeat (first | refine blk_drewN ?_ _ | refine blk_drew ?_ | refine blk_alloc ?_ _)); exact BK140.out) hb); have n2_ := Aside0.mk (below_step (by repeat (first | (with_reducible first | exact HB.out | apply below_alloc | apply pw_below_drewN | apply below_drew1 | refine below_set ?_ GE139.out | refine below_set ?_ GE140.out) | exact HB.out)) hb); clear BK139; clear BK140; clear HB; have BK139 := n0_; have BK140 := n1_; have HB := n2_; clear n0_ n1_ n2_; (try clear hb); (try clear hb2); (try clear hk); (try clear hi)) | ((with_reducible refine gate_dst (N := 13) rfl ?_); (try (refine gate_guard (by rfl) ?_; dsimp only)); refine box_event ?hg (N := 13) ?hd (cs := #[.int .u64 0, .int .u64 0, .int .u64 0]) (t := 61) ?hr ?_; (case hd => rfl); (case hg => rfl); (case hr => first | (go_simp; done) | (go_simp; rfl)); intro gb149 hg w30 hbox hb; have n0_ := Aside0.mk (blk_below (g := gb139) (o := .cells #[.int .u64 x140000_1, .int .u64 x140001_1, .int .u64 x140002_1, .int .u64 x140003_1, .int .u64 x140004_1] 51 (0, 0)) (by (with_reducible repeat (first | refine blk_drewN ?_ _ | refine blk_drew ?_ | refine blk_alloc ?_ _)); exact BK139.out) hb); have n1_ := Aside0.mk (blk_below (g := gb140) (o := .cells #[.int .u64 x141000_1, .int .u64 x141001_1, .int .u64 x141002_1] 61 (0, 0)) (by (with_reducible repeat (first | refine blk_drewN ?_ _ | refine blk_drew ?_ | refine blk_alloc ?_ _)); exact BK140.out) hb); have n2_ := Aside0.mk (below_step (by repeat (first | (with_reducible first | exact HB.out | apply below_alloc | apply pw_below_drewN | apply below_drew1 | refine below_set ?_ GE139.out | refine below_set ?_ GE140.out) | exact HB.out)) hb); have n3_ := Aside0.mk (hbox); have n4_ := Aside0.mk ((by rw [hg]; exact (below_size (by repeat (first | (with_reducible first | exact HB.out | apply below_alloc | apply pw_below_drewN | apply below_drew1 | refine below_set ?_ GE139.out | refine below_set ?_ GE140.out) | exact HB.out))) : w.heap.size ≤ gb149)); have n5_ := Aside0.mk ((by rw [hg]; exact (below_size (by repeat (first | (with_reducible first | exact HB.out | apply below_alloc | apply pw_below_drewN | apply below_drew1 | refine below_set ?_ GE139.out | refine below_set ?_ GE140.out) | exact HB.out))) : w.heap.size ≤ gb149)); have n6_ := Aside0.mk ((by rw [hg]; exact Nat.ne_of_lt (blk_lt (g := gb139) (o := .cells #[.int .u64 x140000_1, .int .u64 x140001_1, .int .u64 x140002_1, .int .u64 x140003_1, .int .u64 x140004_1] 51 (0, 0)) (by (with_reducible repeat (first | refine blk_drewN ?_ _ | refine blk_drew ?_ | refine blk_alloc ?_ _)); exact BK139.out)) : gb139 ≠ gb149)); have n7_ := Aside0.mk ((by rw [hg]; exact Nat.ne_of_gt (blk_lt (g := gb139) (o := .cells #[.int .u64 x140000_1, .int .u64 x140001_1, .int .u64 x140002_1, .int .u64 x140003_1, .int .u64 x140004_1] 51 (0, 0)) (by (with_reducible repeat (first | refine blk_drewN ?_ _ | refine blk_drew ?_ | refine blk_alloc ?_ _)); exact BK139.out)) : gb149 ≠ gb139)); have n8_ := Aside0.mk ((by rw [hg]; exact Nat.ne_of_lt (blk_lt (g := gb140) (o := .cells #[.int .u64 x141000_1, .int .u64 x141001_1, .int .u64 x141002_1] 61 (0, 0)) (by (with_reducible repeat (first | refine blk_drewN ?_ _ | refine blk_drew ?_ | refine blk_alloc ?_ _)); exact BK140.out)) : gb140 ≠ gb149)); have n9_ := Aside0.mk ((by rw [hg]; exact Nat.ne_of_gt (blk_lt (g := gb140) (o := .cells #[.int .u64 x141000_1, .int .u64 x141001_1, .int .u64 x141002_1] 61 (0, 0)) (by (with_reducible repeat (first | refine blk_drewN ?_ _ | refine blk_drew ?_ | refine blk_alloc ?_ _)); exact BK140.out)) : gb149 ≠ gb140)); clear BK139; clear BK140; clear HB; have BK139 := n0_; have BK140 := n1_; have HB := n2_; have BK149 := n3_; have GW149 := n4_; have GE149 := n5_; have NB139_149 := n6_; have NB149_139 := n7_; have NB140_149 := n8_; have NB149_140 := n9_; clear n0_ n1_ n2_ n3_ n4_ n5_ n6_ n7_ n8_ n9_; clear hb hbox hg; have hnb31 := NB149_139.out; have hnc31 := NB139_149.out; have hnb32 := NB149_140.out; have hnc32 := NB140_149.out; have hcz33_0 : w30.cell? ⟨gb149, 0, none⟩ = some (.int .u64 0) := (blk_cell BK149.out 0).trans rfl; have hcz33_1 : w30.cell? ⟨gb149, 1, none⟩ = some (.int .u64 0) := (blk_cell BK149.out 1).trans rfl; have hcz33_2 : w30.cell? ⟨gb149, 2, none⟩ = some (.int .u64 0) := (blk_cell BK149.out 2).trans rfl; have hfz33_0 := blk_frozen BK149.out 0; have hfz33_1 := blk_frozen BK149.out 1; have hfz33_2 := blk_frozen BK149.out 2; have hcz34_0 : w30.cell? ⟨gb140, 0, none⟩ = some (.int .u64 x141000_1) := (blk_cell BK140.out 0).trans rfl; have hcz34_1 : w30.cell? ⟨gb140, 1, none⟩ = some (.int .u64 x141001_1) := (blk_cell BK140.out 1).trans rfl; have hcz34_2 : w30.cell? ⟨gb140, 2, none⟩ = some (.int .u64 x141002_1) := (blk_cell BK140.out 2).trans rfl; have hfz34_0 := blk_frozen BK140.out 0; have hfz34_1 := blk_frozen BK140.out 1; have hfz34_2 := blk_frozen BK140.out 2; have hcz35_0 : w30.cell? ⟨gb139, 0, none⟩ = some (.int .u64 x140000_1) := (blk_cell BK139.out 0).trans rfl; have hcz35_1 : w30.cell? ⟨gb139, 1, none⟩ = some (.int .u64 x140001_1) := (blk_cell BK139.out 1).trans rfl; have hcz35_2 : w30.cell? ⟨gb139, 2, none⟩ = some (.int .u64 x140002_1) := (blk_cell BK139.out 2).trans rfl; have hcz35_3 : w30.cell? ⟨gb139, 3, none⟩ = some (.int .u64 x140003_1) := (blk_cell BK139.out 3).trans rfl; have hcz35_4 : w30.cell? ⟨gb139, 4, none⟩ = some (.int .u64 x140004_1) := (blk_cell BK139.out 4).trans rfl; have hfz35_0 := blk_frozen BK139.out 0; have hfz35_1 := blk_frozen BK139.out 1; have hfz35_2 := blk_frozen BK139.out 2; have hfz35_3 := blk_frozen BK139.out 3; have hfz35_4 := blk_frozen BK139.out 4) | ((with_reducible refine gate_callee (f := 29) rfl ?_); refine goesL_ (some 48) rfl rfl Try.func29 (by kernel_rfl) rfl #[.agg #[.int .u64 x140000_1, .int .u64 x140001_1, .int .u64 x140002_1, .int .u64 x140003_1, .int .u64 x140004_1], .int .u64 t148] rfl (by (try simp only [List.map_toArray, List.map_cons, List.map_nil]); first | done | rfl | (simp only [List.length_drop, List.length_take]; rfl)) ?_; (with_reducible refine (credit_Given_Use.calls x140000_1 x140001_1 x140002_1 x140003_1 x140004_1 t148 t150 t151 t152 t153 t154 t155 _ A23.out).mono ?_); rintro e w36 ⟨rfl, hb⟩; refine ⟨_, rfl, ?_⟩; have n0_ := Aside0.mk (blk_below (g := gb139) (o := .cells #[.int .u64 x140000_1, .int .u64 x140001_1, .int .u64 x140002_1, .int .u64 x140003_1, .int .u64 x140004_1] 51 (0, 0)) (by (with_reducible repeat (first | refine blk_drewN ?_ _ | refine blk_drew ?_ | refine blk_alloc ?_ _)); refine blk_far ?_ NB139_140.out _; (with_reducible repeat (first | refine blk_drewN ?_ _ | refine blk_drew ?_ | refine blk_alloc ?_ _)); refine blk_far ?_ NB139_140.out _; (with_reducible repeat (first | refine blk_drewN ?_ _ | refine blk_drew ?_ | refine blk_alloc ?_ _)); refine blk_far ?_ NB139_140.out _; (with_reducible repeat (first | refine blk_drewN ?_ _ | refine blk_drew ?_ | refine blk_alloc ?_ _)); refine blk_far ?_ NB139_149.out _; (with_reducible repeat (first | refine blk_drewN ?_ _ | refine blk_drew ?_ | refine blk_alloc ?_ _)); refine blk_far ?_ NB139_149.out _; (with_reducible repeat (first | refine blk_drewN ?_ _ | refine blk_drew ?_ | refine blk_alloc ?_ _)); refine blk_far ?_ NB139_149.out _; (with_reducible repeat (first | refine blk_drewN ?_ _ | refine blk_drew ?_ | refine blk_alloc ?_ _)); exact BK139.out) hb); have n1_ := Aside0.mk (blk_below (g := gb140) (o := .cells #[.int .u64 t145, .int .u64 t146, .int .u64 t147] 61 (0, 0)) (by (with_reducible repeat (first | refine blk_drewN ?_ _ | refine blk_drew ?_ | refine blk_alloc ?_ _)); refine blk_put (cs := #[.int .u64 t145, .int .u64 t146, .int .u64 x141002_1]) ?_ 2 _ rfl; (with_reducible repeat (first | refine blk_drewN ?_ _ | refine blk_drew ?_ | refine blk_alloc ?_ _)); refine blk_put (cs := #[.int .u64 t145, .int .u64 x141001_1, .int .u64 x141002_1]) ?_ 1 _ rfl; (with_reducible repeat (first | refine blk_drewN ?_ _ | refine blk_drew ?_ | refine blk_alloc ?_ _)); refine blk_put (cs := #[.int .u64 x141000_1, .int .u64 x141001_1, .int .u64 x141002_1]) ?_ 0 _ rfl; (with_reducible repeat (first | refine blk_drewN ?_ _ | refine blk_drew ?_ | refine blk_alloc ?_ _)); refine blk_far ?_ NB140_149.out _; (with_reducible repeat (first | refine blk_drewN ?_ _ | refine blk_drew ?_ | refine blk_alloc ?_ _)); refine blk_far ?_ NB140_149.out _; (with_reducible repeat (first | refine blk_drewN ?_ _ | refine blk_drew ?_ | refine blk_alloc ?_ _)); refine blk_far ?_ NB140_149.out _; (with_reducible repeat (first | refine blk_drewN ?_ _ | refine blk_drew ?_ | refine blk_alloc ?_ _)); exact BK140.out) hb); have n2_ := Aside0.mk (blk_below (g := gb149) (o := .cells #[.int .u64 t145, .int .u64 t146, .int .u64 t147] 61 (0, 0)) (by (with_reducible repeat (first | refine blk_drewN ?_ _ | refine blk_drew ?_ | refine blk_alloc ?_ _)); refine blk_far ?_ NB149_140.out _; (with_reducible repeat (first | refine blk_drewN ?_ _ | refine blk_drew ?_ | refine blk_alloc ?_ _)); refine blk_far ?_ NB149_140.out _; (with_reducible repeat (first | refine blk_drewN ?_ _ | refine blk_drew ?_ | refine blk_alloc ?_ _)); refine blk_far ?_ NB149_140.out _; (with_reducible repeat (first | refine blk_drewN ?_ _ | refine blk_drew ?_ | refine blk_alloc ?_ _)); refine blk_put (cs := #[.int .u64 t145, .int .u64 t146, .int .u64 0]) ?_ 2 _ rfl; (with_reducible repeat (first | refine blk_drewN ?_ _ | refine blk_drew ?_ | refine blk_alloc ?_ _)); refine blk_put (cs := #[.int .u64 t145, .int .u64 0, .int .u64 0]) ?_ 1 _ rfl; (with_reducible repeat (first | refine blk_drewN ?_ _ | refine blk_drew ?_ | refine blk_alloc ?_ _)); refine blk_put (cs := #[.int .u64 0, .int .u64 0, .int .u64 0]) ?_ 0 _ rfl; (with_reducible repeat (first | refine blk_drewN ?_ _ | refine blk_drew ?_ | refine blk_alloc ?_ _)); exact BK149.out) hb); have n3_ := Aside0.mk (below_step (by repeat (first | (with_reducible first | exact HB.out | apply below_alloc | apply pw_below_drewN | apply below_drew1 | refine below_set ?_ GE139.out | refine below_set ?_ GE140.out | refine below_set ?_ GE149.out) | exact HB.out)) hb); clear BK139; clear BK140; clear BK149; clear HB; have BK139 := n0_; have BK140 := n1_; have BK149 := n2_; have HB := n3_; clear n0_ n1_ n2_ n3_; (try clear hb); (try clear hb2); (try clear hk); (try clear hi)) | ((with_reducible refine gate_dst (N := 15) rfl ?_); (try (refine gate_guard (by rfl) ?_; dsimp only)); refine box_event ?hg (N := 15) ?hd (cs := #[.int .u64 0, .int .u64 0, .int .u64 0, .int .u64 0, .int .u64 0]) (t := 51) ?hr ?_; (case hd => rfl); (case hg => rfl); (case hr => first | (go_simp; done) | (go_simp; rfl)); intro gb156 hg w37 hbox hb; have n0_ := Aside0.mk (blk_below (g := gb139) (o := .cells #[.int .u64 x140000_1, .int .u64 x140001_1, .int .u64 x140002_1, .int .u64 x140003_1, .int .u64 x140004_1] 51 (0, 0)) (by (with_reducible repeat (first | refine blk_drewN ?_ _ | refine blk_drew ?_ | refine blk_alloc ?_ _)); exact BK139.out) hb); have n1_ := Aside0.mk (blk_below (g := gb140) (o := .cells #[.int .u64 t145, .int .u64 t146, .int .u64 t147] 61 (0, 0)) (by (with_reducible repeat (first | refine blk_drewN ?_ _ | refine blk_drew ?_ | refine blk_alloc ?_ _)); exact BK140.out) hb); have n2_ := Aside0.mk (blk_below (g := gb149) (o := .cells #[.int .u64 t145, .int .u64 t146, .int .u64 t147] 61 (0, 0)) (by (with_reducible repeat (first | refine blk_drewN ?_ _ | refine blk_drew ?_ | refine blk_alloc ?_ _)); exact BK149.out) hb); have n3_ := Aside0.mk (below_step (by repeat (first | (with_reducible first | exact HB.out | apply below_alloc | apply pw_below_drewN | apply below_drew1 | refine below_set ?_ GE139.out | refine below_set ?_ GE140.out | refine below_set ?_ GE149.out) | exact HB.out)) hb); have n4_ := Aside0.mk (hbox); have n5_ := Aside0.mk ((by rw [hg]; exact (below_size (by repeat (first | (with_reducible first | exact HB.out | apply below_alloc | apply pw_below_drewN | apply below_drew1 | refine below_set ?_ GE139.out | refine below_set ?_ GE140.out | refine below_set ?_ GE149.out) | exact HB.out))) : w.heap.size ≤ gb156)); have n6_ := Aside0.mk ((by rw [hg]; exact (below_size (by repeat (first | (with_reducible first | exact HB.out | apply below_alloc | apply pw_below_drewN | apply below_drew1 | refine below_set ?_ GE139.out | refine below_set ?_ GE140.out | refine below_set ?_ GE149.out) | exact HB.out))) : w.heap.size ≤ gb156)); have n7_ := Aside0.mk ((by rw [hg]; exact Nat.ne_of_lt (blk_lt (g := gb139) (o := .cells #[.int .u64 x140000_1, .int .u64 x140001_1, .int .u64 x140002_1, .int .u64 x140003_1, .int .u64 x140004_1] 51 (0, 0)) (by (with_reducible repeat (first | refine blk_drewN ?_ _ | refine blk_drew ?_ | refine blk_alloc ?_ _)); exact BK139.out)) : gb139 ≠ gb156)); have n8_ := Aside0.mk ((by rw [hg]; exact Nat.ne_of_gt (blk_lt (g := gb139) (o := .cells #[.int .u64 x140000_1, .int .u64 x140001_1, .int .u64 x140002_1, .int .u64 x140003_1, .int .u64 x140004_1] 51 (0, 0)) (by (with_reducible repeat (first | refine blk_drewN ?_ _ | refine blk_drew ?_ | refine blk_alloc ?_ _)); exact BK139.out)) : gb156 ≠ gb139)); have n9_ := Aside0.mk ((by rw [hg]; exact Nat.ne_of_lt (blk_lt (g := gb140) (o := .cells #[.int .u64 t145, .int .u64 t146, .int .u64 t147] 61 (0, 0)) (by (with_reducible repeat (first | refine blk_drewN ?_ _ | refine blk_drew ?_ | refine blk_alloc ?_ _)); exact BK140.out)) : gb140 ≠ gb156)); have n10_ := Aside0.mk ((by rw [hg]; exact Nat.ne_of_gt (blk_lt (g := gb140) (o := .cells #[.int .u64 t145, .int .u64 t146, .int .u64 t147] 61 (0, 0)) (by (with_reducible repeat (first | refine blk_drewN ?_ _ | refine blk_drew ?_ | refine blk_alloc ?_ _)); exact BK140.out)) : gb156 ≠ gb140)); have n11_ := Aside0.mk ((by rw [hg]; exact Nat.ne_of_lt (blk_lt (g := gb149) (o := .cells #[.int .u64 t145, .int .u64 t146, .int .u64 t147] 61 (0, 0)) (by (with_reducible repeat (first | refine blk_drewN ?_ _ | refine blk_drew ?_ | refine blk_alloc ?_ _)); exact BK149.out)) : gb149 ≠ gb156)); have n12_ := Aside0.mk ((by rw [hg]; exact Nat.ne_of_gt (blk_lt (g := gb149) (o := .cells #[.int .u64 t145, .int .u64 t146, .int .u64 t147] 61 (0, 0)) (by (with_reducible repeat (first | refine blk_drewN ?_ _ | refine blk_drew ?_ | refine blk_alloc ?_ _)); exact BK149.out)) : gb156 ≠ gb149)); clear BK139; clear BK140; clear BK149; clear HB; have BK139 := n0_; have BK140 := n1_; have BK149 := n2_; have HB := n3_; have BK156 := n4_; have GW156 := n5_; have GE156 := n6_; have NB139_156 := n7_; have NB156_139 := n8_; have NB140_156 := n9_; have NB156_140 := n10_; have NB149_156 := n11_; have NB156_149 := n12_; clear n0_ n1_ n2_ n3_ n4_ n5_ n6_ n7_ n8_ n9_ n10_ n11_ n12_; clear hb hbox hg; have hnb38 := NB156_139.out; have hnc38 := NB139_156.out; have hnb39 := NB156_140.out; have hnc39 := NB140_156.out; have hnb40 := NB156_149.out; have hnc40 := NB149_156.out; have hcz41_0 : w37.cell? ⟨gb156, 0, none⟩ = some (.int .u64 0) := (blk_cell BK156.out 0).trans rfl; have hcz41_1 : w37.cell? ⟨gb156, 1, none⟩ = some (.int .u64 0) := (blk_cell BK156.out 1).trans rfl; have hcz41_2 : w37.cell? ⟨gb156, 2, none⟩ = some (.int .u64 0) := (blk_cell BK156.out 2).trans rfl; have hcz41_3 : w37.cell? ⟨gb156, 3, none⟩ = some (.int .u64 0) := (blk_cell BK156.out 3).trans rfl; have hcz41_4 : w37.cell? ⟨gb156, 4, none⟩ = some (.int .u64 0) := (blk_cell BK156.out 4).trans rfl; have hfz41_0 := blk_frozen BK156.out 0; have hfz41_1 := blk_frozen BK156.out 1; have hfz41_2 := blk_frozen BK156.out 2; have hfz41_3 := blk_frozen BK156.out 3; have hfz41_4 := blk_frozen BK156.out 4) | ((with_reducible refine gate_callee (f := 30) rfl ?_); refine goesL_ (some 55) rfl rfl Try.func30 (by kernel_rfl) rfl #[.agg #[.int .u64 t150, .int .u64 t151, .int .u64 t152, .int .u64 t153, .int .u64 t154], .int .u64 t148] rfl (by (try simp only [List.map_toArray, List.map_cons, List.map_nil]); first | done | rfl | (simp only [List.length_drop, List.length_take]; rfl)) ?_; (with_reducible refine (credit_Given_Take.calls t150 t151 t152 t153 t154 t148 t157 t158 t159 t160 t161 _ A25.out).mono ?_); rintro e w42 ⟨rfl, hb⟩; refine ⟨_, rfl, ?_⟩; have n0_ := Aside0.mk (blk_below (g := gb139) (o := .cells #[.int .u64 x140000_1, .int .u64 x140001_1, .int .u64 x140002_1, .int .u64 x140003_1, .int .u64 x140004_1] 51 (0, 0)) (by (with_reducible repeat (first | refine blk_drewN ?_ _ | refine blk_drew ?_ | refine blk_alloc ?_ _)); refine blk_far ?_ NB139_156.out _; (with_reducible repeat (first | refine blk_drewN ?_ _ | refine blk_drew ?_ | refine blk_alloc ?_ _)); refine blk_far ?_ NB139_156.out _; (with_reducible repeat (first | refine blk_drewN ?_ _ | refine blk_drew ?_ | refine blk_alloc ?_ _)); refine blk_far ?_ NB139_156.out _; (with_reducible repeat (first | refine blk_drewN ?_ _ | refine blk_drew ?_ | refine blk_alloc ?_ _)); refine blk_far ?_ NB139_156.out _; (with_reducible repeat (first | refine blk_drewN ?_ _ | refine blk_drew ?_ | refine blk_alloc ?_ _)); refine blk_far ?_ NB139_156.out _; (with_reducible repeat (first | refine blk_drewN ?_ _ | refine blk_drew ?_ | refine blk_alloc ?_ _)); exact BK139.out) hb); have n1_ := Aside0.mk (blk_below (g := gb140) (o := .cells #[.int .u64 t145, .int .u64 t146, .int .u64 t147] 61 (0, 0)) (by (with_reducible repeat (first | refine blk_drewN ?_ _ | refine blk_drew ?_ | refine blk_alloc ?_ _)); refine blk_far ?_ NB140_156.out _; (with_reducible repeat (first | refine blk_drewN ?_ _ | refine blk_drew ?_ | refine blk_alloc ?_ _)); refine blk_far ?_ NB140_156.out _; (with_reducible repeat (first | refine blk_drewN ?_ _ | refine blk_drew ?_ | refine blk_alloc ?_ _)); refine blk_far ?_ NB140_156.out _; (with_reducible repeat (first | refine blk_drewN ?_ _ | refine blk_drew ?_ | refine blk_alloc ?_ _)); refine blk_far ?_ NB140_156.out _; (with_reducible repeat (first | refine blk_drewN ?_ _ | refine blk_drew ?_ | refine blk_alloc ?_ _)); refine blk_far ?_ NB140_156.out _; (with_reducible repeat (first | refine blk_drewN ?_ _ | refine blk_drew ?_ | refine blk_alloc ?_ _)); exact BK140.out) hb); have n2_ := Aside0.mk (blk_below (g := gb149) (o := .cells #[.int .u64 t145, .int .u64 t146, .int .u64 t147] 61 (0, 0)) (by (with_reducible repeat (first | refine blk_drewN ?_ _ | refine blk_drew ?_ | refine blk_alloc ?_ _)); refine blk_far ?_ NB149_156.out _; (with_reducible repeat (first | refine blk_drewN ?_ _ | refine blk_drew ?_ | refine blk_alloc ?_ _)); refine blk_far ?_ NB149_156.out _; (with_reducible repeat (first | refine blk_drewN ?_ _ | refine blk_drew ?_ | refine blk_alloc ?_ _)); refine blk_far ?_ NB149_156.out _; (with_reducible repeat (first | refine blk_drewN ?_ _ | refine blk_drew ?_ | refine blk_alloc ?_ _)); refine blk_far ?_ NB149_156.out _; (with_reducible repeat (first | refine blk_drewN ?_ _ | refine blk_drew ?_ | refine blk_alloc ?_ _)); refine blk_far ?_ NB149_156.out _; (with_reducible repeat (first | refine blk_drewN ?_ _ | refine blk_drew ?_ | refine blk_alloc ?_ _)); exact BK149.out) hb); have n3_ := Aside0.mk (blk_below (g := gb156) (o := .cells #[.int .u64 t150, .int .u64 t151, .int .u64 t152, .int .u64 t153, .int .u64 t154] 51 (0, 0)) (by (with_reducible repeat (first | refine blk_drewN ?_ _ | refine blk_drew ?_ | refine blk_alloc ?_ _)); refine blk_put (cs := #[.int .u64 t150, .int .u64 t151, .int .u64 t152, .int .u64 t153, .int .u64 0]) ?_ 4 _ rfl; (with_reducible repeat (first | refine blk_drewN ?_ _ | refine blk_drew ?_ | refine blk_alloc ?_ _)); refine blk_put (cs := #[.int .u64 t150, .int .u64 t151, .int .u64 t152, .int .u64 0, .int .u64 0]) ?_ 3 _ rfl; (with_reducible repeat (first | refine blk_drewN ?_ _ | refine blk_drew ?_ | refine blk_alloc ?_ _)); refine blk_put (cs := #[.int .u64 t150, .int .u64 t151, .int .u64 0, .int .u64 0, .int .u64 0]) ?_ 2 _ rfl; (with_reducible repeat (first | refine blk_drewN ?_ _ | refine blk_drew ?_ | refine blk_alloc ?_ _)); refine blk_put (cs := #[.int .u64 t150, .int .u64 0, .int .u64 0, .int .u64 0, .int .u64 0]) ?_ 1 _ rfl; (with_reducible repeat (first | refine blk_drewN ?_ _ | refine blk_drew ?_ | refine blk_alloc ?_ _)); refine blk_put (cs := #[.int .u64 0, .int .u64 0, .int .u64 0, .int .u64 0, .int .u64 0]) ?_ 0 _ rfl; (with_reducible repeat (first | refine blk_drewN ?_ _ | refine blk_drew ?_ | refine blk_alloc ?_ _)); exact BK156.out) hb); have n4_ := Aside0.mk (below_step (by repeat (first | (with_reducible first | exact HB.out | apply below_alloc | apply pw_below_drewN | apply below_drew1 | refine below_set ?_ GE139.out | refine below_set ?_ GE140.out | refine below_set ?_ GE149.out | refine below_set ?_ GE156.out) | exact HB.out)) hb); clear BK139; clear BK140; clear BK149; clear BK156; clear HB; have BK139 := n0_; have BK140 := n1_; have BK149 := n2_; have BK156 := n3_; have HB := n4_; clear n0_ n1_ n2_ n3_ n4_; (try clear hb); (try clear hb2); (try clear hk); (try clear hi); have hcz43_0 : w42.cell? ⟨gb139, 0, none⟩ = some (.int .u64 x140000_1) := (blk_cell BK139.out 0).trans rfl; have hcz43_1 : w42.cell? ⟨gb139, 1, none⟩ = some (.int .u64 x140001_1) := (blk_cell BK139.out 1).trans rfl; have hcz43_2 : w42.cell? ⟨gb139, 2, none⟩ = some (.int .u64 x140002_1) := (blk_cell BK139.out 2).trans rfl; have hcz43_3 : w42.cell? ⟨gb139, 3, none⟩ = some (.int .u64 x140003_1) := (blk_cell BK139.out 3).trans rfl; have hcz43_4 : w42.cell? ⟨gb139, 4, none⟩ = some (.int .u64 x140004_1) := (blk_cell BK139.out 4).trans rfl; have hfz43_0 := blk_frozen BK139.out 0; have hfz43_1 := blk_frozen BK139.out 1; have hfz43_2 := blk_frozen BK139.out 2; have hfz43_3 := blk_frozen BK139.out 3; have hfz43_4 := blk_frozen BK139.out 4))
                    (try simp only [Act.put, List.setIfInBounds_toArray, List.set_cons_zero, List.set_cons_succ])
                    go_cut [72] (fun v72 wc => ∃ (kq : Nat) (x72_25 : Bool), v72 = .bool x72_25 ∧ Aside0 (binnaclelaw20_CreditMeets.j1 kq l2 (IntKind.u64.wrap (1 + (IntKind.u64.wrap (Int.tmod a0 300)))) (IntKind.u64.wrap (x10_1 + t148)) l1 (l1.length : Int) x30_1 x72_25 t157 t158 t159 t160 t161 t145 t146 t147 = some r) ∧ Aside0 (kq ≤ k1) ∧ Aside0 (wc.heap[gb139]? = some (.cells #[.int .u64 t157, .int .u64 t158, .int .u64 t159, .int .u64 t160, .int .u64 t161] 51 (0, 0))) ∧ Aside0 (wc.heap[gb140]? = some (.cells #[.int .u64 t145, .int .u64 t146, .int .u64 t147] 61 (0, 0))) ∧ Aside0 (wc.heap[gb149]? = some (.cells #[.int .u64 t145, .int .u64 t146, .int .u64 t147] 61 (0, 0))) ∧ Aside0 (wc.heap[gb156]? = some (.cells #[.int .u64 t150, .int .u64 t151, .int .u64 t152, .int .u64 t153, .int .u64 t154] 51 (0, 0))) ∧ Aside0 (Below w.heap.size w wc))
                    case first =>
                      have H := HC26.out
                      clear HC26
                      replace H := Option.bind_eq_some_iff.mp H
                      obtain ⟨t162, A440, H⟩ := H
                      replace H : (if t162 = true then (if x30_1 ≥ (l2.length : Int) then (binnaclelaw20_CreditMeets.j1 k1 l2 (IntKind.u64.wrap (1 + (IntKind.u64.wrap (Int.tmod a0 300)))) (IntKind.u64.wrap (x10_1 + t148)) l1 (l1.length : Int) x30_1 true t157 t158 t159 t160 t161 t145 t146 t147) else (if x30_1 < (l2.length : Int) then (binnaclelaw20_CreditMeets.j1 k1 l2 (IntKind.u64.wrap (1 + (IntKind.u64.wrap (Int.tmod a0 300)))) (IntKind.u64.wrap (x10_1 + t148)) l1 (l1.length : Int) x30_1 (rdOf false l2 x30_1) t157 t158 t159 t160 t161 t145 t146 t147) else (none))) else (binnaclelaw20_CreditMeets.j1 k1 l2 (IntKind.u64.wrap (1 + (IntKind.u64.wrap (Int.tmod a0 300)))) (IntKind.u64.wrap (x10_1 + t148)) l1 (l1.length : Int) x30_1 false t157 t158 t159 t160 t161 t145 t146 t147)) = some r := H
                      have A44 := Aside0.mk A440
                      clear A440
                      by_cases c45 : t162 = true
                      · subst c45
                        have H1 : (if x30_1 ≥ (l2.length : Int) then (binnaclelaw20_CreditMeets.j1 k1 l2 (IntKind.u64.wrap (1 + (IntKind.u64.wrap (Int.tmod a0 300)))) (IntKind.u64.wrap (x10_1 + t148)) l1 (l1.length : Int) x30_1 true t157 t158 t159 t160 t161 t145 t146 t147) else (if x30_1 < (l2.length : Int) then (binnaclelaw20_CreditMeets.j1 k1 l2 (IntKind.u64.wrap (1 + (IntKind.u64.wrap (Int.tmod a0 300)))) (IntKind.u64.wrap (x10_1 + t148)) l1 (l1.length : Int) x30_1 (rdOf false l2 x30_1) t157 t158 t159 t160 t161 t145 t146 t147) else (none))) = some r := by rw [if_pos rfl] at H; exact H
                        clear H
                        have H := H1
                        clear H1
                        by_cases c46 : x30_1 ≥ (l2.length : Int)
                        · rw [if_pos c46] at H
                          have c46b0 : decide ((l2.length : Int) ≤ x30_1) = true := decide_eq_true c46
                          clear c46
                          (first | rw [c46b0] | (simp only [i64_w, i32_w]; rw [c46b0]) | skip)
                          have H' := Aside0.mk H
                          clear H
                          have hnb47 := NB139_140.out
                          have hnc47 := NB140_139.out
                          have hnb48 := NB139_149.out
                          have hnc48 := NB149_139.out
                          have hnb49 := NB139_156.out
                          have hnc49 := NB156_139.out
                          have hcz50_0 : w42.cell? ⟨gb139, 0, none⟩ = some (.int .u64 x140000_1) := (blk_cell BK139.out 0).trans rfl
                          have hcz50_1 : w42.cell? ⟨gb139, 1, none⟩ = some (.int .u64 x140001_1) := (blk_cell BK139.out 1).trans rfl
                          have hcz50_2 : w42.cell? ⟨gb139, 2, none⟩ = some (.int .u64 x140002_1) := (blk_cell BK139.out 2).trans rfl
                          have hcz50_3 : w42.cell? ⟨gb139, 3, none⟩ = some (.int .u64 x140003_1) := (blk_cell BK139.out 3).trans rfl
                          have hcz50_4 : w42.cell? ⟨gb139, 4, none⟩ = some (.int .u64 x140004_1) := (blk_cell BK139.out 4).trans rfl
                          have hfz50_0 := blk_frozen BK139.out 0
                          have hfz50_1 := blk_frozen BK139.out 1
                          have hfz50_2 := blk_frozen BK139.out 2
                          have hfz50_3 := blk_frozen BK139.out 3
                          have hfz50_4 := blk_frozen BK139.out 4
                          go_wp2_with (first | ((with_reducible refine gate_callee (f := 34) rfl ?_); refine goesL_ (some 60) rfl rfl Try.func34 (by kernel_rfl) rfl #[.agg #[.int .u64 t157, .int .u64 t158, .int .u64 t159, .int .u64 t160, .int .u64 t161]] rfl (by (try simp only [List.map_toArray, List.map_cons, List.map_nil]); first | done | rfl | (simp only [List.length_drop, List.length_take]; rfl)) ?_; (with_reducible refine (credit_Given_Wants.calls t157 t158 t159 t160 t161 true _ A44.out).mono ?_); rintro e w51 ⟨rfl, hb⟩; refine ⟨_, rfl, ?_⟩; have n0_ := Aside0.mk (blk_below (g := gb139) (o := .cells #[.int .u64 t157, .int .u64 t158, .int .u64 t159, .int .u64 t160, .int .u64 t161] 51 (0, 0)) (by (with_reducible repeat (first | refine blk_drewN ?_ _ | refine blk_drew ?_ | refine blk_alloc ?_ _)); refine blk_put (cs := #[.int .u64 t157, .int .u64 t158, .int .u64 t159, .int .u64 t160, .int .u64 x140004_1]) ?_ 4 _ rfl; (with_reducible repeat (first | refine blk_drewN ?_ _ | refine blk_drew ?_ | refine blk_alloc ?_ _)); refine blk_put (cs := #[.int .u64 t157, .int .u64 t158, .int .u64 t159, .int .u64 x140003_1, .int .u64 x140004_1]) ?_ 3 _ rfl; (with_reducible repeat (first | refine blk_drewN ?_ _ | refine blk_drew ?_ | refine blk_alloc ?_ _)); refine blk_put (cs := #[.int .u64 t157, .int .u64 t158, .int .u64 x140002_1, .int .u64 x140003_1, .int .u64 x140004_1]) ?_ 2 _ rfl; (with_reducible repeat (first | refine blk_drewN ?_ _ | refine blk_drew ?_ | refine blk_alloc ?_ _)); refine blk_put (cs := #[.int .u64 t157, .int .u64 x140001_1, .int .u64 x140002_1, .int .u64 x140003_1, .int .u64 x140004_1]) ?_ 1 _ rfl; (with_reducible repeat (first | refine blk_drewN ?_ _ | refine blk_drew ?_ | refine blk_alloc ?_ _)); refine blk_put (cs := #[.int .u64 x140000_1, .int .u64 x140001_1, .int .u64 x140002_1, .int .u64 x140003_1, .int .u64 x140004_1]) ?_ 0 _ rfl; (with_reducible repeat (first | refine blk_drewN ?_ _ | refine blk_drew ?_ | refine blk_alloc ?_ _)); exact BK139.out) hb); have n1_ := Aside0.mk (blk_below (g := gb140) (o := .cells #[.int .u64 t145, .int .u64 t146, .int .u64 t147] 61 (0, 0)) (by (with_reducible repeat (first | refine blk_drewN ?_ _ | refine blk_drew ?_ | refine blk_alloc ?_ _)); refine blk_far ?_ NB140_139.out _; (with_reducible repeat (first | refine blk_drewN ?_ _ | refine blk_drew ?_ | refine blk_alloc ?_ _)); refine blk_far ?_ NB140_139.out _; (with_reducible repeat (first | refine blk_drewN ?_ _ | refine blk_drew ?_ | refine blk_alloc ?_ _)); refine blk_far ?_ NB140_139.out _; (with_reducible repeat (first | refine blk_drewN ?_ _ | refine blk_drew ?_ | refine blk_alloc ?_ _)); refine blk_far ?_ NB140_139.out _; (with_reducible repeat (first | refine blk_drewN ?_ _ | refine blk_drew ?_ | refine blk_alloc ?_ _)); refine blk_far ?_ NB140_139.out _; (with_reducible repeat (first | refine blk_drewN ?_ _ | refine blk_drew ?_ | refine blk_alloc ?_ _)); exact BK140.out) hb); have n2_ := Aside0.mk (blk_below (g := gb149) (o := .cells #[.int .u64 t145, .int .u64 t146, .int .u64 t147] 61 (0, 0)) (by (with_reducible repeat (first | refine blk_drewN ?_ _ | refine blk_drew ?_ | refine blk_alloc ?_ _)); refine blk_far ?_ NB149_139.out _; (with_reducible repeat (first | refine blk_drewN ?_ _ | refine blk_drew ?_ | refine blk_alloc ?_ _)); refine blk_far ?_ NB149_139.out _; (with_reducible repeat (first | refine blk_drewN ?_ _ | refine blk_drew ?_ | refine blk_alloc ?_ _)); refine blk_far ?_ NB149_139.out _; (with_reducible repeat (first | refine blk_drewN ?_ _ | refine blk_drew ?_ | refine blk_alloc ?_ _)); refine blk_far ?_ NB149_139.out _; (with_reducible repeat (first | refine blk_drewN ?_ _ | refine blk_drew ?_ | refine blk_alloc ?_ _)); refine blk_far ?_ NB149_139.out _; (with_reducible repeat (first | refine blk_drewN ?_ _ | refine blk_drew ?_ | refine blk_alloc ?_ _)); exact BK149.out) hb); have n3_ := Aside0.mk (blk_below (g := gb156) (o := .cells #[.int .u64 t150, .int .u64 t151, .int .u64 t152, .int .u64 t153, .int .u64 t154] 51 (0, 0)) (by (with_reducible repeat (first | refine blk_drewN ?_ _ | refine blk_drew ?_ | refine blk_alloc ?_ _)); refine blk_far ?_ NB156_139.out _; (with_reducible repeat (first | refine blk_drewN ?_ _ | refine blk_drew ?_ | refine blk_alloc ?_ _)); refine blk_far ?_ NB156_139.out _; (with_reducible repeat (first | refine blk_drewN ?_ _ | refine blk_drew ?_ | refine blk_alloc ?_ _)); refine blk_far ?_ NB156_139.out _; (with_reducible repeat (first | refine blk_drewN ?_ _ | refine blk_drew ?_ | refine blk_alloc ?_ _)); refine blk_far ?_ NB156_139.out _; (with_reducible repeat (first | refine blk_drewN ?_ _ | refine blk_drew ?_ | refine blk_alloc ?_ _)); refine blk_far ?_ NB156_139.out _; (with_reducible repeat (first | refine blk_drewN ?_ _ | refine blk_drew ?_ | refine blk_alloc ?_ _)); exact BK156.out) hb); have n4_ := Aside0.mk (below_step (by repeat (first | (with_reducible first | exact HB.out | apply below_alloc | apply pw_below_drewN | apply below_drew1 | refine below_set ?_ GE139.out | refine below_set ?_ GE140.out | refine below_set ?_ GE149.out | refine below_set ?_ GE156.out) | exact HB.out)) hb); clear BK139; clear BK140; clear BK149; clear BK156; clear HB; have BK139 := n0_; have BK140 := n1_; have BK149 := n2_; have BK156 := n3_; have HB := n4_; clear n0_ n1_ n2_ n3_ n4_; (try clear hb); (try clear hb2); (try clear hk); (try clear hi)))
                          go_meet
                          case rel => exact ⟨_, (true), (by first | rfl | (simp; done) | (simp [*]; done)), H', ⟨by have := HK1.out; first | omega | exact Nat.le_refl _⟩, ⟨by (with_reducible repeat (first | refine blk_drewN ?_ _ | refine blk_drew ?_ | refine blk_alloc ?_ _)); exact BK139.out⟩, ⟨by (with_reducible repeat (first | refine blk_drewN ?_ _ | refine blk_drew ?_ | refine blk_alloc ?_ _)); exact BK140.out⟩, ⟨by (with_reducible repeat (first | refine blk_drewN ?_ _ | refine blk_drew ?_ | refine blk_alloc ?_ _)); exact BK149.out⟩, ⟨by (with_reducible repeat (first | refine blk_drewN ?_ _ | refine blk_drew ?_ | refine blk_alloc ?_ _)); exact BK156.out⟩, ⟨by repeat (first | (with_reducible first | exact HB.out | apply below_alloc | apply pw_below_drewN | apply below_drew1 | refine below_set ?_ GE139.out | refine below_set ?_ GE140.out | refine below_set ?_ GE149.out | refine below_set ?_ GE156.out) | exact HB.out)⟩⟩
                        · rw [if_neg c46] at H
                          have c46b0 : decide ((l2.length : Int) ≤ x30_1) = false := decide_eq_false c46
                          clear c46
                          (first | rw [c46b0] | (simp only [i64_w, i32_w]; rw [c46b0]) | skip)
                          by_cases c52 : x30_1 < (l2.length : Int)
                          · rw [if_pos c52] at H
                            have c52b0 : decide (x30_1 < (l2.length : Int)) = true := decide_eq_true c52
                            clear c52
                            have H' := Aside0.mk H
                            clear H
                            have hnb53 := NB139_140.out
                            have hnc53 := NB140_139.out
                            have hnb54 := NB139_149.out
                            have hnc54 := NB149_139.out
                            have hnb55 := NB139_156.out
                            have hnc55 := NB156_139.out
                            have hcz56_0 : w42.cell? ⟨gb139, 0, none⟩ = some (.int .u64 x140000_1) := (blk_cell BK139.out 0).trans rfl
                            have hcz56_1 : w42.cell? ⟨gb139, 1, none⟩ = some (.int .u64 x140001_1) := (blk_cell BK139.out 1).trans rfl
                            have hcz56_2 : w42.cell? ⟨gb139, 2, none⟩ = some (.int .u64 x140002_1) := (blk_cell BK139.out 2).trans rfl
                            have hcz56_3 : w42.cell? ⟨gb139, 3, none⟩ = some (.int .u64 x140003_1) := (blk_cell BK139.out 3).trans rfl
                            have hcz56_4 : w42.cell? ⟨gb139, 4, none⟩ = some (.int .u64 x140004_1) := (blk_cell BK139.out 4).trans rfl
                            have hfz56_0 := blk_frozen BK139.out 0
                            have hfz56_1 := blk_frozen BK139.out 1
                            have hfz56_2 := blk_frozen BK139.out 2
                            have hfz56_3 := blk_frozen BK139.out 3
                            have hfz56_4 := blk_frozen BK139.out 4
                            go_wp2_with (first | ((with_reducible refine gate_callee (f := 34) rfl ?_); refine goesL_ (some 60) rfl rfl Try.func34 (by kernel_rfl) rfl #[.agg #[.int .u64 t157, .int .u64 t158, .int .u64 t159, .int .u64 t160, .int .u64 t161]] rfl (by (try simp only [List.map_toArray, List.map_cons, List.map_nil]); first | done | rfl | (simp only [List.length_drop, List.length_take]; rfl)) ?_; (with_reducible refine (credit_Given_Wants.calls t157 t158 t159 t160 t161 true _ A44.out).mono ?_); rintro e w57 ⟨rfl, hb⟩; refine ⟨_, rfl, ?_⟩; have n0_ := Aside0.mk (blk_below (g := gb139) (o := .cells #[.int .u64 t157, .int .u64 t158, .int .u64 t159, .int .u64 t160, .int .u64 t161] 51 (0, 0)) (by (with_reducible repeat (first | refine blk_drewN ?_ _ | refine blk_drew ?_ | refine blk_alloc ?_ _)); refine blk_put (cs := #[.int .u64 t157, .int .u64 t158, .int .u64 t159, .int .u64 t160, .int .u64 x140004_1]) ?_ 4 _ rfl; (with_reducible repeat (first | refine blk_drewN ?_ _ | refine blk_drew ?_ | refine blk_alloc ?_ _)); refine blk_put (cs := #[.int .u64 t157, .int .u64 t158, .int .u64 t159, .int .u64 x140003_1, .int .u64 x140004_1]) ?_ 3 _ rfl; (with_reducible repeat (first | refine blk_drewN ?_ _ | refine blk_drew ?_ | refine blk_alloc ?_ _)); refine blk_put (cs := #[.int .u64 t157, .int .u64 t158, .int .u64 x140002_1, .int .u64 x140003_1, .int .u64 x140004_1]) ?_ 2 _ rfl; (with_reducible repeat (first | refine blk_drewN ?_ _ | refine blk_drew ?_ | refine blk_alloc ?_ _)); refine blk_put (cs := #[.int .u64 t157, .int .u64 x140001_1, .int .u64 x140002_1, .int .u64 x140003_1, .int .u64 x140004_1]) ?_ 1 _ rfl; (with_reducible repeat (first | refine blk_drewN ?_ _ | refine blk_drew ?_ | refine blk_alloc ?_ _)); refine blk_put (cs := #[.int .u64 x140000_1, .int .u64 x140001_1, .int .u64 x140002_1, .int .u64 x140003_1, .int .u64 x140004_1]) ?_ 0 _ rfl; (with_reducible repeat (first | refine blk_drewN ?_ _ | refine blk_drew ?_ | refine blk_alloc ?_ _)); exact BK139.out) hb); have n1_ := Aside0.mk (blk_below (g := gb140) (o := .cells #[.int .u64 t145, .int .u64 t146, .int .u64 t147] 61 (0, 0)) (by (with_reducible repeat (first | refine blk_drewN ?_ _ | refine blk_drew ?_ | refine blk_alloc ?_ _)); refine blk_far ?_ NB140_139.out _; (with_reducible repeat (first | refine blk_drewN ?_ _ | refine blk_drew ?_ | refine blk_alloc ?_ _)); refine blk_far ?_ NB140_139.out _; (with_reducible repeat (first | refine blk_drewN ?_ _ | refine blk_drew ?_ | refine blk_alloc ?_ _)); refine blk_far ?_ NB140_139.out _; (with_reducible repeat (first | refine blk_drewN ?_ _ | refine blk_drew ?_ | refine blk_alloc ?_ _)); refine blk_far ?_ NB140_139.out _; (with_reducible repeat (first | refine blk_drewN ?_ _ | refine blk_drew ?_ | refine blk_alloc ?_ _)); refine blk_far ?_ NB140_139.out _; (with_reducible repeat (first | refine blk_drewN ?_ _ | refine blk_drew ?_ | refine blk_alloc ?_ _)); exact BK140.out) hb); have n2_ := Aside0.mk (blk_below (g := gb149) (o := .cells #[.int .u64 t145, .int .u64 t146, .int .u64 t147] 61 (0, 0)) (by (with_reducible repeat (first | refine blk_drewN ?_ _ | refine blk_drew ?_ | refine blk_alloc ?_ _)); refine blk_far ?_ NB149_139.out _; (with_reducible repeat (first | refine blk_drewN ?_ _ | refine blk_drew ?_ | refine blk_alloc ?_ _)); refine blk_far ?_ NB149_139.out _; (with_reducible repeat (first | refine blk_drewN ?_ _ | refine blk_drew ?_ | refine blk_alloc ?_ _)); refine blk_far ?_ NB149_139.out _; (with_reducible repeat (first | refine blk_drewN ?_ _ | refine blk_drew ?_ | refine blk_alloc ?_ _)); refine blk_far ?_ NB149_139.out _; (with_reducible repeat (first | refine blk_drewN ?_ _ | refine blk_drew ?_ | refine blk_alloc ?_ _)); refine blk_far ?_ NB149_139.out _; (with_reducible repeat (first | refine blk_drewN ?_ _ | refine blk_drew ?_ | refine blk_alloc ?_ _)); exact BK149.out) hb); have n3_ := Aside0.mk (blk_below (g := gb156) (o := .cells #[.int .u64 t150, .int .u64 t151, .int .u64 t152, .int .u64 t153, .int .u64 t154] 51 (0, 0)) (by (with_reducible repeat (first | refine blk_drewN ?_ _ | refine blk_drew ?_ | refine blk_alloc ?_ _)); refine blk_far ?_ NB156_139.out _; (with_reducible repeat (first | refine blk_drewN ?_ _ | refine blk_drew ?_ | refine blk_alloc ?_ _)); refine blk_far ?_ NB156_139.out _; (with_reducible repeat (first | refine blk_drewN ?_ _ | refine blk_drew ?_ | refine blk_alloc ?_ _)); refine blk_far ?_ NB156_139.out _; (with_reducible repeat (first | refine blk_drewN ?_ _ | refine blk_drew ?_ | refine blk_alloc ?_ _)); refine blk_far ?_ NB156_139.out _; (with_reducible repeat (first | refine blk_drewN ?_ _ | refine blk_drew ?_ | refine blk_alloc ?_ _)); refine blk_far ?_ NB156_139.out _; (with_reducible repeat (first | refine blk_drewN ?_ _ | refine blk_drew ?_ | refine blk_alloc ?_ _)); exact BK156.out) hb); have n4_ := Aside0.mk (below_step (by repeat (first | (with_reducible first | exact HB.out | apply below_alloc | apply pw_below_drewN | apply below_drew1 | refine below_set ?_ GE139.out | refine below_set ?_ GE140.out | refine below_set ?_ GE149.out | refine below_set ?_ GE156.out) | exact HB.out)) hb); clear BK139; clear BK140; clear BK149; clear BK156; clear HB; have BK139 := n0_; have BK140 := n1_; have BK149 := n2_; have BK156 := n3_; have HB := n4_; clear n0_ n1_ n2_ n3_ n4_; (try clear hb); (try clear hb2); (try clear hk); (try clear hi); have p163 : 0 ≤ (x30_1 : Int) := of_decide_eq_true (by first | (with_reducible assumption) | assumption); have q163 : x30_1 < (l2.length : Int) := of_decide_eq_true (by first | (with_reducible assumption) | assumption); obtain ⟨ad163, e163, hx163_0⟩ := Kd.at_bool HR2.out x30_1 p163 q163; cases e163; replace hx163_0 := (HB.out.cell (World.block_lt_of_cell? w _ hx163_0)).trans hx163_0; replace p163 := eq_true p163; replace q163 := eq_true q163))
                            go_meet
                            case rel => exact ⟨_, (rdOf false l2 x30_1), (by first | rfl | (simp; done) | (simp [*]; done)), H', ⟨by have := HK1.out; first | omega | exact Nat.le_refl _⟩, ⟨by (with_reducible repeat (first | refine blk_drewN ?_ _ | refine blk_drew ?_ | refine blk_alloc ?_ _)); exact BK139.out⟩, ⟨by (with_reducible repeat (first | refine blk_drewN ?_ _ | refine blk_drew ?_ | refine blk_alloc ?_ _)); exact BK140.out⟩, ⟨by (with_reducible repeat (first | refine blk_drewN ?_ _ | refine blk_drew ?_ | refine blk_alloc ?_ _)); exact BK149.out⟩, ⟨by (with_reducible repeat (first | refine blk_drewN ?_ _ | refine blk_drew ?_ | refine blk_alloc ?_ _)); exact BK156.out⟩, ⟨by repeat (first | (with_reducible first | exact HB.out | apply below_alloc | apply pw_below_drewN | apply below_drew1 | refine below_set ?_ GE139.out | refine below_set ?_ GE140.out | refine below_set ?_ GE149.out | refine below_set ?_ GE156.out) | exact HB.out)⟩⟩
                          · rw [if_neg c52] at H
                            exact absurd H (by simp)
                      · replace c45 := Bool.eq_false_iff.mpr c45
                        subst c45
                        have H1 : (binnaclelaw20_CreditMeets.j1 k1 l2 (IntKind.u64.wrap (1 + (IntKind.u64.wrap (Int.tmod a0 300)))) (IntKind.u64.wrap (x10_1 + t148)) l1 (l1.length : Int) x30_1 false t157 t158 t159 t160 t161 t145 t146 t147) = some r := by rw [if_neg (show ¬ (false = true) by decide)] at H; exact H
                        clear H
                        have H := H1
                        clear H1
                        have H' := Aside0.mk H
                        clear H
                        have hnb58 := NB139_140.out
                        have hnc58 := NB140_139.out
                        have hnb59 := NB139_149.out
                        have hnc59 := NB149_139.out
                        have hnb60 := NB139_156.out
                        have hnc60 := NB156_139.out
                        have hcz61_0 : w42.cell? ⟨gb139, 0, none⟩ = some (.int .u64 x140000_1) := (blk_cell BK139.out 0).trans rfl
                        have hcz61_1 : w42.cell? ⟨gb139, 1, none⟩ = some (.int .u64 x140001_1) := (blk_cell BK139.out 1).trans rfl
                        have hcz61_2 : w42.cell? ⟨gb139, 2, none⟩ = some (.int .u64 x140002_1) := (blk_cell BK139.out 2).trans rfl
                        have hcz61_3 : w42.cell? ⟨gb139, 3, none⟩ = some (.int .u64 x140003_1) := (blk_cell BK139.out 3).trans rfl
                        have hcz61_4 : w42.cell? ⟨gb139, 4, none⟩ = some (.int .u64 x140004_1) := (blk_cell BK139.out 4).trans rfl
                        have hfz61_0 := blk_frozen BK139.out 0
                        have hfz61_1 := blk_frozen BK139.out 1
                        have hfz61_2 := blk_frozen BK139.out 2
                        have hfz61_3 := blk_frozen BK139.out 3
                        have hfz61_4 := blk_frozen BK139.out 4
                        go_wp2_with (first | ((with_reducible refine gate_callee (f := 34) rfl ?_); refine goesL_ (some 60) rfl rfl Try.func34 (by kernel_rfl) rfl #[.agg #[.int .u64 t157, .int .u64 t158, .int .u64 t159, .int .u64 t160, .int .u64 t161]] rfl (by (try simp only [List.map_toArray, List.map_cons, List.map_nil]); first | done | rfl | (simp only [List.length_drop, List.length_take]; rfl)) ?_; (with_reducible refine (credit_Given_Wants.calls t157 t158 t159 t160 t161 false _ A44.out).mono ?_); rintro e w62 ⟨rfl, hb⟩; refine ⟨_, rfl, ?_⟩; have n0_ := Aside0.mk (blk_below (g := gb139) (o := .cells #[.int .u64 t157, .int .u64 t158, .int .u64 t159, .int .u64 t160, .int .u64 t161] 51 (0, 0)) (by (with_reducible repeat (first | refine blk_drewN ?_ _ | refine blk_drew ?_ | refine blk_alloc ?_ _)); refine blk_put (cs := #[.int .u64 t157, .int .u64 t158, .int .u64 t159, .int .u64 t160, .int .u64 x140004_1]) ?_ 4 _ rfl; (with_reducible repeat (first | refine blk_drewN ?_ _ | refine blk_drew ?_ | refine blk_alloc ?_ _)); refine blk_put (cs := #[.int .u64 t157, .int .u64 t158, .int .u64 t159, .int .u64 x140003_1, .int .u64 x140004_1]) ?_ 3 _ rfl; (with_reducible repeat (first | refine blk_drewN ?_ _ | refine blk_drew ?_ | refine blk_alloc ?_ _)); refine blk_put (cs := #[.int .u64 t157, .int .u64 t158, .int .u64 x140002_1, .int .u64 x140003_1, .int .u64 x140004_1]) ?_ 2 _ rfl; (with_reducible repeat (first | refine blk_drewN ?_ _ | refine blk_drew ?_ | refine blk_alloc ?_ _)); refine blk_put (cs := #[.int .u64 t157, .int .u64 x140001_1, .int .u64 x140002_1, .int .u64 x140003_1, .int .u64 x140004_1]) ?_ 1 _ rfl; (with_reducible repeat (first | refine blk_drewN ?_ _ | refine blk_drew ?_ | refine blk_alloc ?_ _)); refine blk_put (cs := #[.int .u64 x140000_1, .int .u64 x140001_1, .int .u64 x140002_1, .int .u64 x140003_1, .int .u64 x140004_1]) ?_ 0 _ rfl; (with_reducible repeat (first | refine blk_drewN ?_ _ | refine blk_drew ?_ | refine blk_alloc ?_ _)); exact BK139.out) hb); have n1_ := Aside0.mk (blk_below (g := gb140) (o := .cells #[.int .u64 t145, .int .u64 t146, .int .u64 t147] 61 (0, 0)) (by (with_reducible repeat (first | refine blk_drewN ?_ _ | refine blk_drew ?_ | refine blk_alloc ?_ _)); refine blk_far ?_ NB140_139.out _; (with_reducible repeat (first | refine blk_drewN ?_ _ | refine blk_drew ?_ | refine blk_alloc ?_ _)); refine blk_far ?_ NB140_139.out _; (with_reducible repeat (first | refine blk_drewN ?_ _ | refine blk_drew ?_ | refine blk_alloc ?_ _)); refine blk_far ?_ NB140_139.out _; (with_reducible repeat (first | refine blk_drewN ?_ _ | refine blk_drew ?_ | refine blk_alloc ?_ _)); refine blk_far ?_ NB140_139.out _; (with_reducible repeat (first | refine blk_drewN ?_ _ | refine blk_drew ?_ | refine blk_alloc ?_ _)); refine blk_far ?_ NB140_139.out _; (with_reducible repeat (first | refine blk_drewN ?_ _ | refine blk_drew ?_ | refine blk_alloc ?_ _)); exact BK140.out) hb); have n2_ := Aside0.mk (blk_below (g := gb149) (o := .cells #[.int .u64 t145, .int .u64 t146, .int .u64 t147] 61 (0, 0)) (by (with_reducible repeat (first | refine blk_drewN ?_ _ | refine blk_drew ?_ | refine blk_alloc ?_ _)); refine blk_far ?_ NB149_139.out _; (with_reducible repeat (first | refine blk_drewN ?_ _ | refine blk_drew ?_ | refine blk_alloc ?_ _)); refine blk_far ?_ NB149_139.out _; (with_reducible repeat (first | refine blk_drewN ?_ _ | refine blk_drew ?_ | refine blk_alloc ?_ _)); refine blk_far ?_ NB149_139.out _; (with_reducible repeat (first | refine blk_drewN ?_ _ | refine blk_drew ?_ | refine blk_alloc ?_ _)); refine blk_far ?_ NB149_139.out _; (with_reducible repeat (first | refine blk_drewN ?_ _ | refine blk_drew ?_ | refine blk_alloc ?_ _)); refine blk_far ?_ NB149_139.out _; (with_reducible repeat (first | refine blk_drewN ?_ _ | refine blk_drew ?_ | refine blk_alloc ?_ _)); exact BK149.out) hb); have n3_ := Aside0.mk (blk_below (g := gb156) (o := .cells #[.int .u64 t150, .int .u64 t151, .int .u64 t152, .int .u64 t153, .int .u64 t154] 51 (0, 0)) (by (with_reducible repeat (first | refine blk_drewN ?_ _ | refine blk_drew ?_ | refine blk_alloc ?_ _)); refine blk_far ?_ NB156_139.out _; (with_reducible repeat (first | refine blk_drewN ?_ _ | refine blk_drew ?_ | refine blk_alloc ?_ _)); refine blk_far ?_ NB156_139.out _; (with_reducible repeat (first | refine blk_drewN ?_ _ | refine blk_drew ?_ | refine blk_alloc ?_ _)); refine blk_far ?_ NB156_139.out _; (with_reducible repeat (first | refine blk_drewN ?_ _ | refine blk_drew ?_ | refine blk_alloc ?_ _)); refine blk_far ?_ NB156_139.out _; (with_reducible repeat (first | refine blk_drewN ?_ _ | refine blk_drew ?_ | refine blk_alloc ?_ _)); refine blk_far ?_ NB156_139.out _; (with_reducible repeat (first | refine blk_drewN ?_ _ | refine blk_drew ?_ | refine blk_alloc ?_ _)); exact BK156.out) hb); have n4_ := Aside0.mk (below_step (by repeat (first | (with_reducible first | exact HB.out | apply below_alloc | apply pw_below_drewN | apply below_drew1 | refine below_set ?_ GE139.out | refine below_set ?_ GE140.out | refine below_set ?_ GE149.out | refine below_set ?_ GE156.out) | exact HB.out)) hb); clear BK139; clear BK140; clear BK149; clear BK156; clear HB; have BK139 := n0_; have BK140 := n1_; have BK149 := n2_; have BK156 := n3_; have HB := n4_; clear n0_ n1_ n2_ n3_ n4_; (try clear hb); (try clear hb2); (try clear hk); (try clear hi)))
                        go_meet
                        case rel => exact ⟨_, (false), (by first | rfl | (simp; done) | (simp [*]; done)), H', ⟨by have := HK1.out; first | omega | exact Nat.le_refl _⟩, ⟨by (with_reducible repeat (first | refine blk_drewN ?_ _ | refine blk_drew ?_ | refine blk_alloc ?_ _)); exact BK139.out⟩, ⟨by (with_reducible repeat (first | refine blk_drewN ?_ _ | refine blk_drew ?_ | refine blk_alloc ?_ _)); exact BK140.out⟩, ⟨by (with_reducible repeat (first | refine blk_drewN ?_ _ | refine blk_drew ?_ | refine blk_alloc ?_ _)); exact BK149.out⟩, ⟨by (with_reducible repeat (first | refine blk_drewN ?_ _ | refine blk_drew ?_ | refine blk_alloc ?_ _)); exact BK156.out⟩, ⟨by repeat (first | (with_reducible first | exact HB.out | apply below_alloc | apply pw_below_drewN | apply below_drew1 | refine below_set ?_ GE139.out | refine below_set ?_ GE140.out | refine below_set ?_ GE149.out | refine below_set ?_ GE156.out) | exact HB.out)⟩⟩
                    case rest =>
                      clear HC26
                      try clear c1
                      try clear p1
                      try clear q1
                      try clear hx1
                      try clear c2
                      try clear p2
                      try clear c3
                      try clear c4
                      try clear c5
                      try clear c6
                      try clear c8
                      try clear c14
                      try clear p14
                      try clear q14
                      try clear hx14
                      try clear p16
                      try clear q16
                      try clear hx16
                      try clear c18
                      try clear c18b0
                      try clear c19
                      try clear c19b0
                      try clear c20
                      try clear c20b0
                      try clear c21
                      try clear c21b0
                      try clear c24
                      try clear c24b0
                      try clear c24b1
                      try clear c26
                      try clear c27
                      try clear c29
                      try clear c30
                      try clear c31
                      try clear c32
                      try clear c34
                      try clear c35
                      try clear c36
                      try clear c38
                      try clear c39
                      try clear c40
                      try clear c45
                      try clear c46
                      try clear c46b0
                      try clear c47
                      try clear c48
                      try clear c49
                      try clear c52
                      try clear c52b0
                      try clear c53
                      try clear c54
                      try clear c55
                      try clear c58
                      try clear c59
                      try clear c60
                      try clear hcz12_0
                      try clear hcz12_1
                      try clear hcz12_2
                      try clear hcz12_3
                      try clear hcz12_4
                      try clear hcz15_0
                      try clear hcz15_1
                      try clear hcz15_2
                      try clear hcz17_0
                      try clear hcz17_1
                      try clear hcz17_2
                      try clear hcz28_0
                      try clear hcz28_1
                      try clear hcz28_2
                      try clear hcz33_0
                      try clear hcz33_1
                      try clear hcz33_2
                      try clear hcz34_0
                      try clear hcz34_1
                      try clear hcz34_2
                      try clear hcz35_0
                      try clear hcz35_1
                      try clear hcz35_2
                      try clear hcz35_3
                      try clear hcz35_4
                      try clear hcz41_0
                      try clear hcz41_1
                      try clear hcz41_2
                      try clear hcz41_3
                      try clear hcz41_4
                      try clear hcz43_0
                      try clear hcz43_1
                      try clear hcz43_2
                      try clear hcz43_3
                      try clear hcz43_4
                      try clear hcz50_0
                      try clear hcz50_1
                      try clear hcz50_2
                      try clear hcz50_3
                      try clear hcz50_4
                      try clear hcz56_0
                      try clear hcz56_1
                      try clear hcz56_2
                      try clear hcz56_3
                      try clear hcz56_4
                      try clear hcz61_0
                      try clear hcz61_1
                      try clear hcz61_2
                      try clear hcz61_3
                      try clear hcz61_4
                      try clear hfz12_0
                      try clear hfz12_1
                      try clear hfz12_2
                      try clear hfz12_3
                      try clear hfz12_4
                      try clear hfz15_0
                      try clear hfz15_1
                      try clear hfz15_2
                      try clear hfz17_0
                      try clear hfz17_1
                      try clear hfz17_2
                      try clear hfz28_0
                      try clear hfz28_1
                      try clear hfz28_2
                      try clear hfz33_0
                      try clear hfz33_1
                      try clear hfz33_2
                      try clear hfz34_0
                      try clear hfz34_1
                      try clear hfz34_2
                      try clear hfz35_0
                      try clear hfz35_1
                      try clear hfz35_2
                      try clear hfz35_3
                      try clear hfz35_4
                      try clear hfz41_0
                      try clear hfz41_1
                      try clear hfz41_2
                      try clear hfz41_3
                      try clear hfz41_4
                      try clear hfz43_0
                      try clear hfz43_1
                      try clear hfz43_2
                      try clear hfz43_3
                      try clear hfz43_4
                      try clear hfz50_0
                      try clear hfz50_1
                      try clear hfz50_2
                      try clear hfz50_3
                      try clear hfz50_4
                      try clear hfz56_0
                      try clear hfz56_1
                      try clear hfz56_2
                      try clear hfz56_3
                      try clear hfz56_4
                      try clear hfz61_0
                      try clear hfz61_1
                      try clear hfz61_2
                      try clear hfz61_3
                      try clear hfz61_4
                      try clear hx144_0
                      try clear hx163_0
                      try clear p144
                      try clear p163
                      try clear p2
                      try clear q144
                      try clear q163
                      obtain ⟨kq, x72_25, rfl, HA, HJ25, BK139, BK140, BK149, BK156, HB⟩ := hcut
                      cases kq with
                      | zero => exact absurd HA.out (by simp [binnaclelaw20_CreditMeets.j1])
                      | succ kj25 =>
                        have H := HA.out
                        clear HA
                        simp only [binnaclelaw20_CreditMeets.j1] at H
                        by_cases c63 : x72_25 = true
                        · subst c63
                          have H1 : ((credit_Given_Told.f t157 t158 t159 t160 t161).bind fun bt164 => ((credit_Got_Raise.f t145 t146 t147 bt164.1).bind fun bt169 => (if bt164.2.1 = (IntKind.u64.wrap (x10_1 + t148)) then (if bt169.2.1 = (IntKind.u64.wrap (x10_1 + t148)) then (if bt169.1 > bt164.1 then (some false) else (binnaclelaw20_CreditMeets.l0 kj25 l2 (IntKind.u64.wrap (1 + (IntKind.u64.wrap (Int.tmod a0 300)))) (IntKind.u64.wrap (x10_1 + t148)) l1 (l1.length : Int) (wrap64 (x30_1 + 1)) bt164.1 bt164.2.1 bt164.2.2.1 bt164.2.2.2.1 bt164.2.2.2.2 bt169.1 bt169.2.1 bt169.2.2)) else (some false)) else (some false)))) = some r := by rw [if_pos rfl] at H; exact H
                          clear H
                          have H := H1
                          clear H1
                          replace H := Option.bind_eq_some_iff.mp H
                          obtain ⟨⟨t164, t165, t166, t167, t168⟩, A640, H⟩ := H
                          replace H : ((credit_Got_Raise.f t145 t146 t147 t164).bind fun bt169 => (if t165 = (IntKind.u64.wrap (x10_1 + t148)) then (if bt169.2.1 = (IntKind.u64.wrap (x10_1 + t148)) then (if bt169.1 > t164 then (some false) else (binnaclelaw20_CreditMeets.l0 kj25 l2 (IntKind.u64.wrap (1 + (IntKind.u64.wrap (Int.tmod a0 300)))) (IntKind.u64.wrap (x10_1 + t148)) l1 (l1.length : Int) (wrap64 (x30_1 + 1)) t164 t165 t166 t167 t168 bt169.1 bt169.2.1 bt169.2.2)) else (some false)) else (some false))) = some r := H
                          have A64 := Aside0.mk A640
                          clear A640
                          replace H := Option.bind_eq_some_iff.mp H
                          obtain ⟨⟨t169, t170, t171⟩, A650, H⟩ := H
                          replace H : (if t165 = (IntKind.u64.wrap (x10_1 + t148)) then (if t170 = (IntKind.u64.wrap (x10_1 + t148)) then (if t169 > t164 then (some false) else (binnaclelaw20_CreditMeets.l0 kj25 l2 (IntKind.u64.wrap (1 + (IntKind.u64.wrap (Int.tmod a0 300)))) (IntKind.u64.wrap (x10_1 + t148)) l1 (l1.length : Int) (wrap64 (x30_1 + 1)) t164 t165 t166 t167 t168 t169 t170 t171)) else (some false)) else (some false)) = some r := H
                          have A65 := Aside0.mk A650
                          clear A650
                          by_cases c66 : t165 = (IntKind.u64.wrap (x10_1 + t148))
                          · rw [if_pos c66] at H
                            have c66b0 : (t165 == (IntKind.u64.wrap (x10_1 + t148))) = true := beq_iff_eq.mpr c66
                            have c66b1 : (t165 != (IntKind.u64.wrap (x10_1 + t148))) = false := bne_eq_false_iff_eq.mpr c66
                            clear c66
                            by_cases c67 : t170 = (IntKind.u64.wrap (x10_1 + t148))
                            · rw [if_pos c67] at H
                              have c67b0 : (t170 == (IntKind.u64.wrap (x10_1 + t148))) = true := beq_iff_eq.mpr c67
                              have c67b1 : (t170 != (IntKind.u64.wrap (x10_1 + t148))) = false := bne_eq_false_iff_eq.mpr c67
                              clear c67
                              by_cases c68 : t169 > t164
                              · rw [if_pos c68] at H
                                have c68b0 : decide (t164 < t169) = true := decide_eq_true c68
                                clear c68
                                obtain rfl := Option.some.inj H
                                have hnb69 := NB139_140.out
                                have hnc69 := NB140_139.out
                                have hnb70 := NB139_149.out
                                have hnc70 := NB149_139.out
                                have hnb71 := NB139_156.out
                                have hnc71 := NB156_139.out
                                have hcz72_0 : wc.cell? ⟨gb139, 0, none⟩ = some (.int .u64 t157) := (blk_cell BK139.out 0).trans rfl
                                have hcz72_1 : wc.cell? ⟨gb139, 1, none⟩ = some (.int .u64 t158) := (blk_cell BK139.out 1).trans rfl
                                have hcz72_2 : wc.cell? ⟨gb139, 2, none⟩ = some (.int .u64 t159) := (blk_cell BK139.out 2).trans rfl
                                have hcz72_3 : wc.cell? ⟨gb139, 3, none⟩ = some (.int .u64 t160) := (blk_cell BK139.out 3).trans rfl
                                have hcz72_4 : wc.cell? ⟨gb139, 4, none⟩ = some (.int .u64 t161) := (blk_cell BK139.out 4).trans rfl
                                have hfz72_0 := blk_frozen BK139.out 0
                                have hfz72_1 := blk_frozen BK139.out 1
                                have hfz72_2 := blk_frozen BK139.out 2
                                have hfz72_3 := blk_frozen BK139.out 3
                                have hfz72_4 := blk_frozen BK139.out 4
                                go_wp2_with (first | ((with_reducible refine gate_callee (f := 31) rfl ?_); refine goesL_ (some 74) rfl rfl Try.func31 (by kernel_rfl) rfl #[.agg #[.int .u64 t157, .int .u64 t158, .int .u64 t159, .int .u64 t160, .int .u64 t161]] rfl (by (try simp only [List.map_toArray, List.map_cons, List.map_nil]); first | done | rfl | (simp only [List.length_drop, List.length_take]; rfl)) ?_; (with_reducible refine (credit_Given_Told.calls t157 t158 t159 t160 t161 t164 t165 t166 t167 t168 _ A64.out).mono ?_); rintro e w73 ⟨rfl, hb⟩; refine ⟨_, rfl, ?_⟩; have n0_ := Aside0.mk (blk_below (g := gb139) (o := .cells #[.int .u64 t157, .int .u64 t158, .int .u64 t159, .int .u64 t160, .int .u64 t161] 51 (0, 0)) (by (with_reducible repeat (first | refine blk_drewN ?_ _ | refine blk_drew ?_ | refine blk_alloc ?_ _)); exact BK139.out) hb); have n1_ := Aside0.mk (blk_below (g := gb140) (o := .cells #[.int .u64 t145, .int .u64 t146, .int .u64 t147] 61 (0, 0)) (by (with_reducible repeat (first | refine blk_drewN ?_ _ | refine blk_drew ?_ | refine blk_alloc ?_ _)); exact BK140.out) hb); have n2_ := Aside0.mk (blk_below (g := gb149) (o := .cells #[.int .u64 t145, .int .u64 t146, .int .u64 t147] 61 (0, 0)) (by (with_reducible repeat (first | refine blk_drewN ?_ _ | refine blk_drew ?_ | refine blk_alloc ?_ _)); exact BK149.out) hb); have n3_ := Aside0.mk (blk_below (g := gb156) (o := .cells #[.int .u64 t150, .int .u64 t151, .int .u64 t152, .int .u64 t153, .int .u64 t154] 51 (0, 0)) (by (with_reducible repeat (first | refine blk_drewN ?_ _ | refine blk_drew ?_ | refine blk_alloc ?_ _)); exact BK156.out) hb); have n4_ := Aside0.mk (below_step (by repeat (first | (with_reducible first | exact HB.out | apply below_alloc | apply pw_below_drewN | apply below_drew1 | refine below_set ?_ GE139.out | refine below_set ?_ GE140.out | refine below_set ?_ GE149.out | refine below_set ?_ GE156.out) | exact HB.out)) hb); clear BK139; clear BK140; clear BK149; clear BK156; clear HB; have BK139 := n0_; have BK140 := n1_; have BK149 := n2_; have BK156 := n3_; have HB := n4_; clear n0_ n1_ n2_ n3_ n4_; (try clear hb); (try clear hb2); (try clear hk); (try clear hi); have hcz74_0 : w73.cell? ⟨gb139, 0, none⟩ = some (.int .u64 t157) := (blk_cell BK139.out 0).trans rfl; have hcz74_1 : w73.cell? ⟨gb139, 1, none⟩ = some (.int .u64 t158) := (blk_cell BK139.out 1).trans rfl; have hcz74_2 : w73.cell? ⟨gb139, 2, none⟩ = some (.int .u64 t159) := (blk_cell BK139.out 2).trans rfl; have hcz74_3 : w73.cell? ⟨gb139, 3, none⟩ = some (.int .u64 t160) := (blk_cell BK139.out 3).trans rfl; have hcz74_4 : w73.cell? ⟨gb139, 4, none⟩ = some (.int .u64 t161) := (blk_cell BK139.out 4).trans rfl; have hfz74_0 := blk_frozen BK139.out 0; have hfz74_1 := blk_frozen BK139.out 1; have hfz74_2 := blk_frozen BK139.out 2; have hfz74_3 := blk_frozen BK139.out 3; have hfz74_4 := blk_frozen BK139.out 4; have hnb75 := NB140_149.out; have hnc75 := NB149_140.out; have hnb76 := NB140_156.out; have hnc76 := NB156_140.out; have hcz77_0 : w73.cell? ⟨gb140, 0, none⟩ = some (.int .u64 t145) := (blk_cell BK140.out 0).trans rfl; have hcz77_1 : w73.cell? ⟨gb140, 1, none⟩ = some (.int .u64 t146) := (blk_cell BK140.out 1).trans rfl; have hcz77_2 : w73.cell? ⟨gb140, 2, none⟩ = some (.int .u64 t147) := (blk_cell BK140.out 2).trans rfl; have hfz77_0 := blk_frozen BK140.out 0; have hfz77_1 := blk_frozen BK140.out 1; have hfz77_2 := blk_frozen BK140.out 2) | ((with_reducible refine gate_callee (f := 35) rfl ?_); refine goesL_ (some 78) rfl rfl Try.func35 (by kernel_rfl) rfl #[.agg #[.int .u64 t145, .int .u64 t146, .int .u64 t147], .int .u64 t164] rfl (by (try simp only [List.map_toArray, List.map_cons, List.map_nil]); first | done | rfl | (simp only [List.length_drop, List.length_take]; rfl)) ?_; (with_reducible refine (credit_Got_Raise.calls t145 t146 t147 t164 t169 t170 t171 _ A65.out).mono ?_); rintro e w78 ⟨rfl, hb⟩; refine ⟨_, rfl, ?_⟩; have n0_ := Aside0.mk (blk_below (g := gb139) (o := .cells #[.int .u64 t164, .int .u64 t165, .int .u64 t166, .int .u64 t167, .int .u64 t168] 51 (0, 0)) (by (with_reducible repeat (first | refine blk_drewN ?_ _ | refine blk_drew ?_ | refine blk_alloc ?_ _)); refine blk_put (cs := #[.int .u64 t164, .int .u64 t165, .int .u64 t166, .int .u64 t167, .int .u64 t161]) ?_ 4 _ rfl; (with_reducible repeat (first | refine blk_drewN ?_ _ | refine blk_drew ?_ | refine blk_alloc ?_ _)); refine blk_put (cs := #[.int .u64 t164, .int .u64 t165, .int .u64 t166, .int .u64 t160, .int .u64 t161]) ?_ 3 _ rfl; (with_reducible repeat (first | refine blk_drewN ?_ _ | refine blk_drew ?_ | refine blk_alloc ?_ _)); refine blk_put (cs := #[.int .u64 t164, .int .u64 t165, .int .u64 t159, .int .u64 t160, .int .u64 t161]) ?_ 2 _ rfl; (with_reducible repeat (first | refine blk_drewN ?_ _ | refine blk_drew ?_ | refine blk_alloc ?_ _)); refine blk_put (cs := #[.int .u64 t164, .int .u64 t158, .int .u64 t159, .int .u64 t160, .int .u64 t161]) ?_ 1 _ rfl; (with_reducible repeat (first | refine blk_drewN ?_ _ | refine blk_drew ?_ | refine blk_alloc ?_ _)); refine blk_put (cs := #[.int .u64 t157, .int .u64 t158, .int .u64 t159, .int .u64 t160, .int .u64 t161]) ?_ 0 _ rfl; (with_reducible repeat (first | refine blk_drewN ?_ _ | refine blk_drew ?_ | refine blk_alloc ?_ _)); exact BK139.out) hb); have n1_ := Aside0.mk (blk_below (g := gb140) (o := .cells #[.int .u64 t145, .int .u64 t146, .int .u64 t147] 61 (0, 0)) (by (with_reducible repeat (first | refine blk_drewN ?_ _ | refine blk_drew ?_ | refine blk_alloc ?_ _)); refine blk_far ?_ NB140_139.out _; (with_reducible repeat (first | refine blk_drewN ?_ _ | refine blk_drew ?_ | refine blk_alloc ?_ _)); refine blk_far ?_ NB140_139.out _; (with_reducible repeat (first | refine blk_drewN ?_ _ | refine blk_drew ?_ | refine blk_alloc ?_ _)); refine blk_far ?_ NB140_139.out _; (with_reducible repeat (first | refine blk_drewN ?_ _ | refine blk_drew ?_ | refine blk_alloc ?_ _)); refine blk_far ?_ NB140_139.out _; (with_reducible repeat (first | refine blk_drewN ?_ _ | refine blk_drew ?_ | refine blk_alloc ?_ _)); refine blk_far ?_ NB140_139.out _; (with_reducible repeat (first | refine blk_drewN ?_ _ | refine blk_drew ?_ | refine blk_alloc ?_ _)); exact BK140.out) hb); have n2_ := Aside0.mk (blk_below (g := gb149) (o := .cells #[.int .u64 t145, .int .u64 t146, .int .u64 t147] 61 (0, 0)) (by (with_reducible repeat (first | refine blk_drewN ?_ _ | refine blk_drew ?_ | refine blk_alloc ?_ _)); refine blk_far ?_ NB149_139.out _; (with_reducible repeat (first | refine blk_drewN ?_ _ | refine blk_drew ?_ | refine blk_alloc ?_ _)); refine blk_far ?_ NB149_139.out _; (with_reducible repeat (first | refine blk_drewN ?_ _ | refine blk_drew ?_ | refine blk_alloc ?_ _)); refine blk_far ?_ NB149_139.out _; (with_reducible repeat (first | refine blk_drewN ?_ _ | refine blk_drew ?_ | refine blk_alloc ?_ _)); refine blk_far ?_ NB149_139.out _; (with_reducible repeat (first | refine blk_drewN ?_ _ | refine blk_drew ?_ | refine blk_alloc ?_ _)); refine blk_far ?_ NB149_139.out _; (with_reducible repeat (first | refine blk_drewN ?_ _ | refine blk_drew ?_ | refine blk_alloc ?_ _)); exact BK149.out) hb); have n3_ := Aside0.mk (blk_below (g := gb156) (o := .cells #[.int .u64 t150, .int .u64 t151, .int .u64 t152, .int .u64 t153, .int .u64 t154] 51 (0, 0)) (by (with_reducible repeat (first | refine blk_drewN ?_ _ | refine blk_drew ?_ | refine blk_alloc ?_ _)); refine blk_far ?_ NB156_139.out _; (with_reducible repeat (first | refine blk_drewN ?_ _ | refine blk_drew ?_ | refine blk_alloc ?_ _)); refine blk_far ?_ NB156_139.out _; (with_reducible repeat (first | refine blk_drewN ?_ _ | refine blk_drew ?_ | refine blk_alloc ?_ _)); refine blk_far ?_ NB156_139.out _; (with_reducible repeat (first | refine blk_drewN ?_ _ | refine blk_drew ?_ | refine blk_alloc ?_ _)); refine blk_far ?_ NB156_139.out _; (with_reducible repeat (first | refine blk_drewN ?_ _ | refine blk_drew ?_ | refine blk_alloc ?_ _)); refine blk_far ?_ NB156_139.out _; (with_reducible repeat (first | refine blk_drewN ?_ _ | refine blk_drew ?_ | refine blk_alloc ?_ _)); exact BK156.out) hb); have n4_ := Aside0.mk (below_step (by repeat (first | (with_reducible first | exact HB.out | apply below_alloc | apply pw_below_drewN | apply below_drew1 | refine below_set ?_ GE139.out | refine below_set ?_ GE140.out | refine below_set ?_ GE149.out | refine below_set ?_ GE156.out) | exact HB.out)) hb); clear BK139; clear BK140; clear BK149; clear BK156; clear HB; have BK139 := n0_; have BK140 := n1_; have BK149 := n2_; have BK156 := n3_; have HB := n4_; clear n0_ n1_ n2_ n3_ n4_; (try clear hb); (try clear hb2); (try clear hk); (try clear hi); have hcz79_0 : w78.cell? ⟨gb140, 0, none⟩ = some (.int .u64 t145) := (blk_cell BK140.out 0).trans rfl; have hcz79_1 : w78.cell? ⟨gb140, 1, none⟩ = some (.int .u64 t146) := (blk_cell BK140.out 1).trans rfl; have hcz79_2 : w78.cell? ⟨gb140, 2, none⟩ = some (.int .u64 t147) := (blk_cell BK140.out 2).trans rfl; have hfz79_0 := blk_frozen BK140.out 0; have hfz79_1 := blk_frozen BK140.out 1; have hfz79_2 := blk_frozen BK140.out 2; have hcz80_0 : w78.cell? ⟨gb139, 0, none⟩ = some (.int .u64 t164) := (blk_cell BK139.out 0).trans rfl; have hcz80_1 : w78.cell? ⟨gb139, 1, none⟩ = some (.int .u64 t165) := (blk_cell BK139.out 1).trans rfl; have hcz80_2 : w78.cell? ⟨gb139, 2, none⟩ = some (.int .u64 t166) := (blk_cell BK139.out 2).trans rfl; have hcz80_3 : w78.cell? ⟨gb139, 3, none⟩ = some (.int .u64 t167) := (blk_cell BK139.out 3).trans rfl; have hcz80_4 : w78.cell? ⟨gb139, 4, none⟩ = some (.int .u64 t168) := (blk_cell BK139.out 4).trans rfl; have hfz80_0 := blk_frozen BK139.out 0; have hfz80_1 := blk_frozen BK139.out 1; have hfz80_2 := blk_frozen BK139.out 2; have hfz80_3 := blk_frozen BK139.out 3; have hfz80_4 := blk_frozen BK139.out 4))
                                go_ret
                                exact ⟨by first | rfl | (simp [errW_none, errW_some] <;> rfl) | (simp [*, errW_none, errW_some] <;> rfl), by repeat (first | (with_reducible first | exact HB.out | apply below_alloc | apply pw_below_drewN | apply below_drew1 | refine below_set ?_ GE139.out | refine below_set ?_ GE140.out | refine below_set ?_ GE149.out | refine below_set ?_ GE156.out) | exact HB.out)⟩
                              · rw [if_neg c68] at H
                                have c68b0 : decide (t164 < t169) = false := decide_eq_false c68
                                clear c68
                                have H' := Aside0.mk H
                                clear H
                                have hnb81 := NB139_140.out
                                have hnc81 := NB140_139.out
                                have hnb82 := NB139_149.out
                                have hnc82 := NB149_139.out
                                have hnb83 := NB139_156.out
                                have hnc83 := NB156_139.out
                                have hcz84_0 : wc.cell? ⟨gb139, 0, none⟩ = some (.int .u64 t157) := (blk_cell BK139.out 0).trans rfl
                                have hcz84_1 : wc.cell? ⟨gb139, 1, none⟩ = some (.int .u64 t158) := (blk_cell BK139.out 1).trans rfl
                                have hcz84_2 : wc.cell? ⟨gb139, 2, none⟩ = some (.int .u64 t159) := (blk_cell BK139.out 2).trans rfl
                                have hcz84_3 : wc.cell? ⟨gb139, 3, none⟩ = some (.int .u64 t160) := (blk_cell BK139.out 3).trans rfl
                                have hcz84_4 : wc.cell? ⟨gb139, 4, none⟩ = some (.int .u64 t161) := (blk_cell BK139.out 4).trans rfl
                                have hfz84_0 := blk_frozen BK139.out 0
                                have hfz84_1 := blk_frozen BK139.out 1
                                have hfz84_2 := blk_frozen BK139.out 2
                                have hfz84_3 := blk_frozen BK139.out 3
                                have hfz84_4 := blk_frozen BK139.out 4
                                go_wp2_with (first | ((with_reducible refine gate_callee (f := 31) rfl ?_); refine goesL_ (some 74) rfl rfl Try.func31 (by kernel_rfl) rfl #[.agg #[.int .u64 t157, .int .u64 t158, .int .u64 t159, .int .u64 t160, .int .u64 t161]] rfl (by (try simp only [List.map_toArray, List.map_cons, List.map_nil]); first | done | rfl | (simp only [List.length_drop, List.length_take]; rfl)) ?_; (with_reducible refine (credit_Given_Told.calls t157 t158 t159 t160 t161 t164 t165 t166 t167 t168 _ A64.out).mono ?_); rintro e w85 ⟨rfl, hb⟩; refine ⟨_, rfl, ?_⟩; have n0_ := Aside0.mk (blk_below (g := gb139) (o := .cells #[.int .u64 t157, .int .u64 t158, .int .u64 t159, .int .u64 t160, .int .u64 t161] 51 (0, 0)) (by (with_reducible repeat (first | refine blk_drewN ?_ _ | refine blk_drew ?_ | refine blk_alloc ?_ _)); exact BK139.out) hb); have n1_ := Aside0.mk (blk_below (g := gb140) (o := .cells #[.int .u64 t145, .int .u64 t146, .int .u64 t147] 61 (0, 0)) (by (with_reducible repeat (first | refine blk_drewN ?_ _ | refine blk_drew ?_ | refine blk_alloc ?_ _)); exact BK140.out) hb); have n2_ := Aside0.mk (blk_below (g := gb149) (o := .cells #[.int .u64 t145, .int .u64 t146, .int .u64 t147] 61 (0, 0)) (by (with_reducible repeat (first | refine blk_drewN ?_ _ | refine blk_drew ?_ | refine blk_alloc ?_ _)); exact BK149.out) hb); have n3_ := Aside0.mk (blk_below (g := gb156) (o := .cells #[.int .u64 t150, .int .u64 t151, .int .u64 t152, .int .u64 t153, .int .u64 t154] 51 (0, 0)) (by (with_reducible repeat (first | refine blk_drewN ?_ _ | refine blk_drew ?_ | refine blk_alloc ?_ _)); exact BK156.out) hb); have n4_ := Aside0.mk (below_step (by repeat (first | (with_reducible first | exact HB.out | apply below_alloc | apply pw_below_drewN | apply below_drew1 | refine below_set ?_ GE139.out | refine below_set ?_ GE140.out | refine below_set ?_ GE149.out | refine below_set ?_ GE156.out) | exact HB.out)) hb); clear BK139; clear BK140; clear BK149; clear BK156; clear HB; have BK139 := n0_; have BK140 := n1_; have BK149 := n2_; have BK156 := n3_; have HB := n4_; clear n0_ n1_ n2_ n3_ n4_; (try clear hb); (try clear hb2); (try clear hk); (try clear hi); have hcz86_0 : w85.cell? ⟨gb139, 0, none⟩ = some (.int .u64 t157) := (blk_cell BK139.out 0).trans rfl; have hcz86_1 : w85.cell? ⟨gb139, 1, none⟩ = some (.int .u64 t158) := (blk_cell BK139.out 1).trans rfl; have hcz86_2 : w85.cell? ⟨gb139, 2, none⟩ = some (.int .u64 t159) := (blk_cell BK139.out 2).trans rfl; have hcz86_3 : w85.cell? ⟨gb139, 3, none⟩ = some (.int .u64 t160) := (blk_cell BK139.out 3).trans rfl; have hcz86_4 : w85.cell? ⟨gb139, 4, none⟩ = some (.int .u64 t161) := (blk_cell BK139.out 4).trans rfl; have hfz86_0 := blk_frozen BK139.out 0; have hfz86_1 := blk_frozen BK139.out 1; have hfz86_2 := blk_frozen BK139.out 2; have hfz86_3 := blk_frozen BK139.out 3; have hfz86_4 := blk_frozen BK139.out 4; have hnb87 := NB140_149.out; have hnc87 := NB149_140.out; have hnb88 := NB140_156.out; have hnc88 := NB156_140.out; have hcz89_0 : w85.cell? ⟨gb140, 0, none⟩ = some (.int .u64 t145) := (blk_cell BK140.out 0).trans rfl; have hcz89_1 : w85.cell? ⟨gb140, 1, none⟩ = some (.int .u64 t146) := (blk_cell BK140.out 1).trans rfl; have hcz89_2 : w85.cell? ⟨gb140, 2, none⟩ = some (.int .u64 t147) := (blk_cell BK140.out 2).trans rfl; have hfz89_0 := blk_frozen BK140.out 0; have hfz89_1 := blk_frozen BK140.out 1; have hfz89_2 := blk_frozen BK140.out 2) | ((with_reducible refine gate_callee (f := 35) rfl ?_); refine goesL_ (some 78) rfl rfl Try.func35 (by kernel_rfl) rfl #[.agg #[.int .u64 t145, .int .u64 t146, .int .u64 t147], .int .u64 t164] rfl (by (try simp only [List.map_toArray, List.map_cons, List.map_nil]); first | done | rfl | (simp only [List.length_drop, List.length_take]; rfl)) ?_; (with_reducible refine (credit_Got_Raise.calls t145 t146 t147 t164 t169 t170 t171 _ A65.out).mono ?_); rintro e w90 ⟨rfl, hb⟩; refine ⟨_, rfl, ?_⟩; have n0_ := Aside0.mk (blk_below (g := gb139) (o := .cells #[.int .u64 t164, .int .u64 t165, .int .u64 t166, .int .u64 t167, .int .u64 t168] 51 (0, 0)) (by (with_reducible repeat (first | refine blk_drewN ?_ _ | refine blk_drew ?_ | refine blk_alloc ?_ _)); refine blk_put (cs := #[.int .u64 t164, .int .u64 t165, .int .u64 t166, .int .u64 t167, .int .u64 t161]) ?_ 4 _ rfl; (with_reducible repeat (first | refine blk_drewN ?_ _ | refine blk_drew ?_ | refine blk_alloc ?_ _)); refine blk_put (cs := #[.int .u64 t164, .int .u64 t165, .int .u64 t166, .int .u64 t160, .int .u64 t161]) ?_ 3 _ rfl; (with_reducible repeat (first | refine blk_drewN ?_ _ | refine blk_drew ?_ | refine blk_alloc ?_ _)); refine blk_put (cs := #[.int .u64 t164, .int .u64 t165, .int .u64 t159, .int .u64 t160, .int .u64 t161]) ?_ 2 _ rfl; (with_reducible repeat (first | refine blk_drewN ?_ _ | refine blk_drew ?_ | refine blk_alloc ?_ _)); refine blk_put (cs := #[.int .u64 t164, .int .u64 t158, .int .u64 t159, .int .u64 t160, .int .u64 t161]) ?_ 1 _ rfl; (with_reducible repeat (first | refine blk_drewN ?_ _ | refine blk_drew ?_ | refine blk_alloc ?_ _)); refine blk_put (cs := #[.int .u64 t157, .int .u64 t158, .int .u64 t159, .int .u64 t160, .int .u64 t161]) ?_ 0 _ rfl; (with_reducible repeat (first | refine blk_drewN ?_ _ | refine blk_drew ?_ | refine blk_alloc ?_ _)); exact BK139.out) hb); have n1_ := Aside0.mk (blk_below (g := gb140) (o := .cells #[.int .u64 t145, .int .u64 t146, .int .u64 t147] 61 (0, 0)) (by (with_reducible repeat (first | refine blk_drewN ?_ _ | refine blk_drew ?_ | refine blk_alloc ?_ _)); refine blk_far ?_ NB140_139.out _; (with_reducible repeat (first | refine blk_drewN ?_ _ | refine blk_drew ?_ | refine blk_alloc ?_ _)); refine blk_far ?_ NB140_139.out _; (with_reducible repeat (first | refine blk_drewN ?_ _ | refine blk_drew ?_ | refine blk_alloc ?_ _)); refine blk_far ?_ NB140_139.out _; (with_reducible repeat (first | refine blk_drewN ?_ _ | refine blk_drew ?_ | refine blk_alloc ?_ _)); refine blk_far ?_ NB140_139.out _; (with_reducible repeat (first | refine blk_drewN ?_ _ | refine blk_drew ?_ | refine blk_alloc ?_ _)); refine blk_far ?_ NB140_139.out _; (with_reducible repeat (first | refine blk_drewN ?_ _ | refine blk_drew ?_ | refine blk_alloc ?_ _)); exact BK140.out) hb); have n2_ := Aside0.mk (blk_below (g := gb149) (o := .cells #[.int .u64 t145, .int .u64 t146, .int .u64 t147] 61 (0, 0)) (by (with_reducible repeat (first | refine blk_drewN ?_ _ | refine blk_drew ?_ | refine blk_alloc ?_ _)); refine blk_far ?_ NB149_139.out _; (with_reducible repeat (first | refine blk_drewN ?_ _ | refine blk_drew ?_ | refine blk_alloc ?_ _)); refine blk_far ?_ NB149_139.out _; (with_reducible repeat (first | refine blk_drewN ?_ _ | refine blk_drew ?_ | refine blk_alloc ?_ _)); refine blk_far ?_ NB149_139.out _; (with_reducible repeat (first | refine blk_drewN ?_ _ | refine blk_drew ?_ | refine blk_alloc ?_ _)); refine blk_far ?_ NB149_139.out _; (with_reducible repeat (first | refine blk_drewN ?_ _ | refine blk_drew ?_ | refine blk_alloc ?_ _)); refine blk_far ?_ NB149_139.out _; (with_reducible repeat (first | refine blk_drewN ?_ _ | refine blk_drew ?_ | refine blk_alloc ?_ _)); exact BK149.out) hb); have n3_ := Aside0.mk (blk_below (g := gb156) (o := .cells #[.int .u64 t150, .int .u64 t151, .int .u64 t152, .int .u64 t153, .int .u64 t154] 51 (0, 0)) (by (with_reducible repeat (first | refine blk_drewN ?_ _ | refine blk_drew ?_ | refine blk_alloc ?_ _)); refine blk_far ?_ NB156_139.out _; (with_reducible repeat (first | refine blk_drewN ?_ _ | refine blk_drew ?_ | refine blk_alloc ?_ _)); refine blk_far ?_ NB156_139.out _; (with_reducible repeat (first | refine blk_drewN ?_ _ | refine blk_drew ?_ | refine blk_alloc ?_ _)); refine blk_far ?_ NB156_139.out _; (with_reducible repeat (first | refine blk_drewN ?_ _ | refine blk_drew ?_ | refine blk_alloc ?_ _)); refine blk_far ?_ NB156_139.out _; (with_reducible repeat (first | refine blk_drewN ?_ _ | refine blk_drew ?_ | refine blk_alloc ?_ _)); refine blk_far ?_ NB156_139.out _; (with_reducible repeat (first | refine blk_drewN ?_ _ | refine blk_drew ?_ | refine blk_alloc ?_ _)); exact BK156.out) hb); have n4_ := Aside0.mk (below_step (by repeat (first | (with_reducible first | exact HB.out | apply below_alloc | apply pw_below_drewN | apply below_drew1 | refine below_set ?_ GE139.out | refine below_set ?_ GE140.out | refine below_set ?_ GE149.out | refine below_set ?_ GE156.out) | exact HB.out)) hb); clear BK139; clear BK140; clear BK149; clear BK156; clear HB; have BK139 := n0_; have BK140 := n1_; have BK149 := n2_; have BK156 := n3_; have HB := n4_; clear n0_ n1_ n2_ n3_ n4_; (try clear hb); (try clear hb2); (try clear hk); (try clear hi); have hcz91_0 : w90.cell? ⟨gb140, 0, none⟩ = some (.int .u64 t145) := (blk_cell BK140.out 0).trans rfl; have hcz91_1 : w90.cell? ⟨gb140, 1, none⟩ = some (.int .u64 t146) := (blk_cell BK140.out 1).trans rfl; have hcz91_2 : w90.cell? ⟨gb140, 2, none⟩ = some (.int .u64 t147) := (blk_cell BK140.out 2).trans rfl; have hfz91_0 := blk_frozen BK140.out 0; have hfz91_1 := blk_frozen BK140.out 1; have hfz91_2 := blk_frozen BK140.out 2; have hcz92_0 : w90.cell? ⟨gb139, 0, none⟩ = some (.int .u64 t164) := (blk_cell BK139.out 0).trans rfl; have hcz92_1 : w90.cell? ⟨gb139, 1, none⟩ = some (.int .u64 t165) := (blk_cell BK139.out 1).trans rfl; have hcz92_2 : w90.cell? ⟨gb139, 2, none⟩ = some (.int .u64 t166) := (blk_cell BK139.out 2).trans rfl; have hcz92_3 : w90.cell? ⟨gb139, 3, none⟩ = some (.int .u64 t167) := (blk_cell BK139.out 3).trans rfl; have hcz92_4 : w90.cell? ⟨gb139, 4, none⟩ = some (.int .u64 t168) := (blk_cell BK139.out 4).trans rfl; have hfz92_0 := blk_frozen BK139.out 0; have hfz92_1 := blk_frozen BK139.out 1; have hfz92_2 := blk_frozen BK139.out 2; have hfz92_3 := blk_frozen BK139.out 3; have hfz92_4 := blk_frozen BK139.out 4))
                                go_roundg kj25
                                case measure => have := HK1.out; have := HJ25.out; omega
                                case rel => exact ⟨((IntKind.u64.wrap (x10_1 + t148))), (wrap64 (x30_1 + 1)), (t164), (t165), (t166), (t167), (t168), (t169), (t170), (t171), (by first | rfl | (simp; done) | (simp [*]; done)), (by first | rfl | (simp; done) | (simp [*]; done)), H', ⟨by have := HK1.out; have := HJ25.out; omega⟩, ⟨by (with_reducible repeat (first | refine blk_drewN ?_ _ | refine blk_drew ?_ | refine blk_alloc ?_ _)); refine blk_far ?_ NB139_140.out _; (with_reducible repeat (first | refine blk_drewN ?_ _ | refine blk_drew ?_ | refine blk_alloc ?_ _)); refine blk_far ?_ NB139_140.out _; (with_reducible repeat (first | refine blk_drewN ?_ _ | refine blk_drew ?_ | refine blk_alloc ?_ _)); refine blk_far ?_ NB139_140.out _; (with_reducible repeat (first | refine blk_drewN ?_ _ | refine blk_drew ?_ | refine blk_alloc ?_ _)); exact BK139.out⟩, ⟨by (with_reducible repeat (first | refine blk_drewN ?_ _ | refine blk_drew ?_ | refine blk_alloc ?_ _)); refine blk_put (cs := #[.int .u64 t169, .int .u64 t170, .int .u64 t147]) ?_ 2 _ rfl; (with_reducible repeat (first | refine blk_drewN ?_ _ | refine blk_drew ?_ | refine blk_alloc ?_ _)); refine blk_put (cs := #[.int .u64 t169, .int .u64 t146, .int .u64 t147]) ?_ 1 _ rfl; (with_reducible repeat (first | refine blk_drewN ?_ _ | refine blk_drew ?_ | refine blk_alloc ?_ _)); refine blk_put (cs := #[.int .u64 t145, .int .u64 t146, .int .u64 t147]) ?_ 0 _ rfl; (with_reducible repeat (first | refine blk_drewN ?_ _ | refine blk_drew ?_ | refine blk_alloc ?_ _)); exact BK140.out⟩, ⟨by repeat (first | (with_reducible first | exact HB.out | apply below_alloc | apply pw_below_drewN | apply below_drew1 | refine below_set ?_ GE139.out | refine below_set ?_ GE140.out | refine below_set ?_ GE149.out | refine below_set ?_ GE156.out) | exact HB.out)⟩⟩
                            · rw [if_neg c67] at H
                              have c67b0 : (t170 == (IntKind.u64.wrap (x10_1 + t148))) = false := beq_eq_false_iff_ne.mpr c67
                              have c67b1 : (t170 != (IntKind.u64.wrap (x10_1 + t148))) = true := bne_iff_ne.mpr c67
                              obtain rfl := Option.some.inj H
                              have hnb93 := NB139_140.out
                              have hnc93 := NB140_139.out
                              have hnb94 := NB139_149.out
                              have hnc94 := NB149_139.out
                              have hnb95 := NB139_156.out
                              have hnc95 := NB156_139.out
                              have hcz96_0 : wc.cell? ⟨gb139, 0, none⟩ = some (.int .u64 t157) := (blk_cell BK139.out 0).trans rfl
                              have hcz96_1 : wc.cell? ⟨gb139, 1, none⟩ = some (.int .u64 t158) := (blk_cell BK139.out 1).trans rfl
                              have hcz96_2 : wc.cell? ⟨gb139, 2, none⟩ = some (.int .u64 t159) := (blk_cell BK139.out 2).trans rfl
                              have hcz96_3 : wc.cell? ⟨gb139, 3, none⟩ = some (.int .u64 t160) := (blk_cell BK139.out 3).trans rfl
                              have hcz96_4 : wc.cell? ⟨gb139, 4, none⟩ = some (.int .u64 t161) := (blk_cell BK139.out 4).trans rfl
                              have hfz96_0 := blk_frozen BK139.out 0
                              have hfz96_1 := blk_frozen BK139.out 1
                              have hfz96_2 := blk_frozen BK139.out 2
                              have hfz96_3 := blk_frozen BK139.out 3
                              have hfz96_4 := blk_frozen BK139.out 4
                              go_wp2_with (first | ((with_reducible refine gate_callee (f := 31) rfl ?_); refine goesL_ (some 74) rfl rfl Try.func31 (by kernel_rfl) rfl #[.agg #[.int .u64 t157, .int .u64 t158, .int .u64 t159, .int .u64 t160, .int .u64 t161]] rfl (by (try simp only [List.map_toArray, List.map_cons, List.map_nil]); first | done | rfl | (simp only [List.length_drop, List.length_take]; rfl)) ?_; (with_reducible refine (credit_Given_Told.calls t157 t158 t159 t160 t161 t164 t165 t166 t167 t168 _ A64.out).mono ?_); rintro e w97 ⟨rfl, hb⟩; refine ⟨_, rfl, ?_⟩; have n0_ := Aside0.mk (blk_below (g := gb139) (o := .cells #[.int .u64 t157, .int .u64 t158, .int .u64 t159, .int .u64 t160, .int .u64 t161] 51 (0, 0)) (by (with_reducible repeat (first | refine blk_drewN ?_ _ | refine blk_drew ?_ | refine blk_alloc ?_ _)); exact BK139.out) hb); have n1_ := Aside0.mk (blk_below (g := gb140) (o := .cells #[.int .u64 t145, .int .u64 t146, .int .u64 t147] 61 (0, 0)) (by (with_reducible repeat (first | refine blk_drewN ?_ _ | refine blk_drew ?_ | refine blk_alloc ?_ _)); exact BK140.out) hb); have n2_ := Aside0.mk (blk_below (g := gb149) (o := .cells #[.int .u64 t145, .int .u64 t146, .int .u64 t147] 61 (0, 0)) (by (with_reducible repeat (first | refine blk_drewN ?_ _ | refine blk_drew ?_ | refine blk_alloc ?_ _)); exact BK149.out) hb); have n3_ := Aside0.mk (blk_below (g := gb156) (o := .cells #[.int .u64 t150, .int .u64 t151, .int .u64 t152, .int .u64 t153, .int .u64 t154] 51 (0, 0)) (by (with_reducible repeat (first | refine blk_drewN ?_ _ | refine blk_drew ?_ | refine blk_alloc ?_ _)); exact BK156.out) hb); have n4_ := Aside0.mk (below_step (by repeat (first | (with_reducible first | exact HB.out | apply below_alloc | apply pw_below_drewN | apply below_drew1 | refine below_set ?_ GE139.out | refine below_set ?_ GE140.out | refine below_set ?_ GE149.out | refine below_set ?_ GE156.out) | exact HB.out)) hb); clear BK139; clear BK140; clear BK149; clear BK156; clear HB; have BK139 := n0_; have BK140 := n1_; have BK149 := n2_; have BK156 := n3_; have HB := n4_; clear n0_ n1_ n2_ n3_ n4_; (try clear hb); (try clear hb2); (try clear hk); (try clear hi); have hcz98_0 : w97.cell? ⟨gb139, 0, none⟩ = some (.int .u64 t157) := (blk_cell BK139.out 0).trans rfl; have hcz98_1 : w97.cell? ⟨gb139, 1, none⟩ = some (.int .u64 t158) := (blk_cell BK139.out 1).trans rfl; have hcz98_2 : w97.cell? ⟨gb139, 2, none⟩ = some (.int .u64 t159) := (blk_cell BK139.out 2).trans rfl; have hcz98_3 : w97.cell? ⟨gb139, 3, none⟩ = some (.int .u64 t160) := (blk_cell BK139.out 3).trans rfl; have hcz98_4 : w97.cell? ⟨gb139, 4, none⟩ = some (.int .u64 t161) := (blk_cell BK139.out 4).trans rfl; have hfz98_0 := blk_frozen BK139.out 0; have hfz98_1 := blk_frozen BK139.out 1; have hfz98_2 := blk_frozen BK139.out 2; have hfz98_3 := blk_frozen BK139.out 3; have hfz98_4 := blk_frozen BK139.out 4; have hnb99 := NB140_149.out; have hnc99 := NB149_140.out; have hnb100 := NB140_156.out; have hnc100 := NB156_140.out; have hcz101_0 : w97.cell? ⟨gb140, 0, none⟩ = some (.int .u64 t145) := (blk_cell BK140.out 0).trans rfl; have hcz101_1 : w97.cell? ⟨gb140, 1, none⟩ = some (.int .u64 t146) := (blk_cell BK140.out 1).trans rfl; have hcz101_2 : w97.cell? ⟨gb140, 2, none⟩ = some (.int .u64 t147) := (blk_cell BK140.out 2).trans rfl; have hfz101_0 := blk_frozen BK140.out 0; have hfz101_1 := blk_frozen BK140.out 1; have hfz101_2 := blk_frozen BK140.out 2) | ((with_reducible refine gate_callee (f := 35) rfl ?_); refine goesL_ (some 78) rfl rfl Try.func35 (by kernel_rfl) rfl #[.agg #[.int .u64 t145, .int .u64 t146, .int .u64 t147], .int .u64 t164] rfl (by (try simp only [List.map_toArray, List.map_cons, List.map_nil]); first | done | rfl | (simp only [List.length_drop, List.length_take]; rfl)) ?_; (with_reducible refine (credit_Got_Raise.calls t145 t146 t147 t164 t169 t170 t171 _ A65.out).mono ?_); rintro e w102 ⟨rfl, hb⟩; refine ⟨_, rfl, ?_⟩; have n0_ := Aside0.mk (blk_below (g := gb139) (o := .cells #[.int .u64 t164, .int .u64 t165, .int .u64 t166, .int .u64 t167, .int .u64 t168] 51 (0, 0)) (by (with_reducible repeat (first | refine blk_drewN ?_ _ | refine blk_drew ?_ | refine blk_alloc ?_ _)); refine blk_put (cs := #[.int .u64 t164, .int .u64 t165, .int .u64 t166, .int .u64 t167, .int .u64 t161]) ?_ 4 _ rfl; (with_reducible repeat (first | refine blk_drewN ?_ _ | refine blk_drew ?_ | refine blk_alloc ?_ _)); refine blk_put (cs := #[.int .u64 t164, .int .u64 t165, .int .u64 t166, .int .u64 t160, .int .u64 t161]) ?_ 3 _ rfl; (with_reducible repeat (first | refine blk_drewN ?_ _ | refine blk_drew ?_ | refine blk_alloc ?_ _)); refine blk_put (cs := #[.int .u64 t164, .int .u64 t165, .int .u64 t159, .int .u64 t160, .int .u64 t161]) ?_ 2 _ rfl; (with_reducible repeat (first | refine blk_drewN ?_ _ | refine blk_drew ?_ | refine blk_alloc ?_ _)); refine blk_put (cs := #[.int .u64 t164, .int .u64 t158, .int .u64 t159, .int .u64 t160, .int .u64 t161]) ?_ 1 _ rfl; (with_reducible repeat (first | refine blk_drewN ?_ _ | refine blk_drew ?_ | refine blk_alloc ?_ _)); refine blk_put (cs := #[.int .u64 t157, .int .u64 t158, .int .u64 t159, .int .u64 t160, .int .u64 t161]) ?_ 0 _ rfl; (with_reducible repeat (first | refine blk_drewN ?_ _ | refine blk_drew ?_ | refine blk_alloc ?_ _)); exact BK139.out) hb); have n1_ := Aside0.mk (blk_below (g := gb140) (o := .cells #[.int .u64 t145, .int .u64 t146, .int .u64 t147] 61 (0, 0)) (by (with_reducible repeat (first | refine blk_drewN ?_ _ | refine blk_drew ?_ | refine blk_alloc ?_ _)); refine blk_far ?_ NB140_139.out _; (with_reducible repeat (first | refine blk_drewN ?_ _ | refine blk_drew ?_ | refine blk_alloc ?_ _)); refine blk_far ?_ NB140_139.out _; (with_reducible repeat (first | refine blk_drewN ?_ _ | refine blk_drew ?_ | refine blk_alloc ?_ _)); refine blk_far ?_ NB140_139.out _; (with_reducible repeat (first | refine blk_drewN ?_ _ | refine blk_drew ?_ | refine blk_alloc ?_ _)); refine blk_far ?_ NB140_139.out _; (with_reducible repeat (first | refine blk_drewN ?_ _ | refine blk_drew ?_ | refine blk_alloc ?_ _)); refine blk_far ?_ NB140_139.out _; (with_reducible repeat (first | refine blk_drewN ?_ _ | refine blk_drew ?_ | refine blk_alloc ?_ _)); exact BK140.out) hb); have n2_ := Aside0.mk (blk_below (g := gb149) (o := .cells #[.int .u64 t145, .int .u64 t146, .int .u64 t147] 61 (0, 0)) (by (with_reducible repeat (first | refine blk_drewN ?_ _ | refine blk_drew ?_ | refine blk_alloc ?_ _)); refine blk_far ?_ NB149_139.out _; (with_reducible repeat (first | refine blk_drewN ?_ _ | refine blk_drew ?_ | refine blk_alloc ?_ _)); refine blk_far ?_ NB149_139.out _; (with_reducible repeat (first | refine blk_drewN ?_ _ | refine blk_drew ?_ | refine blk_alloc ?_ _)); refine blk_far ?_ NB149_139.out _; (with_reducible repeat (first | refine blk_drewN ?_ _ | refine blk_drew ?_ | refine blk_alloc ?_ _)); refine blk_far ?_ NB149_139.out _; (with_reducible repeat (first | refine blk_drewN ?_ _ | refine blk_drew ?_ | refine blk_alloc ?_ _)); refine blk_far ?_ NB149_139.out _; (with_reducible repeat (first | refine blk_drewN ?_ _ | refine blk_drew ?_ | refine blk_alloc ?_ _)); exact BK149.out) hb); have n3_ := Aside0.mk (blk_below (g := gb156) (o := .cells #[.int .u64 t150, .int .u64 t151, .int .u64 t152, .int .u64 t153, .int .u64 t154] 51 (0, 0)) (by (with_reducible repeat (first | refine blk_drewN ?_ _ | refine blk_drew ?_ | refine blk_alloc ?_ _)); refine blk_far ?_ NB156_139.out _; (with_reducible repeat (first | refine blk_drewN ?_ _ | refine blk_drew ?_ | refine blk_alloc ?_ _)); refine blk_far ?_ NB156_139.out _; (with_reducible repeat (first | refine blk_drewN ?_ _ | refine blk_drew ?_ | refine blk_alloc ?_ _)); refine blk_far ?_ NB156_139.out _; (with_reducible repeat (first | refine blk_drewN ?_ _ | refine blk_drew ?_ | refine blk_alloc ?_ _)); refine blk_far ?_ NB156_139.out _; (with_reducible repeat (first | refine blk_drewN ?_ _ | refine blk_drew ?_ | refine blk_alloc ?_ _)); refine blk_far ?_ NB156_139.out _; (with_reducible repeat (first | refine blk_drewN ?_ _ | refine blk_drew ?_ | refine blk_alloc ?_ _)); exact BK156.out) hb); have n4_ := Aside0.mk (below_step (by repeat (first | (with_reducible first | exact HB.out | apply below_alloc | apply pw_below_drewN | apply below_drew1 | refine below_set ?_ GE139.out | refine below_set ?_ GE140.out | refine below_set ?_ GE149.out | refine below_set ?_ GE156.out) | exact HB.out)) hb); clear BK139; clear BK140; clear BK149; clear BK156; clear HB; have BK139 := n0_; have BK140 := n1_; have BK149 := n2_; have BK156 := n3_; have HB := n4_; clear n0_ n1_ n2_ n3_ n4_; (try clear hb); (try clear hb2); (try clear hk); (try clear hi); have hcz103_0 : w102.cell? ⟨gb140, 0, none⟩ = some (.int .u64 t145) := (blk_cell BK140.out 0).trans rfl; have hcz103_1 : w102.cell? ⟨gb140, 1, none⟩ = some (.int .u64 t146) := (blk_cell BK140.out 1).trans rfl; have hcz103_2 : w102.cell? ⟨gb140, 2, none⟩ = some (.int .u64 t147) := (blk_cell BK140.out 2).trans rfl; have hfz103_0 := blk_frozen BK140.out 0; have hfz103_1 := blk_frozen BK140.out 1; have hfz103_2 := blk_frozen BK140.out 2; have hcz104_0 : w102.cell? ⟨gb139, 0, none⟩ = some (.int .u64 t164) := (blk_cell BK139.out 0).trans rfl; have hcz104_1 : w102.cell? ⟨gb139, 1, none⟩ = some (.int .u64 t165) := (blk_cell BK139.out 1).trans rfl; have hcz104_2 : w102.cell? ⟨gb139, 2, none⟩ = some (.int .u64 t166) := (blk_cell BK139.out 2).trans rfl; have hcz104_3 : w102.cell? ⟨gb139, 3, none⟩ = some (.int .u64 t167) := (blk_cell BK139.out 3).trans rfl; have hcz104_4 : w102.cell? ⟨gb139, 4, none⟩ = some (.int .u64 t168) := (blk_cell BK139.out 4).trans rfl; have hfz104_0 := blk_frozen BK139.out 0; have hfz104_1 := blk_frozen BK139.out 1; have hfz104_2 := blk_frozen BK139.out 2; have hfz104_3 := blk_frozen BK139.out 3; have hfz104_4 := blk_frozen BK139.out 4))
                              go_ret
                              exact ⟨by first | rfl | (simp [errW_none, errW_some] <;> rfl) | (simp [*, errW_none, errW_some] <;> rfl), by repeat (first | (with_reducible first | exact HB.out | apply below_alloc | apply pw_below_drewN | apply below_drew1 | refine below_set ?_ GE139.out | refine below_set ?_ GE140.out | refine below_set ?_ GE149.out | refine below_set ?_ GE156.out) | exact HB.out)⟩
                          · rw [if_neg c66] at H
                            have c66b0 : (t165 == (IntKind.u64.wrap (x10_1 + t148))) = false := beq_eq_false_iff_ne.mpr c66
                            have c66b1 : (t165 != (IntKind.u64.wrap (x10_1 + t148))) = true := bne_iff_ne.mpr c66
                            obtain rfl := Option.some.inj H
                            have hnb105 := NB139_140.out
                            have hnc105 := NB140_139.out
                            have hnb106 := NB139_149.out
                            have hnc106 := NB149_139.out
                            have hnb107 := NB139_156.out
                            have hnc107 := NB156_139.out
                            have hcz108_0 : wc.cell? ⟨gb139, 0, none⟩ = some (.int .u64 t157) := (blk_cell BK139.out 0).trans rfl
                            have hcz108_1 : wc.cell? ⟨gb139, 1, none⟩ = some (.int .u64 t158) := (blk_cell BK139.out 1).trans rfl
                            have hcz108_2 : wc.cell? ⟨gb139, 2, none⟩ = some (.int .u64 t159) := (blk_cell BK139.out 2).trans rfl
                            have hcz108_3 : wc.cell? ⟨gb139, 3, none⟩ = some (.int .u64 t160) := (blk_cell BK139.out 3).trans rfl
                            have hcz108_4 : wc.cell? ⟨gb139, 4, none⟩ = some (.int .u64 t161) := (blk_cell BK139.out 4).trans rfl
                            have hfz108_0 := blk_frozen BK139.out 0
                            have hfz108_1 := blk_frozen BK139.out 1
                            have hfz108_2 := blk_frozen BK139.out 2
                            have hfz108_3 := blk_frozen BK139.out 3
                            have hfz108_4 := blk_frozen BK139.out 4
                            go_wp2_with (first | ((with_reducible refine gate_callee (f := 31) rfl ?_); refine goesL_ (some 74) rfl rfl Try.func31 (by kernel_rfl) rfl #[.agg #[.int .u64 t157, .int .u64 t158, .int .u64 t159, .int .u64 t160, .int .u64 t161]] rfl (by (try simp only [List.map_toArray, List.map_cons, List.map_nil]); first | done | rfl | (simp only [List.length_drop, List.length_take]; rfl)) ?_; (with_reducible refine (credit_Given_Told.calls t157 t158 t159 t160 t161 t164 t165 t166 t167 t168 _ A64.out).mono ?_); rintro e w109 ⟨rfl, hb⟩; refine ⟨_, rfl, ?_⟩; have n0_ := Aside0.mk (blk_below (g := gb139) (o := .cells #[.int .u64 t157, .int .u64 t158, .int .u64 t159, .int .u64 t160, .int .u64 t161] 51 (0, 0)) (by (with_reducible repeat (first | refine blk_drewN ?_ _ | refine blk_drew ?_ | refine blk_alloc ?_ _)); exact BK139.out) hb); have n1_ := Aside0.mk (blk_below (g := gb140) (o := .cells #[.int .u64 t145, .int .u64 t146, .int .u64 t147] 61 (0, 0)) (by (with_reducible repeat (first | refine blk_drewN ?_ _ | refine blk_drew ?_ | refine blk_alloc ?_ _)); exact BK140.out) hb); have n2_ := Aside0.mk (blk_below (g := gb149) (o := .cells #[.int .u64 t145, .int .u64 t146, .int .u64 t147] 61 (0, 0)) (by (with_reducible repeat (first | refine blk_drewN ?_ _ | refine blk_drew ?_ | refine blk_alloc ?_ _)); exact BK149.out) hb); have n3_ := Aside0.mk (blk_below (g := gb156) (o := .cells #[.int .u64 t150, .int .u64 t151, .int .u64 t152, .int .u64 t153, .int .u64 t154] 51 (0, 0)) (by (with_reducible repeat (first | refine blk_drewN ?_ _ | refine blk_drew ?_ | refine blk_alloc ?_ _)); exact BK156.out) hb); have n4_ := Aside0.mk (below_step (by repeat (first | (with_reducible first | exact HB.out | apply below_alloc | apply pw_below_drewN | apply below_drew1 | refine below_set ?_ GE139.out | refine below_set ?_ GE140.out | refine below_set ?_ GE149.out | refine below_set ?_ GE156.out) | exact HB.out)) hb); clear BK139; clear BK140; clear BK149; clear BK156; clear HB; have BK139 := n0_; have BK140 := n1_; have BK149 := n2_; have BK156 := n3_; have HB := n4_; clear n0_ n1_ n2_ n3_ n4_; (try clear hb); (try clear hb2); (try clear hk); (try clear hi); have hcz110_0 : w109.cell? ⟨gb139, 0, none⟩ = some (.int .u64 t157) := (blk_cell BK139.out 0).trans rfl; have hcz110_1 : w109.cell? ⟨gb139, 1, none⟩ = some (.int .u64 t158) := (blk_cell BK139.out 1).trans rfl; have hcz110_2 : w109.cell? ⟨gb139, 2, none⟩ = some (.int .u64 t159) := (blk_cell BK139.out 2).trans rfl; have hcz110_3 : w109.cell? ⟨gb139, 3, none⟩ = some (.int .u64 t160) := (blk_cell BK139.out 3).trans rfl; have hcz110_4 : w109.cell? ⟨gb139, 4, none⟩ = some (.int .u64 t161) := (blk_cell BK139.out 4).trans rfl; have hfz110_0 := blk_frozen BK139.out 0; have hfz110_1 := blk_frozen BK139.out 1; have hfz110_2 := blk_frozen BK139.out 2; have hfz110_3 := blk_frozen BK139.out 3; have hfz110_4 := blk_frozen BK139.out 4; have hnb111 := NB140_149.out; have hnc111 := NB149_140.out; have hnb112 := NB140_156.out; have hnc112 := NB156_140.out; have hcz113_0 : w109.cell? ⟨gb140, 0, none⟩ = some (.int .u64 t145) := (blk_cell BK140.out 0).trans rfl; have hcz113_1 : w109.cell? ⟨gb140, 1, none⟩ = some (.int .u64 t146) := (blk_cell BK140.out 1).trans rfl; have hcz113_2 : w109.cell? ⟨gb140, 2, none⟩ = some (.int .u64 t147) := (blk_cell BK140.out 2).trans rfl; have hfz113_0 := blk_frozen BK140.out 0; have hfz113_1 := blk_frozen BK140.out 1; have hfz113_2 := blk_frozen BK140.out 2) | ((with_reducible refine gate_callee (f := 35) rfl ?_); refine goesL_ (some 78) rfl rfl Try.func35 (by kernel_rfl) rfl #[.agg #[.int .u64 t145, .int .u64 t146, .int .u64 t147], .int .u64 t164] rfl (by (try simp only [List.map_toArray, List.map_cons, List.map_nil]); first | done | rfl | (simp only [List.length_drop, List.length_take]; rfl)) ?_; (with_reducible refine (credit_Got_Raise.calls t145 t146 t147 t164 t169 t170 t171 _ A65.out).mono ?_); rintro e w114 ⟨rfl, hb⟩; refine ⟨_, rfl, ?_⟩; have n0_ := Aside0.mk (blk_below (g := gb139) (o := .cells #[.int .u64 t164, .int .u64 t165, .int .u64 t166, .int .u64 t167, .int .u64 t168] 51 (0, 0)) (by (with_reducible repeat (first | refine blk_drewN ?_ _ | refine blk_drew ?_ | refine blk_alloc ?_ _)); refine blk_put (cs := #[.int .u64 t164, .int .u64 t165, .int .u64 t166, .int .u64 t167, .int .u64 t161]) ?_ 4 _ rfl; (with_reducible repeat (first | refine blk_drewN ?_ _ | refine blk_drew ?_ | refine blk_alloc ?_ _)); refine blk_put (cs := #[.int .u64 t164, .int .u64 t165, .int .u64 t166, .int .u64 t160, .int .u64 t161]) ?_ 3 _ rfl; (with_reducible repeat (first | refine blk_drewN ?_ _ | refine blk_drew ?_ | refine blk_alloc ?_ _)); refine blk_put (cs := #[.int .u64 t164, .int .u64 t165, .int .u64 t159, .int .u64 t160, .int .u64 t161]) ?_ 2 _ rfl; (with_reducible repeat (first | refine blk_drewN ?_ _ | refine blk_drew ?_ | refine blk_alloc ?_ _)); refine blk_put (cs := #[.int .u64 t164, .int .u64 t158, .int .u64 t159, .int .u64 t160, .int .u64 t161]) ?_ 1 _ rfl; (with_reducible repeat (first | refine blk_drewN ?_ _ | refine blk_drew ?_ | refine blk_alloc ?_ _)); refine blk_put (cs := #[.int .u64 t157, .int .u64 t158, .int .u64 t159, .int .u64 t160, .int .u64 t161]) ?_ 0 _ rfl; (with_reducible repeat (first | refine blk_drewN ?_ _ | refine blk_drew ?_ | refine blk_alloc ?_ _)); exact BK139.out) hb); have n1_ := Aside0.mk (blk_below (g := gb140) (o := .cells #[.int .u64 t145, .int .u64 t146, .int .u64 t147] 61 (0, 0)) (by (with_reducible repeat (first | refine blk_drewN ?_ _ | refine blk_drew ?_ | refine blk_alloc ?_ _)); refine blk_far ?_ NB140_139.out _; (with_reducible repeat (first | refine blk_drewN ?_ _ | refine blk_drew ?_ | refine blk_alloc ?_ _)); refine blk_far ?_ NB140_139.out _; (with_reducible repeat (first | refine blk_drewN ?_ _ | refine blk_drew ?_ | refine blk_alloc ?_ _)); refine blk_far ?_ NB140_139.out _; (with_reducible repeat (first | refine blk_drewN ?_ _ | refine blk_drew ?_ | refine blk_alloc ?_ _)); refine blk_far ?_ NB140_139.out _; (with_reducible repeat (first | refine blk_drewN ?_ _ | refine blk_drew ?_ | refine blk_alloc ?_ _)); refine blk_far ?_ NB140_139.out _; (with_reducible repeat (first | refine blk_drewN ?_ _ | refine blk_drew ?_ | refine blk_alloc ?_ _)); exact BK140.out) hb); have n2_ := Aside0.mk (blk_below (g := gb149) (o := .cells #[.int .u64 t145, .int .u64 t146, .int .u64 t147] 61 (0, 0)) (by (with_reducible repeat (first | refine blk_drewN ?_ _ | refine blk_drew ?_ | refine blk_alloc ?_ _)); refine blk_far ?_ NB149_139.out _; (with_reducible repeat (first | refine blk_drewN ?_ _ | refine blk_drew ?_ | refine blk_alloc ?_ _)); refine blk_far ?_ NB149_139.out _; (with_reducible repeat (first | refine blk_drewN ?_ _ | refine blk_drew ?_ | refine blk_alloc ?_ _)); refine blk_far ?_ NB149_139.out _; (with_reducible repeat (first | refine blk_drewN ?_ _ | refine blk_drew ?_ | refine blk_alloc ?_ _)); refine blk_far ?_ NB149_139.out _; (with_reducible repeat (first | refine blk_drewN ?_ _ | refine blk_drew ?_ | refine blk_alloc ?_ _)); refine blk_far ?_ NB149_139.out _; (with_reducible repeat (first | refine blk_drewN ?_ _ | refine blk_drew ?_ | refine blk_alloc ?_ _)); exact BK149.out) hb); have n3_ := Aside0.mk (blk_below (g := gb156) (o := .cells #[.int .u64 t150, .int .u64 t151, .int .u64 t152, .int .u64 t153, .int .u64 t154] 51 (0, 0)) (by (with_reducible repeat (first | refine blk_drewN ?_ _ | refine blk_drew ?_ | refine blk_alloc ?_ _)); refine blk_far ?_ NB156_139.out _; (with_reducible repeat (first | refine blk_drewN ?_ _ | refine blk_drew ?_ | refine blk_alloc ?_ _)); refine blk_far ?_ NB156_139.out _; (with_reducible repeat (first | refine blk_drewN ?_ _ | refine blk_drew ?_ | refine blk_alloc ?_ _)); refine blk_far ?_ NB156_139.out _; (with_reducible repeat (first | refine blk_drewN ?_ _ | refine blk_drew ?_ | refine blk_alloc ?_ _)); refine blk_far ?_ NB156_139.out _; (with_reducible repeat (first | refine blk_drewN ?_ _ | refine blk_drew ?_ | refine blk_alloc ?_ _)); refine blk_far ?_ NB156_139.out _; (with_reducible repeat (first | refine blk_drewN ?_ _ | refine blk_drew ?_ | refine blk_alloc ?_ _)); exact BK156.out) hb); have n4_ := Aside0.mk (below_step (by repeat (first | (with_reducible first | exact HB.out | apply below_alloc | apply pw_below_drewN | apply below_drew1 | refine below_set ?_ GE139.out | refine below_set ?_ GE140.out | refine below_set ?_ GE149.out | refine below_set ?_ GE156.out) | exact HB.out)) hb); clear BK139; clear BK140; clear BK149; clear BK156; clear HB; have BK139 := n0_; have BK140 := n1_; have BK149 := n2_; have BK156 := n3_; have HB := n4_; clear n0_ n1_ n2_ n3_ n4_; (try clear hb); (try clear hb2); (try clear hk); (try clear hi); have hcz115_0 : w114.cell? ⟨gb140, 0, none⟩ = some (.int .u64 t145) := (blk_cell BK140.out 0).trans rfl; have hcz115_1 : w114.cell? ⟨gb140, 1, none⟩ = some (.int .u64 t146) := (blk_cell BK140.out 1).trans rfl; have hcz115_2 : w114.cell? ⟨gb140, 2, none⟩ = some (.int .u64 t147) := (blk_cell BK140.out 2).trans rfl; have hfz115_0 := blk_frozen BK140.out 0; have hfz115_1 := blk_frozen BK140.out 1; have hfz115_2 := blk_frozen BK140.out 2; have hcz116_0 : w114.cell? ⟨gb139, 0, none⟩ = some (.int .u64 t164) := (blk_cell BK139.out 0).trans rfl; have hcz116_1 : w114.cell? ⟨gb139, 1, none⟩ = some (.int .u64 t165) := (blk_cell BK139.out 1).trans rfl; have hcz116_2 : w114.cell? ⟨gb139, 2, none⟩ = some (.int .u64 t166) := (blk_cell BK139.out 2).trans rfl; have hcz116_3 : w114.cell? ⟨gb139, 3, none⟩ = some (.int .u64 t167) := (blk_cell BK139.out 3).trans rfl; have hcz116_4 : w114.cell? ⟨gb139, 4, none⟩ = some (.int .u64 t168) := (blk_cell BK139.out 4).trans rfl; have hfz116_0 := blk_frozen BK139.out 0; have hfz116_1 := blk_frozen BK139.out 1; have hfz116_2 := blk_frozen BK139.out 2; have hfz116_3 := blk_frozen BK139.out 3; have hfz116_4 := blk_frozen BK139.out 4))
                            go_ret
                            exact ⟨by first | rfl | (simp [errW_none, errW_some] <;> rfl) | (simp [*, errW_none, errW_some] <;> rfl), by repeat (first | (with_reducible first | exact HB.out | apply below_alloc | apply pw_below_drewN | apply below_drew1 | refine below_set ?_ GE139.out | refine below_set ?_ GE140.out | refine below_set ?_ GE149.out | refine below_set ?_ GE156.out) | exact HB.out)⟩
                        · replace c63 := Bool.eq_false_iff.mpr c63
                          subst c63
                          have H1 : (if t158 = (IntKind.u64.wrap (x10_1 + t148)) then (if t146 = (IntKind.u64.wrap (x10_1 + t148)) then (if t145 > t157 then (some false) else (binnaclelaw20_CreditMeets.l0 kj25 l2 (IntKind.u64.wrap (1 + (IntKind.u64.wrap (Int.tmod a0 300)))) (IntKind.u64.wrap (x10_1 + t148)) l1 (l1.length : Int) (wrap64 (x30_1 + 1)) t157 t158 t159 t160 t161 t145 t146 t147)) else (some false)) else (some false)) = some r := by rw [if_neg (show ¬ (false = true) by decide)] at H; exact H
                          clear H
                          have H := H1
                          clear H1
                          by_cases c117 : t158 = (IntKind.u64.wrap (x10_1 + t148))
                          · rw [if_pos c117] at H
                            have c117b0 : (t158 == (IntKind.u64.wrap (x10_1 + t148))) = true := beq_iff_eq.mpr c117
                            have c117b1 : (t158 != (IntKind.u64.wrap (x10_1 + t148))) = false := bne_eq_false_iff_eq.mpr c117
                            clear c117
                            by_cases c118 : t146 = (IntKind.u64.wrap (x10_1 + t148))
                            · rw [if_pos c118] at H
                              have c118b0 : (t146 == (IntKind.u64.wrap (x10_1 + t148))) = true := beq_iff_eq.mpr c118
                              have c118b1 : (t146 != (IntKind.u64.wrap (x10_1 + t148))) = false := bne_eq_false_iff_eq.mpr c118
                              clear c118
                              by_cases c119 : t145 > t157
                              · rw [if_pos c119] at H
                                have c119b0 : decide (t157 < t145) = true := decide_eq_true c119
                                clear c119
                                obtain rfl := Option.some.inj H
                                have hnb120 := NB139_140.out
                                have hnc120 := NB140_139.out
                                have hnb121 := NB139_149.out
                                have hnc121 := NB149_139.out
                                have hnb122 := NB139_156.out
                                have hnc122 := NB156_139.out
                                have hcz123_0 : wc.cell? ⟨gb139, 0, none⟩ = some (.int .u64 t157) := (blk_cell BK139.out 0).trans rfl
                                have hcz123_1 : wc.cell? ⟨gb139, 1, none⟩ = some (.int .u64 t158) := (blk_cell BK139.out 1).trans rfl
                                have hcz123_2 : wc.cell? ⟨gb139, 2, none⟩ = some (.int .u64 t159) := (blk_cell BK139.out 2).trans rfl
                                have hcz123_3 : wc.cell? ⟨gb139, 3, none⟩ = some (.int .u64 t160) := (blk_cell BK139.out 3).trans rfl
                                have hcz123_4 : wc.cell? ⟨gb139, 4, none⟩ = some (.int .u64 t161) := (blk_cell BK139.out 4).trans rfl
                                have hfz123_0 := blk_frozen BK139.out 0
                                have hfz123_1 := blk_frozen BK139.out 1
                                have hfz123_2 := blk_frozen BK139.out 2
                                have hfz123_3 := blk_frozen BK139.out 3
                                have hfz123_4 := blk_frozen BK139.out 4
                                have hnb124 := NB140_149.out
                                have hnc124 := NB149_140.out
                                have hnb125 := NB140_156.out
                                have hnc125 := NB156_140.out
                                have hcz126_0 : wc.cell? ⟨gb140, 0, none⟩ = some (.int .u64 t145) := (blk_cell BK140.out 0).trans rfl
                                have hcz126_1 : wc.cell? ⟨gb140, 1, none⟩ = some (.int .u64 t146) := (blk_cell BK140.out 1).trans rfl
                                have hcz126_2 : wc.cell? ⟨gb140, 2, none⟩ = some (.int .u64 t147) := (blk_cell BK140.out 2).trans rfl
                                have hfz126_0 := blk_frozen BK140.out 0
                                have hfz126_1 := blk_frozen BK140.out 1
                                have hfz126_2 := blk_frozen BK140.out 2
                                go_wp2
                                go_ret
                                exact ⟨by first | rfl | (simp [errW_none, errW_some] <;> rfl) | (simp [*, errW_none, errW_some] <;> rfl), by repeat (first | (with_reducible first | exact HB.out | apply below_alloc | apply pw_below_drewN | apply below_drew1 | refine below_set ?_ GE139.out | refine below_set ?_ GE140.out | refine below_set ?_ GE149.out | refine below_set ?_ GE156.out) | exact HB.out)⟩
                              · rw [if_neg c119] at H
                                have c119b0 : decide (t157 < t145) = false := decide_eq_false c119
                                clear c119
                                have H' := Aside0.mk H
                                clear H
                                have hnb127 := NB139_140.out
                                have hnc127 := NB140_139.out
                                have hnb128 := NB139_149.out
                                have hnc128 := NB149_139.out
                                have hnb129 := NB139_156.out
                                have hnc129 := NB156_139.out
                                have hcz130_0 : wc.cell? ⟨gb139, 0, none⟩ = some (.int .u64 t157) := (blk_cell BK139.out 0).trans rfl
                                have hcz130_1 : wc.cell? ⟨gb139, 1, none⟩ = some (.int .u64 t158) := (blk_cell BK139.out 1).trans rfl
                                have hcz130_2 : wc.cell? ⟨gb139, 2, none⟩ = some (.int .u64 t159) := (blk_cell BK139.out 2).trans rfl
                                have hcz130_3 : wc.cell? ⟨gb139, 3, none⟩ = some (.int .u64 t160) := (blk_cell BK139.out 3).trans rfl
                                have hcz130_4 : wc.cell? ⟨gb139, 4, none⟩ = some (.int .u64 t161) := (blk_cell BK139.out 4).trans rfl
                                have hfz130_0 := blk_frozen BK139.out 0
                                have hfz130_1 := blk_frozen BK139.out 1
                                have hfz130_2 := blk_frozen BK139.out 2
                                have hfz130_3 := blk_frozen BK139.out 3
                                have hfz130_4 := blk_frozen BK139.out 4
                                have hnb131 := NB140_149.out
                                have hnc131 := NB149_140.out
                                have hnb132 := NB140_156.out
                                have hnc132 := NB156_140.out
                                have hcz133_0 : wc.cell? ⟨gb140, 0, none⟩ = some (.int .u64 t145) := (blk_cell BK140.out 0).trans rfl
                                have hcz133_1 : wc.cell? ⟨gb140, 1, none⟩ = some (.int .u64 t146) := (blk_cell BK140.out 1).trans rfl
                                have hcz133_2 : wc.cell? ⟨gb140, 2, none⟩ = some (.int .u64 t147) := (blk_cell BK140.out 2).trans rfl
                                have hfz133_0 := blk_frozen BK140.out 0
                                have hfz133_1 := blk_frozen BK140.out 1
                                have hfz133_2 := blk_frozen BK140.out 2
                                go_wp2
                                go_roundg kj25
                                case measure => have := HK1.out; have := HJ25.out; omega
                                case rel => exact ⟨((IntKind.u64.wrap (x10_1 + t148))), (wrap64 (x30_1 + 1)), (t157), (t158), (t159), (t160), (t161), (t145), (t146), (t147), (by first | rfl | (simp; done) | (simp [*]; done)), (by first | rfl | (simp; done) | (simp [*]; done)), H', ⟨by have := HK1.out; have := HJ25.out; omega⟩, ⟨by (with_reducible repeat (first | refine blk_drewN ?_ _ | refine blk_drew ?_ | refine blk_alloc ?_ _)); exact BK139.out⟩, ⟨by (with_reducible repeat (first | refine blk_drewN ?_ _ | refine blk_drew ?_ | refine blk_alloc ?_ _)); exact BK140.out⟩, ⟨by repeat (first | (with_reducible first | exact HB.out | apply below_alloc | apply pw_below_drewN | apply below_drew1 | refine below_set ?_ GE139.out | refine below_set ?_ GE140.out | refine below_set ?_ GE149.out | refine below_set ?_ GE156.out) | exact HB.out)⟩⟩
                            · rw [if_neg c118] at H
                              have c118b0 : (t146 == (IntKind.u64.wrap (x10_1 + t148))) = false := beq_eq_false_iff_ne.mpr c118
                              have c118b1 : (t146 != (IntKind.u64.wrap (x10_1 + t148))) = true := bne_iff_ne.mpr c118
                              obtain rfl := Option.some.inj H
                              have hnb134 := NB139_140.out
                              have hnc134 := NB140_139.out
                              have hnb135 := NB139_149.out
                              have hnc135 := NB149_139.out
                              have hnb136 := NB139_156.out
                              have hnc136 := NB156_139.out
                              have hcz137_0 : wc.cell? ⟨gb139, 0, none⟩ = some (.int .u64 t157) := (blk_cell BK139.out 0).trans rfl
                              have hcz137_1 : wc.cell? ⟨gb139, 1, none⟩ = some (.int .u64 t158) := (blk_cell BK139.out 1).trans rfl
                              have hcz137_2 : wc.cell? ⟨gb139, 2, none⟩ = some (.int .u64 t159) := (blk_cell BK139.out 2).trans rfl
                              have hcz137_3 : wc.cell? ⟨gb139, 3, none⟩ = some (.int .u64 t160) := (blk_cell BK139.out 3).trans rfl
                              have hcz137_4 : wc.cell? ⟨gb139, 4, none⟩ = some (.int .u64 t161) := (blk_cell BK139.out 4).trans rfl
                              have hfz137_0 := blk_frozen BK139.out 0
                              have hfz137_1 := blk_frozen BK139.out 1
                              have hfz137_2 := blk_frozen BK139.out 2
                              have hfz137_3 := blk_frozen BK139.out 3
                              have hfz137_4 := blk_frozen BK139.out 4
                              have hnb138 := NB140_149.out
                              have hnc138 := NB149_140.out
                              have hnb139 := NB140_156.out
                              have hnc139 := NB156_140.out
                              have hcz140_0 : wc.cell? ⟨gb140, 0, none⟩ = some (.int .u64 t145) := (blk_cell BK140.out 0).trans rfl
                              have hcz140_1 : wc.cell? ⟨gb140, 1, none⟩ = some (.int .u64 t146) := (blk_cell BK140.out 1).trans rfl
                              have hcz140_2 : wc.cell? ⟨gb140, 2, none⟩ = some (.int .u64 t147) := (blk_cell BK140.out 2).trans rfl
                              have hfz140_0 := blk_frozen BK140.out 0
                              have hfz140_1 := blk_frozen BK140.out 1
                              have hfz140_2 := blk_frozen BK140.out 2
                              go_wp2
                              go_ret
                              exact ⟨by first | rfl | (simp [errW_none, errW_some] <;> rfl) | (simp [*, errW_none, errW_some] <;> rfl), by repeat (first | (with_reducible first | exact HB.out | apply below_alloc | apply pw_below_drewN | apply below_drew1 | refine below_set ?_ GE139.out | refine below_set ?_ GE140.out | refine below_set ?_ GE149.out | refine below_set ?_ GE156.out) | exact HB.out)⟩
                          · rw [if_neg c117] at H
                            have c117b0 : (t158 == (IntKind.u64.wrap (x10_1 + t148))) = false := beq_eq_false_iff_ne.mpr c117
                            have c117b1 : (t158 != (IntKind.u64.wrap (x10_1 + t148))) = true := bne_iff_ne.mpr c117
                            obtain rfl := Option.some.inj H
                            have hnb141 := NB139_140.out
                            have hnc141 := NB140_139.out
                            have hnb142 := NB139_149.out
                            have hnc142 := NB149_139.out
                            have hnb143 := NB139_156.out
                            have hnc143 := NB156_139.out
                            have hcz144_0 : wc.cell? ⟨gb139, 0, none⟩ = some (.int .u64 t157) := (blk_cell BK139.out 0).trans rfl
                            have hcz144_1 : wc.cell? ⟨gb139, 1, none⟩ = some (.int .u64 t158) := (blk_cell BK139.out 1).trans rfl
                            have hcz144_2 : wc.cell? ⟨gb139, 2, none⟩ = some (.int .u64 t159) := (blk_cell BK139.out 2).trans rfl
                            have hcz144_3 : wc.cell? ⟨gb139, 3, none⟩ = some (.int .u64 t160) := (blk_cell BK139.out 3).trans rfl
                            have hcz144_4 : wc.cell? ⟨gb139, 4, none⟩ = some (.int .u64 t161) := (blk_cell BK139.out 4).trans rfl
                            have hfz144_0 := blk_frozen BK139.out 0
                            have hfz144_1 := blk_frozen BK139.out 1
                            have hfz144_2 := blk_frozen BK139.out 2
                            have hfz144_3 := blk_frozen BK139.out 3
                            have hfz144_4 := blk_frozen BK139.out 4
                            go_wp2
                            go_ret
                            exact ⟨by first | rfl | (simp [errW_none, errW_some] <;> rfl) | (simp [*, errW_none, errW_some] <;> rfl), by repeat (first | (with_reducible first | exact HB.out | apply below_alloc | apply pw_below_drewN | apply below_drew1 | refine below_set ?_ GE139.out | refine below_set ?_ GE140.out | refine below_set ?_ GE149.out | refine below_set ?_ GE156.out) | exact HB.out)⟩
                  · rw [if_neg c24] at H
                    have c24b0 : (t155 == 0) = false := beq_eq_false_iff_ne.mpr c24
                    have c24b1 : (t155 != 0) = true := bne_iff_ne.mpr c24
                    obtain rfl := Option.some.inj H
                    have p144 : 0 ≤ (x30_1 : Int) := of_decide_eq_true (by first | (with_reducible assumption) | assumption)
                    have q144 : x30_1 < (l1.length : Int) := of_decide_eq_true (by first | (with_reducible assumption) | assumption)
                    obtain ⟨ad144, e144, hx144_0⟩ := Kd.at_int HR1.out x30_1 p144 q144
                    cases e144
                    replace hx144_0 := (HB.out.cell (World.block_lt_of_cell? w _ hx144_0)).trans hx144_0
                    replace p144 := eq_true p144
                    replace q144 := eq_true q144
                    have hnb145 := NB140_139.out
                    have hnc145 := NB139_140.out
                    have hcz146_0 : wr.cell? ⟨gb140, 0, none⟩ = some (.int .u64 x141000_1) := (blk_cell BK140.out 0).trans rfl
                    have hcz146_1 : wr.cell? ⟨gb140, 1, none⟩ = some (.int .u64 x141001_1) := (blk_cell BK140.out 1).trans rfl
                    have hcz146_2 : wr.cell? ⟨gb140, 2, none⟩ = some (.int .u64 x141002_1) := (blk_cell BK140.out 2).trans rfl
                    have hfz146_0 := blk_frozen BK140.out 0
                    have hfz146_1 := blk_frozen BK140.out 1
                    have hfz146_2 := blk_frozen BK140.out 2
                    go_wp2_with (first | ((with_reducible refine gate_callee (f := 36) rfl ?_); refine goesL_ (some 41) rfl rfl Try.func36 (by kernel_rfl) rfl #[.agg #[.int .u64 x141000_1, .int .u64 x141001_1, .int .u64 x141002_1], .int .u64 (IntKind.u64.wrap (rd l1 x30_1))] rfl (by (try simp only [List.map_toArray, List.map_cons, List.map_nil]); first | done | rfl | (simp only [List.length_drop, List.length_take]; rfl)) ?_; (with_reducible refine (credit_Got_Use.calls x141000_1 x141001_1 x141002_1 (IntKind.u64.wrap (rd l1 x30_1)) t145 t146 t147 t148 _ A22.out).mono ?_); rintro e w147 ⟨rfl, hb⟩; refine ⟨_, rfl, ?_⟩; have n0_ := Aside0.mk (blk_below (g := gb139) (o := .cells #[.int .u64 x140000_1, .int .u64 x140001_1, .int .u64 x140002_1, .int .u64 x140003_1, .int .u64 x140004_1] 51 (0, 0)) (by (with_reducible repeat (first | refine blk_drewN ?_ _ | refine blk_drew ?_ | refine blk_alloc ?_ _)); exact BK139.out) hb); have n1_ := Aside0.mk (blk_below (g := gb140) (o := .cells #[.int .u64 x141000_1, .int .u64 x141001_1, .int .u64 x141002_1] 61 (0, 0)) (by (with_reducible repeat (first | refine blk_drewN ?_ _ | refine blk_drew ?_ | refine blk_alloc ?_ _)); exact BK140.out) hb); have n2_ := Aside0.mk (below_step (by repeat (first | (with_reducible first | exact HB.out | apply below_alloc | apply pw_below_drewN | apply below_drew1 | refine below_set ?_ GE139.out | refine below_set ?_ GE140.out) | exact HB.out)) hb); clear BK139; clear BK140; clear HB; have BK139 := n0_; have BK140 := n1_; have HB := n2_; clear n0_ n1_ n2_; (try clear hb); (try clear hb2); (try clear hk); (try clear hi)) | ((with_reducible refine gate_dst (N := 13) rfl ?_); (try (refine gate_guard (by rfl) ?_; dsimp only)); refine box_event ?hg (N := 13) ?hd (cs := #[.int .u64 0, .int .u64 0, .int .u64 0]) (t := 61) ?hr ?_; (case hd => rfl); (case hg => rfl); (case hr => first | (go_simp; done) | (go_simp; rfl)); intro gb149 hg w148 hbox hb; have n0_ := Aside0.mk (blk_below (g := gb139) (o := .cells #[.int .u64 x140000_1, .int .u64 x140001_1, .int .u64 x140002_1, .int .u64 x140003_1, .int .u64 x140004_1] 51 (0, 0)) (by (with_reducible repeat (first | refine blk_drewN ?_ _ | refine blk_drew ?_ | refine blk_alloc ?_ _)); exact BK139.out) hb); have n1_ := Aside0.mk (blk_below (g := gb140) (o := .cells #[.int .u64 x141000_1, .int .u64 x141001_1, .int .u64 x141002_1] 61 (0, 0)) (by (with_reducible repeat (first | refine blk_drewN ?_ _ | refine blk_drew ?_ | refine blk_alloc ?_ _)); exact BK140.out) hb); have n2_ := Aside0.mk (below_step (by repeat (first | (with_reducible first | exact HB.out | apply below_alloc | apply pw_below_drewN | apply below_drew1 | refine below_set ?_ GE139.out | refine below_set ?_ GE140.out) | exact HB.out)) hb); have n3_ := Aside0.mk (hbox); have n4_ := Aside0.mk ((by rw [hg]; exact (below_size (by repeat (first | (with_reducible first | exact HB.out | apply below_alloc | apply pw_below_drewN | apply below_drew1 | refine below_set ?_ GE139.out | refine below_set ?_ GE140.out) | exact HB.out))) : w.heap.size ≤ gb149)); have n5_ := Aside0.mk ((by rw [hg]; exact (below_size (by repeat (first | (with_reducible first | exact HB.out | apply below_alloc | apply pw_below_drewN | apply below_drew1 | refine below_set ?_ GE139.out | refine below_set ?_ GE140.out) | exact HB.out))) : w.heap.size ≤ gb149)); have n6_ := Aside0.mk ((by rw [hg]; exact Nat.ne_of_lt (blk_lt (g := gb139) (o := .cells #[.int .u64 x140000_1, .int .u64 x140001_1, .int .u64 x140002_1, .int .u64 x140003_1, .int .u64 x140004_1] 51 (0, 0)) (by (with_reducible repeat (first | refine blk_drewN ?_ _ | refine blk_drew ?_ | refine blk_alloc ?_ _)); exact BK139.out)) : gb139 ≠ gb149)); have n7_ := Aside0.mk ((by rw [hg]; exact Nat.ne_of_gt (blk_lt (g := gb139) (o := .cells #[.int .u64 x140000_1, .int .u64 x140001_1, .int .u64 x140002_1, .int .u64 x140003_1, .int .u64 x140004_1] 51 (0, 0)) (by (with_reducible repeat (first | refine blk_drewN ?_ _ | refine blk_drew ?_ | refine blk_alloc ?_ _)); exact BK139.out)) : gb149 ≠ gb139)); have n8_ := Aside0.mk ((by rw [hg]; exact Nat.ne_of_lt (blk_lt (g := gb140) (o := .cells #[.int .u64 x141000_1, .int .u64 x141001_1, .int .u64 x141002_1] 61 (0, 0)) (by (with_reducible repeat (first | refine blk_drewN ?_ _ | refine blk_drew ?_ | refine blk_alloc ?_ _)); exact BK140.out)) : gb140 ≠ gb149)); have n9_ := Aside0.mk ((by rw [hg]; exact Nat.ne_of_gt (blk_lt (g := gb140) (o := .cells #[.int .u64 x141000_1, .int .u64 x141001_1, .int .u64 x141002_1] 61 (0, 0)) (by (with_reducible repeat (first | refine blk_drewN ?_ _ | refine blk_drew ?_ | refine blk_alloc ?_ _)); exact BK140.out)) : gb149 ≠ gb140)); clear BK139; clear BK140; clear HB; have BK139 := n0_; have BK140 := n1_; have HB := n2_; have BK149 := n3_; have GW149 := n4_; have GE149 := n5_; have NB139_149 := n6_; have NB149_139 := n7_; have NB140_149 := n8_; have NB149_140 := n9_; clear n0_ n1_ n2_ n3_ n4_ n5_ n6_ n7_ n8_ n9_; clear hb hbox hg; have hnb149 := NB149_139.out; have hnc149 := NB139_149.out; have hnb150 := NB149_140.out; have hnc150 := NB140_149.out; have hcz151_0 : w148.cell? ⟨gb149, 0, none⟩ = some (.int .u64 0) := (blk_cell BK149.out 0).trans rfl; have hcz151_1 : w148.cell? ⟨gb149, 1, none⟩ = some (.int .u64 0) := (blk_cell BK149.out 1).trans rfl; have hcz151_2 : w148.cell? ⟨gb149, 2, none⟩ = some (.int .u64 0) := (blk_cell BK149.out 2).trans rfl; have hfz151_0 := blk_frozen BK149.out 0; have hfz151_1 := blk_frozen BK149.out 1; have hfz151_2 := blk_frozen BK149.out 2; have hcz152_0 : w148.cell? ⟨gb140, 0, none⟩ = some (.int .u64 x141000_1) := (blk_cell BK140.out 0).trans rfl; have hcz152_1 : w148.cell? ⟨gb140, 1, none⟩ = some (.int .u64 x141001_1) := (blk_cell BK140.out 1).trans rfl; have hcz152_2 : w148.cell? ⟨gb140, 2, none⟩ = some (.int .u64 x141002_1) := (blk_cell BK140.out 2).trans rfl; have hfz152_0 := blk_frozen BK140.out 0; have hfz152_1 := blk_frozen BK140.out 1; have hfz152_2 := blk_frozen BK140.out 2; have hcz153_0 : w148.cell? ⟨gb139, 0, none⟩ = some (.int .u64 x140000_1) := (blk_cell BK139.out 0).trans rfl; have hcz153_1 : w148.cell? ⟨gb139, 1, none⟩ = some (.int .u64 x140001_1) := (blk_cell BK139.out 1).trans rfl; have hcz153_2 : w148.cell? ⟨gb139, 2, none⟩ = some (.int .u64 x140002_1) := (blk_cell BK139.out 2).trans rfl; have hcz153_3 : w148.cell? ⟨gb139, 3, none⟩ = some (.int .u64 x140003_1) := (blk_cell BK139.out 3).trans rfl; have hcz153_4 : w148.cell? ⟨gb139, 4, none⟩ = some (.int .u64 x140004_1) := (blk_cell BK139.out 4).trans rfl; have hfz153_0 := blk_frozen BK139.out 0; have hfz153_1 := blk_frozen BK139.out 1; have hfz153_2 := blk_frozen BK139.out 2; have hfz153_3 := blk_frozen BK139.out 3; have hfz153_4 := blk_frozen BK139.out 4) | ((with_reducible refine gate_callee (f := 29) rfl ?_); refine goesL_ (some 48) rfl rfl Try.func29 (by kernel_rfl) rfl #[.agg #[.int .u64 x140000_1, .int .u64 x140001_1, .int .u64 x140002_1, .int .u64 x140003_1, .int .u64 x140004_1], .int .u64 t148] rfl (by (try simp only [List.map_toArray, List.map_cons, List.map_nil]); first | done | rfl | (simp only [List.length_drop, List.length_take]; rfl)) ?_; (with_reducible refine (credit_Given_Use.calls x140000_1 x140001_1 x140002_1 x140003_1 x140004_1 t148 t150 t151 t152 t153 t154 t155 _ A23.out).mono ?_); rintro e w154 ⟨rfl, hb⟩; refine ⟨_, rfl, ?_⟩; have n0_ := Aside0.mk (blk_below (g := gb139) (o := .cells #[.int .u64 x140000_1, .int .u64 x140001_1, .int .u64 x140002_1, .int .u64 x140003_1, .int .u64 x140004_1] 51 (0, 0)) (by (with_reducible repeat (first | refine blk_drewN ?_ _ | refine blk_drew ?_ | refine blk_alloc ?_ _)); refine blk_far ?_ NB139_140.out _; (with_reducible repeat (first | refine blk_drewN ?_ _ | refine blk_drew ?_ | refine blk_alloc ?_ _)); refine blk_far ?_ NB139_140.out _; (with_reducible repeat (first | refine blk_drewN ?_ _ | refine blk_drew ?_ | refine blk_alloc ?_ _)); refine blk_far ?_ NB139_140.out _; (with_reducible repeat (first | refine blk_drewN ?_ _ | refine blk_drew ?_ | refine blk_alloc ?_ _)); refine blk_far ?_ NB139_149.out _; (with_reducible repeat (first | refine blk_drewN ?_ _ | refine blk_drew ?_ | refine blk_alloc ?_ _)); refine blk_far ?_ NB139_149.out _; (with_reducible repeat (first | refine blk_drewN ?_ _ | refine blk_drew ?_ | refine blk_alloc ?_ _)); refine blk_far ?_ NB139_149.out _; (with_reducible repeat (first | refine blk_drewN ?_ _ | refine blk_drew ?_ | refine blk_alloc ?_ _)); exact BK139.out) hb); have n1_ := Aside0.mk (blk_below (g := gb140) (o := .cells #[.int .u64 t145, .int .u64 t146, .int .u64 t147] 61 (0, 0)) (by (with_reducible repeat (first | refine blk_drewN ?_ _ | refine blk_drew ?_ | refine blk_alloc ?_ _)); refine blk_put (cs := #[.int .u64 t145, .int .u64 t146, .int .u64 x141002_1]) ?_ 2 _ rfl; (with_reducible repeat (first | refine blk_drewN ?_ _ | refine blk_drew ?_ | refine blk_alloc ?_ _)); refine blk_put (cs := #[.int .u64 t145, .int .u64 x141001_1, .int .u64 x141002_1]) ?_ 1 _ rfl; (with_reducible repeat (first | refine blk_drewN ?_ _ | refine blk_drew ?_ | refine blk_alloc ?_ _)); refine blk_put (cs := #[.int .u64 x141000_1, .int .u64 x141001_1, .int .u64 x141002_1]) ?_ 0 _ rfl; (with_reducible repeat (first | refine blk_drewN ?_ _ | refine blk_drew ?_ | refine blk_alloc ?_ _)); refine blk_far ?_ NB140_149.out _; (with_reducible repeat (first | refine blk_drewN ?_ _ | refine blk_drew ?_ | refine blk_alloc ?_ _)); refine blk_far ?_ NB140_149.out _; (with_reducible repeat (first | refine blk_drewN ?_ _ | refine blk_drew ?_ | refine blk_alloc ?_ _)); refine blk_far ?_ NB140_149.out _; (with_reducible repeat (first | refine blk_drewN ?_ _ | refine blk_drew ?_ | refine blk_alloc ?_ _)); exact BK140.out) hb); have n2_ := Aside0.mk (blk_below (g := gb149) (o := .cells #[.int .u64 t145, .int .u64 t146, .int .u64 t147] 61 (0, 0)) (by (with_reducible repeat (first | refine blk_drewN ?_ _ | refine blk_drew ?_ | refine blk_alloc ?_ _)); refine blk_far ?_ NB149_140.out _; (with_reducible repeat (first | refine blk_drewN ?_ _ | refine blk_drew ?_ | refine blk_alloc ?_ _)); refine blk_far ?_ NB149_140.out _; (with_reducible repeat (first | refine blk_drewN ?_ _ | refine blk_drew ?_ | refine blk_alloc ?_ _)); refine blk_far ?_ NB149_140.out _; (with_reducible repeat (first | refine blk_drewN ?_ _ | refine blk_drew ?_ | refine blk_alloc ?_ _)); refine blk_put (cs := #[.int .u64 t145, .int .u64 t146, .int .u64 0]) ?_ 2 _ rfl; (with_reducible repeat (first | refine blk_drewN ?_ _ | refine blk_drew ?_ | refine blk_alloc ?_ _)); refine blk_put (cs := #[.int .u64 t145, .int .u64 0, .int .u64 0]) ?_ 1 _ rfl; (with_reducible repeat (first | refine blk_drewN ?_ _ | refine blk_drew ?_ | refine blk_alloc ?_ _)); refine blk_put (cs := #[.int .u64 0, .int .u64 0, .int .u64 0]) ?_ 0 _ rfl; (with_reducible repeat (first | refine blk_drewN ?_ _ | refine blk_drew ?_ | refine blk_alloc ?_ _)); exact BK149.out) hb); have n3_ := Aside0.mk (below_step (by repeat (first | (with_reducible first | exact HB.out | apply below_alloc | apply pw_below_drewN | apply below_drew1 | refine below_set ?_ GE139.out | refine below_set ?_ GE140.out | refine below_set ?_ GE149.out) | exact HB.out)) hb); clear BK139; clear BK140; clear BK149; clear HB; have BK139 := n0_; have BK140 := n1_; have BK149 := n2_; have HB := n3_; clear n0_ n1_ n2_ n3_; (try clear hb); (try clear hb2); (try clear hk); (try clear hi)) | ((with_reducible refine gate_dst (N := 15) rfl ?_); (try (refine gate_guard (by rfl) ?_; dsimp only)); refine box_event ?hg (N := 15) ?hd (cs := #[.int .u64 0, .int .u64 0, .int .u64 0, .int .u64 0, .int .u64 0]) (t := 51) ?hr ?_; (case hd => rfl); (case hg => rfl); (case hr => first | (go_simp; done) | (go_simp; rfl)); intro gb156 hg w155 hbox hb; have n0_ := Aside0.mk (blk_below (g := gb139) (o := .cells #[.int .u64 x140000_1, .int .u64 x140001_1, .int .u64 x140002_1, .int .u64 x140003_1, .int .u64 x140004_1] 51 (0, 0)) (by (with_reducible repeat (first | refine blk_drewN ?_ _ | refine blk_drew ?_ | refine blk_alloc ?_ _)); exact BK139.out) hb); have n1_ := Aside0.mk (blk_below (g := gb140) (o := .cells #[.int .u64 t145, .int .u64 t146, .int .u64 t147] 61 (0, 0)) (by (with_reducible repeat (first | refine blk_drewN ?_ _ | refine blk_drew ?_ | refine blk_alloc ?_ _)); exact BK140.out) hb); have n2_ := Aside0.mk (blk_below (g := gb149) (o := .cells #[.int .u64 t145, .int .u64 t146, .int .u64 t147] 61 (0, 0)) (by (with_reducible repeat (first | refine blk_drewN ?_ _ | refine blk_drew ?_ | refine blk_alloc ?_ _)); exact BK149.out) hb); have n3_ := Aside0.mk (below_step (by repeat (first | (with_reducible first | exact HB.out | apply below_alloc | apply pw_below_drewN | apply below_drew1 | refine below_set ?_ GE139.out | refine below_set ?_ GE140.out | refine below_set ?_ GE149.out) | exact HB.out)) hb); have n4_ := Aside0.mk (hbox); have n5_ := Aside0.mk ((by rw [hg]; exact (below_size (by repeat (first | (with_reducible first | exact HB.out | apply below_alloc | apply pw_below_drewN | apply below_drew1 | refine below_set ?_ GE139.out | refine below_set ?_ GE140.out | refine below_set ?_ GE149.out) | exact HB.out))) : w.heap.size ≤ gb156)); have n6_ := Aside0.mk ((by rw [hg]; exact (below_size (by repeat (first | (with_reducible first | exact HB.out | apply below_alloc | apply pw_below_drewN | apply below_drew1 | refine below_set ?_ GE139.out | refine below_set ?_ GE140.out | refine below_set ?_ GE149.out) | exact HB.out))) : w.heap.size ≤ gb156)); have n7_ := Aside0.mk ((by rw [hg]; exact Nat.ne_of_lt (blk_lt (g := gb139) (o := .cells #[.int .u64 x140000_1, .int .u64 x140001_1, .int .u64 x140002_1, .int .u64 x140003_1, .int .u64 x140004_1] 51 (0, 0)) (by (with_reducible repeat (first | refine blk_drewN ?_ _ | refine blk_drew ?_ | refine blk_alloc ?_ _)); exact BK139.out)) : gb139 ≠ gb156)); have n8_ := Aside0.mk ((by rw [hg]; exact Nat.ne_of_gt (blk_lt (g := gb139) (o := .cells #[.int .u64 x140000_1, .int .u64 x140001_1, .int .u64 x140002_1, .int .u64 x140003_1, .int .u64 x140004_1] 51 (0, 0)) (by (with_reducible repeat (first | refine blk_drewN ?_ _ | refine blk_drew ?_ | refine blk_alloc ?_ _)); exact BK139.out)) : gb156 ≠ gb139)); have n9_ := Aside0.mk ((by rw [hg]; exact Nat.ne_of_lt (blk_lt (g := gb140) (o := .cells #[.int .u64 t145, .int .u64 t146, .int .u64 t147] 61 (0, 0)) (by (with_reducible repeat (first | refine blk_drewN ?_ _ | refine blk_drew ?_ | refine blk_alloc ?_ _)); exact BK140.out)) : gb140 ≠ gb156)); have n10_ := Aside0.mk ((by rw [hg]; exact Nat.ne_of_gt (blk_lt (g := gb140) (o := .cells #[.int .u64 t145, .int .u64 t146, .int .u64 t147] 61 (0, 0)) (by (with_reducible repeat (first | refine blk_drewN ?_ _ | refine blk_drew ?_ | refine blk_alloc ?_ _)); exact BK140.out)) : gb156 ≠ gb140)); have n11_ := Aside0.mk ((by rw [hg]; exact Nat.ne_of_lt (blk_lt (g := gb149) (o := .cells #[.int .u64 t145, .int .u64 t146, .int .u64 t147] 61 (0, 0)) (by (with_reducible repeat (first | refine blk_drewN ?_ _ | refine blk_drew ?_ | refine blk_alloc ?_ _)); exact BK149.out)) : gb149 ≠ gb156)); have n12_ := Aside0.mk ((by rw [hg]; exact Nat.ne_of_gt (blk_lt (g := gb149) (o := .cells #[.int .u64 t145, .int .u64 t146, .int .u64 t147] 61 (0, 0)) (by (with_reducible repeat (first | refine blk_drewN ?_ _ | refine blk_drew ?_ | refine blk_alloc ?_ _)); exact BK149.out)) : gb156 ≠ gb149)); clear BK139; clear BK140; clear BK149; clear HB; have BK139 := n0_; have BK140 := n1_; have BK149 := n2_; have HB := n3_; have BK156 := n4_; have GW156 := n5_; have GE156 := n6_; have NB139_156 := n7_; have NB156_139 := n8_; have NB140_156 := n9_; have NB156_140 := n10_; have NB149_156 := n11_; have NB156_149 := n12_; clear n0_ n1_ n2_ n3_ n4_ n5_ n6_ n7_ n8_ n9_ n10_ n11_ n12_; clear hb hbox hg; have hnb156 := NB156_139.out; have hnc156 := NB139_156.out; have hnb157 := NB156_140.out; have hnc157 := NB140_156.out; have hnb158 := NB156_149.out; have hnc158 := NB149_156.out; have hcz159_0 : w155.cell? ⟨gb156, 0, none⟩ = some (.int .u64 0) := (blk_cell BK156.out 0).trans rfl; have hcz159_1 : w155.cell? ⟨gb156, 1, none⟩ = some (.int .u64 0) := (blk_cell BK156.out 1).trans rfl; have hcz159_2 : w155.cell? ⟨gb156, 2, none⟩ = some (.int .u64 0) := (blk_cell BK156.out 2).trans rfl; have hcz159_3 : w155.cell? ⟨gb156, 3, none⟩ = some (.int .u64 0) := (blk_cell BK156.out 3).trans rfl; have hcz159_4 : w155.cell? ⟨gb156, 4, none⟩ = some (.int .u64 0) := (blk_cell BK156.out 4).trans rfl; have hfz159_0 := blk_frozen BK156.out 0; have hfz159_1 := blk_frozen BK156.out 1; have hfz159_2 := blk_frozen BK156.out 2; have hfz159_3 := blk_frozen BK156.out 3; have hfz159_4 := blk_frozen BK156.out 4))
                    go_ret
                    exact ⟨by first | rfl | (simp [errW_none, errW_some] <;> rfl) | (simp [*, errW_none, errW_some] <;> rfl), by repeat (first | (with_reducible first | exact HB.out | apply below_alloc | apply pw_below_drewN | apply below_drew1 | refine below_set ?_ GE139.out | refine below_set ?_ GE140.out | refine below_set ?_ GE149.out | refine below_set ?_ GE156.out) | exact HB.out)⟩
              · rw [if_neg c20] at H
                exact absurd H (by simp)
            · rw [if_neg c19] at H
              exact absurd H (by simp)
          · rw [if_neg c18] at H
            have c18b0 : decide (x30_1 < (l1.length : Int)) = false := decide_eq_false c18
            clear c18
            (first | rw [c18b0] | (simp only [i64_w, i32_w]; rw [c18b0]) | skip)
            have H' := Aside0.mk H
            clear H
            go_wp2
            go_meet
            case rel => exact ⟨_, (x140000_1), (x140001_1), (x140002_1), (x140003_1), (x140004_1), (x141000_1), (x141001_1), (x141002_1), H', ⟨by have := HK1.out; first | omega | exact Nat.le_refl _⟩, ⟨by (with_reducible repeat (first | refine blk_drewN ?_ _ | refine blk_drew ?_ | refine blk_alloc ?_ _)); exact BK139.out⟩, ⟨by (with_reducible repeat (first | refine blk_drewN ?_ _ | refine blk_drew ?_ | refine blk_alloc ?_ _)); exact BK140.out⟩, ⟨by repeat (first | (with_reducible first | exact HB.out | apply below_alloc | apply pw_below_drewN | apply below_drew1 | refine below_set ?_ GE139.out | refine below_set ?_ GE140.out) | exact HB.out)⟩⟩
    case rest =>
      clear HC8
      try clear c1
      try clear p1
      try clear q1
      try clear hx1
      try clear c2
      try clear p2
      try clear c3
      try clear c4
      try clear c5
      try clear c6
      try clear p6
      try clear c7
      try clear c8
      try clear c9
      try clear c10
      try clear c11
      try clear c12
      try clear c13
      try clear c14
      try clear p14
      try clear q14
      try clear hx14
      try clear c15
      try clear p16
      try clear q16
      try clear hx16
      try clear c18
      try clear c18b0
      try clear c19
      try clear c19b0
      try clear c20
      try clear c20b0
      try clear c21
      try clear c21b0
      try clear c24
      try clear c24b0
      try clear c24b1
      try clear c26
      try clear c27
      try clear c29
      try clear c30
      try clear c31
      try clear c32
      try clear c34
      try clear c35
      try clear c36
      try clear c38
      try clear c39
      try clear c40
      try clear c45
      try clear c46
      try clear c46b0
      try clear c47
      try clear c48
      try clear c49
      try clear c52
      try clear c52b0
      try clear c53
      try clear c54
      try clear c55
      try clear c58
      try clear c59
      try clear c60
      try clear c63
      try clear p64
      try clear c66
      try clear c66b0
      try clear c66b1
      try clear c67
      try clear c67b0
      try clear c67b1
      try clear c68
      try clear c68b0
      try clear c69
      try clear c70
      try clear c71
      try clear c75
      try clear c76
      try clear c81
      try clear c82
      try clear c83
      try clear c87
      try clear c88
      try clear c93
      try clear c94
      try clear c95
      try clear c99
      try clear c100
      try clear c105
      try clear c106
      try clear c107
      try clear c111
      try clear c112
      try clear c117
      try clear c117b0
      try clear c117b1
      try clear c118
      try clear c118b0
      try clear c118b1
      try clear c119
      try clear c119b0
      try clear c120
      try clear c121
      try clear c122
      try clear c124
      try clear c125
      try clear c127
      try clear c128
      try clear c129
      try clear c131
      try clear c132
      try clear c134
      try clear c135
      try clear c136
      try clear c138
      try clear c139
      try clear c141
      try clear c142
      try clear c143
      try clear p144
      try clear q144
      try clear hx144
      try clear c145
      try clear c149
      try clear c150
      try clear c156
      try clear c157
      try clear c158
      try clear hcz101_0
      try clear hcz101_1
      try clear hcz101_2
      try clear hcz103_0
      try clear hcz103_1
      try clear hcz103_2
      try clear hcz104_0
      try clear hcz104_1
      try clear hcz104_2
      try clear hcz104_3
      try clear hcz104_4
      try clear hcz108_0
      try clear hcz108_1
      try clear hcz108_2
      try clear hcz108_3
      try clear hcz108_4
      try clear hcz110_0
      try clear hcz110_1
      try clear hcz110_2
      try clear hcz110_3
      try clear hcz110_4
      try clear hcz113_0
      try clear hcz113_1
      try clear hcz113_2
      try clear hcz115_0
      try clear hcz115_1
      try clear hcz115_2
      try clear hcz116_0
      try clear hcz116_1
      try clear hcz116_2
      try clear hcz116_3
      try clear hcz116_4
      try clear hcz123_0
      try clear hcz123_1
      try clear hcz123_2
      try clear hcz123_3
      try clear hcz123_4
      try clear hcz126_0
      try clear hcz126_1
      try clear hcz126_2
      try clear hcz12_0
      try clear hcz12_1
      try clear hcz12_2
      try clear hcz12_3
      try clear hcz12_4
      try clear hcz130_0
      try clear hcz130_1
      try clear hcz130_2
      try clear hcz130_3
      try clear hcz130_4
      try clear hcz133_0
      try clear hcz133_1
      try clear hcz133_2
      try clear hcz137_0
      try clear hcz137_1
      try clear hcz137_2
      try clear hcz137_3
      try clear hcz137_4
      try clear hcz140_0
      try clear hcz140_1
      try clear hcz140_2
      try clear hcz144_0
      try clear hcz144_1
      try clear hcz144_2
      try clear hcz144_3
      try clear hcz144_4
      try clear hcz146_0
      try clear hcz146_1
      try clear hcz146_2
      try clear hcz151_0
      try clear hcz151_1
      try clear hcz151_2
      try clear hcz152_0
      try clear hcz152_1
      try clear hcz152_2
      try clear hcz153_0
      try clear hcz153_1
      try clear hcz153_2
      try clear hcz153_3
      try clear hcz153_4
      try clear hcz159_0
      try clear hcz159_1
      try clear hcz159_2
      try clear hcz159_3
      try clear hcz159_4
      try clear hcz15_0
      try clear hcz15_1
      try clear hcz15_2
      try clear hcz17_0
      try clear hcz17_1
      try clear hcz17_2
      try clear hcz28_0
      try clear hcz28_1
      try clear hcz28_2
      try clear hcz33_0
      try clear hcz33_1
      try clear hcz33_2
      try clear hcz34_0
      try clear hcz34_1
      try clear hcz34_2
      try clear hcz35_0
      try clear hcz35_1
      try clear hcz35_2
      try clear hcz35_3
      try clear hcz35_4
      try clear hcz41_0
      try clear hcz41_1
      try clear hcz41_2
      try clear hcz41_3
      try clear hcz41_4
      try clear hcz43_0
      try clear hcz43_1
      try clear hcz43_2
      try clear hcz43_3
      try clear hcz43_4
      try clear hcz50_0
      try clear hcz50_1
      try clear hcz50_2
      try clear hcz50_3
      try clear hcz50_4
      try clear hcz56_0
      try clear hcz56_1
      try clear hcz56_2
      try clear hcz56_3
      try clear hcz56_4
      try clear hcz61_0
      try clear hcz61_1
      try clear hcz61_2
      try clear hcz61_3
      try clear hcz61_4
      try clear hcz72_0
      try clear hcz72_1
      try clear hcz72_2
      try clear hcz72_3
      try clear hcz72_4
      try clear hcz74_0
      try clear hcz74_1
      try clear hcz74_2
      try clear hcz74_3
      try clear hcz74_4
      try clear hcz77_0
      try clear hcz77_1
      try clear hcz77_2
      try clear hcz79_0
      try clear hcz79_1
      try clear hcz79_2
      try clear hcz80_0
      try clear hcz80_1
      try clear hcz80_2
      try clear hcz80_3
      try clear hcz80_4
      try clear hcz84_0
      try clear hcz84_1
      try clear hcz84_2
      try clear hcz84_3
      try clear hcz84_4
      try clear hcz86_0
      try clear hcz86_1
      try clear hcz86_2
      try clear hcz86_3
      try clear hcz86_4
      try clear hcz89_0
      try clear hcz89_1
      try clear hcz89_2
      try clear hcz91_0
      try clear hcz91_1
      try clear hcz91_2
      try clear hcz92_0
      try clear hcz92_1
      try clear hcz92_2
      try clear hcz92_3
      try clear hcz92_4
      try clear hcz96_0
      try clear hcz96_1
      try clear hcz96_2
      try clear hcz96_3
      try clear hcz96_4
      try clear hcz98_0
      try clear hcz98_1
      try clear hcz98_2
      try clear hcz98_3
      try clear hcz98_4
      try clear hfz101_0
      try clear hfz101_1
      try clear hfz101_2
      try clear hfz103_0
      try clear hfz103_1
      try clear hfz103_2
      try clear hfz104_0
      try clear hfz104_1
      try clear hfz104_2
      try clear hfz104_3
      try clear hfz104_4
      try clear hfz108_0
      try clear hfz108_1
      try clear hfz108_2
      try clear hfz108_3
      try clear hfz108_4
      try clear hfz110_0
      try clear hfz110_1
      try clear hfz110_2
      try clear hfz110_3
      try clear hfz110_4
      try clear hfz113_0
      try clear hfz113_1
      try clear hfz113_2
      try clear hfz115_0
      try clear hfz115_1
      try clear hfz115_2
      try clear hfz116_0
      try clear hfz116_1
      try clear hfz116_2
      try clear hfz116_3
      try clear hfz116_4
      try clear hfz123_0
      try clear hfz123_1
      try clear hfz123_2
      try clear hfz123_3
      try clear hfz123_4
      try clear hfz126_0
      try clear hfz126_1
      try clear hfz126_2
      try clear hfz12_0
      try clear hfz12_1
      try clear hfz12_2
      try clear hfz12_3
      try clear hfz12_4
      try clear hfz130_0
      try clear hfz130_1
      try clear hfz130_2
      try clear hfz130_3
      try clear hfz130_4
      try clear hfz133_0
      try clear hfz133_1
      try clear hfz133_2
      try clear hfz137_0
      try clear hfz137_1
      try clear hfz137_2
      try clear hfz137_3
      try clear hfz137_4
      try clear hfz140_0
      try clear hfz140_1
      try clear hfz140_2
      try clear hfz144_0
      try clear hfz144_1
      try clear hfz144_2
      try clear hfz144_3
      try clear hfz144_4
      try clear hfz146_0
      try clear hfz146_1
      try clear hfz146_2
      try clear hfz151_0
      try clear hfz151_1
      try clear hfz151_2
      try clear hfz152_0
      try clear hfz152_1
      try clear hfz152_2
      try clear hfz153_0
      try clear hfz153_1
      try clear hfz153_2
      try clear hfz153_3
      try clear hfz153_4
      try clear hfz159_0
      try clear hfz159_1
      try clear hfz159_2
      try clear hfz159_3
      try clear hfz159_4
      try clear hfz15_0
      try clear hfz15_1
      try clear hfz15_2
      try clear hfz17_0
      try clear hfz17_1
      try clear hfz17_2
      try clear hfz28_0
      try clear hfz28_1
      try clear hfz28_2
      try clear hfz33_0
      try clear hfz33_1
      try clear hfz33_2
      try clear hfz34_0
      try clear hfz34_1
      try clear hfz34_2
      try clear hfz35_0
      try clear hfz35_1
      try clear hfz35_2
      try clear hfz35_3
      try clear hfz35_4
      try clear hfz41_0
      try clear hfz41_1
      try clear hfz41_2
      try clear hfz41_3
      try clear hfz41_4
      try clear hfz43_0
      try clear hfz43_1
      try clear hfz43_2
      try clear hfz43_3
      try clear hfz43_4
      try clear hfz50_0
      try clear hfz50_1
      try clear hfz50_2
      try clear hfz50_3
      try clear hfz50_4
      try clear hfz56_0
      try clear hfz56_1
      try clear hfz56_2
      try clear hfz56_3
      try clear hfz56_4
      try clear hfz61_0
      try clear hfz61_1
      try clear hfz61_2
      try clear hfz61_3
      try clear hfz61_4
      try clear hfz72_0
      try clear hfz72_1
      try clear hfz72_2
      try clear hfz72_3
      try clear hfz72_4
      try clear hfz74_0
      try clear hfz74_1
      try clear hfz74_2
      try clear hfz74_3
      try clear hfz74_4
      try clear hfz77_0
      try clear hfz77_1
      try clear hfz77_2
      try clear hfz79_0
      try clear hfz79_1
      try clear hfz79_2
      try clear hfz80_0
      try clear hfz80_1
      try clear hfz80_2
      try clear hfz80_3
      try clear hfz80_4
      try clear hfz84_0
      try clear hfz84_1
      try clear hfz84_2
      try clear hfz84_3
      try clear hfz84_4
      try clear hfz86_0
      try clear hfz86_1
      try clear hfz86_2
      try clear hfz86_3
      try clear hfz86_4
      try clear hfz89_0
      try clear hfz89_1
      try clear hfz89_2
      try clear hfz91_0
      try clear hfz91_1
      try clear hfz91_2
      try clear hfz92_0
      try clear hfz92_1
      try clear hfz92_2
      try clear hfz92_3
      try clear hfz92_4
      try clear hfz96_0
      try clear hfz96_1
      try clear hfz96_2
      try clear hfz96_3
      try clear hfz96_4
      try clear hfz98_0
      try clear hfz98_1
      try clear hfz98_2
      try clear hfz98_3
      try clear hfz98_4
      try clear hx144_0
      try clear hx163_0
      try clear p1
      try clear p14
      try clear p144
      try clear p16
      try clear p163
      try clear p2
      try clear q1
      try clear q14
      try clear q144
      try clear q16
      try clear q163
      obtain ⟨kq, x140000_7, x140001_7, x140002_7, x140003_7, x140004_7, x141000_7, x141001_7, x141002_7, HA, HJ7, BK139, BK140, HB⟩ := hcut
      cases kq with
      | zero => exact absurd HA.out (by simp [binnaclelaw20_CreditMeets.j2])
      | succ kj7 =>
        have H := HA.out
        clear HA
        simp only [binnaclelaw20_CreditMeets.j2] at H
        replace H := Option.bind_eq_some_iff.mp H
        obtain ⟨t172, A1600, H⟩ := H
        replace H : (if t172 = true then ((credit_Given_Told.f x140000_7 x140001_7 x140002_7 x140003_7 x140004_7).bind fun bt173 => ((credit_Got_Raise.f x141000_7 x141001_7 x141002_7 bt173.1).bind fun bt178 => ((credit_Got_Room.f bt178.1 bt178.2.1 bt178.2.2).bind fun t181 => (if t181 ≥ (IntKind.u64.wrap (Int.tdiv (IntKind.u64.wrap (1 + (IntKind.u64.wrap (Int.tmod a0 300)))) 2)) then ((credit_Got_Room.f bt178.1 bt178.2.1 bt178.2.2).bind fun t182 => (if t182 > 0 then (some true) else (some (decide ((IntKind.u64.wrap (1 + (IntKind.u64.wrap (Int.tmod a0 300)))) < 2))))) else (some false))))) else ((credit_Got_Room.f x141000_7 x141001_7 x141002_7).bind fun t183 => (if t183 ≥ (IntKind.u64.wrap (Int.tdiv (IntKind.u64.wrap (1 + (IntKind.u64.wrap (Int.tmod a0 300)))) 2)) then ((credit_Got_Room.f x141000_7 x141001_7 x141002_7).bind fun t184 => (if t184 > 0 then (some true) else (some (decide ((IntKind.u64.wrap (1 + (IntKind.u64.wrap (Int.tmod a0 300)))) < 2))))) else (some false)))) = some r := H
        have A160 := Aside0.mk A1600
        clear A1600
        by_cases c161 : t172 = true
        · subst c161
          have H1 : ((credit_Given_Told.f x140000_7 x140001_7 x140002_7 x140003_7 x140004_7).bind fun bt173 => ((credit_Got_Raise.f x141000_7 x141001_7 x141002_7 bt173.1).bind fun bt178 => ((credit_Got_Room.f bt178.1 bt178.2.1 bt178.2.2).bind fun t181 => (if t181 ≥ (IntKind.u64.wrap (Int.tdiv (IntKind.u64.wrap (1 + (IntKind.u64.wrap (Int.tmod a0 300)))) 2)) then ((credit_Got_Room.f bt178.1 bt178.2.1 bt178.2.2).bind fun t182 => (if t182 > 0 then (some true) else (some (decide ((IntKind.u64.wrap (1 + (IntKind.u64.wrap (Int.tmod a0 300)))) < 2))))) else (some false))))) = some r := by rw [if_pos rfl] at H; exact H
          clear H
          have H := H1
          clear H1
          replace H := Option.bind_eq_some_iff.mp H
          obtain ⟨⟨t173, t174, t175, t176, t177⟩, A1620, H⟩ := H
          replace H : ((credit_Got_Raise.f x141000_7 x141001_7 x141002_7 t173).bind fun bt178 => ((credit_Got_Room.f bt178.1 bt178.2.1 bt178.2.2).bind fun t181 => (if t181 ≥ (IntKind.u64.wrap (Int.tdiv (IntKind.u64.wrap (1 + (IntKind.u64.wrap (Int.tmod a0 300)))) 2)) then ((credit_Got_Room.f bt178.1 bt178.2.1 bt178.2.2).bind fun t182 => (if t182 > 0 then (some true) else (some (decide ((IntKind.u64.wrap (1 + (IntKind.u64.wrap (Int.tmod a0 300)))) < 2))))) else (some false)))) = some r := H
          have A162 := Aside0.mk A1620
          clear A1620
          replace H := Option.bind_eq_some_iff.mp H
          obtain ⟨⟨t178, t179, t180⟩, A1630, H⟩ := H
          replace H : ((credit_Got_Room.f t178 t179 t180).bind fun t181 => (if t181 ≥ (IntKind.u64.wrap (Int.tdiv (IntKind.u64.wrap (1 + (IntKind.u64.wrap (Int.tmod a0 300)))) 2)) then ((credit_Got_Room.f t178 t179 t180).bind fun t182 => (if t182 > 0 then (some true) else (some (decide ((IntKind.u64.wrap (1 + (IntKind.u64.wrap (Int.tmod a0 300)))) < 2))))) else (some false))) = some r := H
          have A163 := Aside0.mk A1630
          clear A1630
          replace H := Option.bind_eq_some_iff.mp H
          obtain ⟨t181, A1640, H⟩ := H
          replace H : (if t181 ≥ (IntKind.u64.wrap (Int.tdiv (IntKind.u64.wrap (1 + (IntKind.u64.wrap (Int.tmod a0 300)))) 2)) then ((credit_Got_Room.f t178 t179 t180).bind fun t182 => (if t182 > 0 then (some true) else (some (decide ((IntKind.u64.wrap (1 + (IntKind.u64.wrap (Int.tmod a0 300)))) < 2))))) else (some false)) = some r := H
          have A164 := Aside0.mk A1640
          clear A1640
          by_cases c165 : t181 ≥ (IntKind.u64.wrap (Int.tdiv (IntKind.u64.wrap (1 + (IntKind.u64.wrap (Int.tmod a0 300)))) 2))
          · rw [if_pos c165] at H
            have c165b0 : decide ((IntKind.u64.wrap (Int.tdiv (IntKind.u64.wrap (1 + (IntKind.u64.wrap (Int.tmod a0 300)))) 2)) ≤ t181) = true := decide_eq_true c165
            clear c165
            replace H := Option.bind_eq_some_iff.mp H
            obtain ⟨t182, A1660, H⟩ := H
            replace H : (if t182 > 0 then (some true) else (some (decide ((IntKind.u64.wrap (1 + (IntKind.u64.wrap (Int.tmod a0 300)))) < 2)))) = some r := H
            have A166 := Aside0.mk A1660
            clear A1660
            by_cases c167 : t182 > 0
            · rw [if_pos c167] at H
              have c167b0 : decide (0 < t182) = true := decide_eq_true c167
              clear c167
              obtain rfl := Option.some.inj H
              have hnb168 := NB139_140.out
              have hnc168 := NB140_139.out
              have hcz169_0 : wc.cell? ⟨gb139, 0, none⟩ = some (.int .u64 x140000_7) := (blk_cell BK139.out 0).trans rfl
              have hcz169_1 : wc.cell? ⟨gb139, 1, none⟩ = some (.int .u64 x140001_7) := (blk_cell BK139.out 1).trans rfl
              have hcz169_2 : wc.cell? ⟨gb139, 2, none⟩ = some (.int .u64 x140002_7) := (blk_cell BK139.out 2).trans rfl
              have hcz169_3 : wc.cell? ⟨gb139, 3, none⟩ = some (.int .u64 x140003_7) := (blk_cell BK139.out 3).trans rfl
              have hcz169_4 : wc.cell? ⟨gb139, 4, none⟩ = some (.int .u64 x140004_7) := (blk_cell BK139.out 4).trans rfl
              have hfz169_0 := blk_frozen BK139.out 0
              have hfz169_1 := blk_frozen BK139.out 1
              have hfz169_2 := blk_frozen BK139.out 2
              have hfz169_3 := blk_frozen BK139.out 3
              have hfz169_4 := blk_frozen BK139.out 4
              go_wp2_with (first | ((with_reducible refine gate_callee (f := 34) rfl ?_); refine goesL_ (some 98) rfl rfl Try.func34 (by kernel_rfl) rfl #[.agg #[.int .u64 x140000_7, .int .u64 x140001_7, .int .u64 x140002_7, .int .u64 x140003_7, .int .u64 x140004_7]] rfl (by (try simp only [List.map_toArray, List.map_cons, List.map_nil]); first | done | rfl | (simp only [List.length_drop, List.length_take]; rfl)) ?_; (with_reducible refine (credit_Given_Wants.calls x140000_7 x140001_7 x140002_7 x140003_7 x140004_7 true _ A160.out).mono ?_); rintro e w170 ⟨rfl, hb⟩; refine ⟨_, rfl, ?_⟩; have n0_ := Aside0.mk (blk_below (g := gb139) (o := .cells #[.int .u64 x140000_7, .int .u64 x140001_7, .int .u64 x140002_7, .int .u64 x140003_7, .int .u64 x140004_7] 51 (0, 0)) (by (with_reducible repeat (first | refine blk_drewN ?_ _ | refine blk_drew ?_ | refine blk_alloc ?_ _)); exact BK139.out) hb); have n1_ := Aside0.mk (blk_below (g := gb140) (o := .cells #[.int .u64 x141000_7, .int .u64 x141001_7, .int .u64 x141002_7] 61 (0, 0)) (by (with_reducible repeat (first | refine blk_drewN ?_ _ | refine blk_drew ?_ | refine blk_alloc ?_ _)); exact BK140.out) hb); have n2_ := Aside0.mk (below_step (by repeat (first | (with_reducible first | exact HB.out | apply below_alloc | apply pw_below_drewN | apply below_drew1 | refine below_set ?_ GE139.out | refine below_set ?_ GE140.out) | exact HB.out)) hb); clear BK139; clear BK140; clear HB; have BK139 := n0_; have BK140 := n1_; have HB := n2_; clear n0_ n1_ n2_; (try clear hb); (try clear hb2); (try clear hk); (try clear hi); have hcz171_0 : w170.cell? ⟨gb139, 0, none⟩ = some (.int .u64 x140000_7) := (blk_cell BK139.out 0).trans rfl; have hcz171_1 : w170.cell? ⟨gb139, 1, none⟩ = some (.int .u64 x140001_7) := (blk_cell BK139.out 1).trans rfl; have hcz171_2 : w170.cell? ⟨gb139, 2, none⟩ = some (.int .u64 x140002_7) := (blk_cell BK139.out 2).trans rfl; have hcz171_3 : w170.cell? ⟨gb139, 3, none⟩ = some (.int .u64 x140003_7) := (blk_cell BK139.out 3).trans rfl; have hcz171_4 : w170.cell? ⟨gb139, 4, none⟩ = some (.int .u64 x140004_7) := (blk_cell BK139.out 4).trans rfl; have hfz171_0 := blk_frozen BK139.out 0; have hfz171_1 := blk_frozen BK139.out 1; have hfz171_2 := blk_frozen BK139.out 2; have hfz171_3 := blk_frozen BK139.out 3; have hfz171_4 := blk_frozen BK139.out 4) | ((with_reducible refine gate_callee (f := 31) rfl ?_); refine goesL_ (some 100) rfl rfl Try.func31 (by kernel_rfl) rfl #[.agg #[.int .u64 x140000_7, .int .u64 x140001_7, .int .u64 x140002_7, .int .u64 x140003_7, .int .u64 x140004_7]] rfl (by (try simp only [List.map_toArray, List.map_cons, List.map_nil]); first | done | rfl | (simp only [List.length_drop, List.length_take]; rfl)) ?_; (with_reducible refine (credit_Given_Told.calls x140000_7 x140001_7 x140002_7 x140003_7 x140004_7 t173 t174 t175 t176 t177 _ A162.out).mono ?_); rintro e w172 ⟨rfl, hb⟩; refine ⟨_, rfl, ?_⟩; have n0_ := Aside0.mk (blk_below (g := gb139) (o := .cells #[.int .u64 x140000_7, .int .u64 x140001_7, .int .u64 x140002_7, .int .u64 x140003_7, .int .u64 x140004_7] 51 (0, 0)) (by (with_reducible repeat (first | refine blk_drewN ?_ _ | refine blk_drew ?_ | refine blk_alloc ?_ _)); exact BK139.out) hb); have n1_ := Aside0.mk (blk_below (g := gb140) (o := .cells #[.int .u64 x141000_7, .int .u64 x141001_7, .int .u64 x141002_7] 61 (0, 0)) (by (with_reducible repeat (first | refine blk_drewN ?_ _ | refine blk_drew ?_ | refine blk_alloc ?_ _)); exact BK140.out) hb); have n2_ := Aside0.mk (below_step (by repeat (first | (with_reducible first | exact HB.out | apply below_alloc | apply pw_below_drewN | apply below_drew1 | refine below_set ?_ GE139.out | refine below_set ?_ GE140.out) | exact HB.out)) hb); clear BK139; clear BK140; clear HB; have BK139 := n0_; have BK140 := n1_; have HB := n2_; clear n0_ n1_ n2_; (try clear hb); (try clear hb2); (try clear hk); (try clear hi); have hcz173_0 : w172.cell? ⟨gb139, 0, none⟩ = some (.int .u64 x140000_7) := (blk_cell BK139.out 0).trans rfl; have hcz173_1 : w172.cell? ⟨gb139, 1, none⟩ = some (.int .u64 x140001_7) := (blk_cell BK139.out 1).trans rfl; have hcz173_2 : w172.cell? ⟨gb139, 2, none⟩ = some (.int .u64 x140002_7) := (blk_cell BK139.out 2).trans rfl; have hcz173_3 : w172.cell? ⟨gb139, 3, none⟩ = some (.int .u64 x140003_7) := (blk_cell BK139.out 3).trans rfl; have hcz173_4 : w172.cell? ⟨gb139, 4, none⟩ = some (.int .u64 x140004_7) := (blk_cell BK139.out 4).trans rfl; have hfz173_0 := blk_frozen BK139.out 0; have hfz173_1 := blk_frozen BK139.out 1; have hfz173_2 := blk_frozen BK139.out 2; have hfz173_3 := blk_frozen BK139.out 3; have hfz173_4 := blk_frozen BK139.out 4; have hcz174_0 : w172.cell? ⟨gb140, 0, none⟩ = some (.int .u64 x141000_7) := (blk_cell BK140.out 0).trans rfl; have hcz174_1 : w172.cell? ⟨gb140, 1, none⟩ = some (.int .u64 x141001_7) := (blk_cell BK140.out 1).trans rfl; have hcz174_2 : w172.cell? ⟨gb140, 2, none⟩ = some (.int .u64 x141002_7) := (blk_cell BK140.out 2).trans rfl; have hfz174_0 := blk_frozen BK140.out 0; have hfz174_1 := blk_frozen BK140.out 1; have hfz174_2 := blk_frozen BK140.out 2) | ((with_reducible refine gate_callee (f := 35) rfl ?_); refine goesL_ (some 104) rfl rfl Try.func35 (by kernel_rfl) rfl #[.agg #[.int .u64 x141000_7, .int .u64 x141001_7, .int .u64 x141002_7], .int .u64 t173] rfl (by (try simp only [List.map_toArray, List.map_cons, List.map_nil]); first | done | rfl | (simp only [List.length_drop, List.length_take]; rfl)) ?_; (with_reducible refine (credit_Got_Raise.calls x141000_7 x141001_7 x141002_7 t173 t178 t179 t180 _ A163.out).mono ?_); rintro e w175 ⟨rfl, hb⟩; refine ⟨_, rfl, ?_⟩; have n0_ := Aside0.mk (blk_below (g := gb139) (o := .cells #[.int .u64 t173, .int .u64 t174, .int .u64 t175, .int .u64 t176, .int .u64 t177] 51 (0, 0)) (by (with_reducible repeat (first | refine blk_drewN ?_ _ | refine blk_drew ?_ | refine blk_alloc ?_ _)); refine blk_put (cs := #[.int .u64 t173, .int .u64 t174, .int .u64 t175, .int .u64 t176, .int .u64 x140004_7]) ?_ 4 _ rfl; (with_reducible repeat (first | refine blk_drewN ?_ _ | refine blk_drew ?_ | refine blk_alloc ?_ _)); refine blk_put (cs := #[.int .u64 t173, .int .u64 t174, .int .u64 t175, .int .u64 x140003_7, .int .u64 x140004_7]) ?_ 3 _ rfl; (with_reducible repeat (first | refine blk_drewN ?_ _ | refine blk_drew ?_ | refine blk_alloc ?_ _)); refine blk_put (cs := #[.int .u64 t173, .int .u64 t174, .int .u64 x140002_7, .int .u64 x140003_7, .int .u64 x140004_7]) ?_ 2 _ rfl; (with_reducible repeat (first | refine blk_drewN ?_ _ | refine blk_drew ?_ | refine blk_alloc ?_ _)); refine blk_put (cs := #[.int .u64 t173, .int .u64 x140001_7, .int .u64 x140002_7, .int .u64 x140003_7, .int .u64 x140004_7]) ?_ 1 _ rfl; (with_reducible repeat (first | refine blk_drewN ?_ _ | refine blk_drew ?_ | refine blk_alloc ?_ _)); refine blk_put (cs := #[.int .u64 x140000_7, .int .u64 x140001_7, .int .u64 x140002_7, .int .u64 x140003_7, .int .u64 x140004_7]) ?_ 0 _ rfl; (with_reducible repeat (first | refine blk_drewN ?_ _ | refine blk_drew ?_ | refine blk_alloc ?_ _)); exact BK139.out) hb); have n1_ := Aside0.mk (blk_below (g := gb140) (o := .cells #[.int .u64 x141000_7, .int .u64 x141001_7, .int .u64 x141002_7] 61 (0, 0)) (by (with_reducible repeat (first | refine blk_drewN ?_ _ | refine blk_drew ?_ | refine blk_alloc ?_ _)); refine blk_far ?_ NB140_139.out _; (with_reducible repeat (first | refine blk_drewN ?_ _ | refine blk_drew ?_ | refine blk_alloc ?_ _)); refine blk_far ?_ NB140_139.out _; (with_reducible repeat (first | refine blk_drewN ?_ _ | refine blk_drew ?_ | refine blk_alloc ?_ _)); refine blk_far ?_ NB140_139.out _; (with_reducible repeat (first | refine blk_drewN ?_ _ | refine blk_drew ?_ | refine blk_alloc ?_ _)); refine blk_far ?_ NB140_139.out _; (with_reducible repeat (first | refine blk_drewN ?_ _ | refine blk_drew ?_ | refine blk_alloc ?_ _)); refine blk_far ?_ NB140_139.out _; (with_reducible repeat (first | refine blk_drewN ?_ _ | refine blk_drew ?_ | refine blk_alloc ?_ _)); exact BK140.out) hb); have n2_ := Aside0.mk (below_step (by repeat (first | (with_reducible first | exact HB.out | apply below_alloc | apply pw_below_drewN | apply below_drew1 | refine below_set ?_ GE139.out | refine below_set ?_ GE140.out) | exact HB.out)) hb); clear BK139; clear BK140; clear HB; have BK139 := n0_; have BK140 := n1_; have HB := n2_; clear n0_ n1_ n2_; (try clear hb); (try clear hb2); (try clear hk); (try clear hi); have hcz176_0 : w175.cell? ⟨gb140, 0, none⟩ = some (.int .u64 x141000_7) := (blk_cell BK140.out 0).trans rfl; have hcz176_1 : w175.cell? ⟨gb140, 1, none⟩ = some (.int .u64 x141001_7) := (blk_cell BK140.out 1).trans rfl; have hcz176_2 : w175.cell? ⟨gb140, 2, none⟩ = some (.int .u64 x141002_7) := (blk_cell BK140.out 2).trans rfl; have hfz176_0 := blk_frozen BK140.out 0; have hfz176_1 := blk_frozen BK140.out 1; have hfz176_2 := blk_frozen BK140.out 2) | ((with_reducible refine gate_callee (f := 37) rfl ?_); refine goesL_ (some 106) rfl rfl Try.func37 (by kernel_rfl) rfl #[.agg #[.int .u64 t178, .int .u64 t179, .int .u64 t180]] rfl (by (try simp only [List.map_toArray, List.map_cons, List.map_nil]); first | done | rfl | (simp only [List.length_drop, List.length_take]; rfl)) ?_; (with_reducible refine (credit_Got_Room.calls t178 t179 t180 t181 _ A164.out).mono ?_); rintro e w177 ⟨rfl, hb⟩; refine ⟨_, rfl, ?_⟩; have n0_ := Aside0.mk (blk_below (g := gb139) (o := .cells #[.int .u64 t173, .int .u64 t174, .int .u64 t175, .int .u64 t176, .int .u64 t177] 51 (0, 0)) (by (with_reducible repeat (first | refine blk_drewN ?_ _ | refine blk_drew ?_ | refine blk_alloc ?_ _)); refine blk_far ?_ NB139_140.out _; (with_reducible repeat (first | refine blk_drewN ?_ _ | refine blk_drew ?_ | refine blk_alloc ?_ _)); refine blk_far ?_ NB139_140.out _; (with_reducible repeat (first | refine blk_drewN ?_ _ | refine blk_drew ?_ | refine blk_alloc ?_ _)); refine blk_far ?_ NB139_140.out _; (with_reducible repeat (first | refine blk_drewN ?_ _ | refine blk_drew ?_ | refine blk_alloc ?_ _)); exact BK139.out) hb); have n1_ := Aside0.mk (blk_below (g := gb140) (o := .cells #[.int .u64 t178, .int .u64 t179, .int .u64 t180] 61 (0, 0)) (by (with_reducible repeat (first | refine blk_drewN ?_ _ | refine blk_drew ?_ | refine blk_alloc ?_ _)); refine blk_put (cs := #[.int .u64 t178, .int .u64 t179, .int .u64 x141002_7]) ?_ 2 _ rfl; (with_reducible repeat (first | refine blk_drewN ?_ _ | refine blk_drew ?_ | refine blk_alloc ?_ _)); refine blk_put (cs := #[.int .u64 t178, .int .u64 x141001_7, .int .u64 x141002_7]) ?_ 1 _ rfl; (with_reducible repeat (first | refine blk_drewN ?_ _ | refine blk_drew ?_ | refine blk_alloc ?_ _)); refine blk_put (cs := #[.int .u64 x141000_7, .int .u64 x141001_7, .int .u64 x141002_7]) ?_ 0 _ rfl; (with_reducible repeat (first | refine blk_drewN ?_ _ | refine blk_drew ?_ | refine blk_alloc ?_ _)); exact BK140.out) hb); have n2_ := Aside0.mk (below_step (by repeat (first | (with_reducible first | exact HB.out | apply below_alloc | apply pw_below_drewN | apply below_drew1 | refine below_set ?_ GE139.out | refine below_set ?_ GE140.out) | exact HB.out)) hb); clear BK139; clear BK140; clear HB; have BK139 := n0_; have BK140 := n1_; have HB := n2_; clear n0_ n1_ n2_; (try clear hb); (try clear hb2); (try clear hk); (try clear hi); have hcz178_0 : w177.cell? ⟨gb140, 0, none⟩ = some (.int .u64 t178) := (blk_cell BK140.out 0).trans rfl; have hcz178_1 : w177.cell? ⟨gb140, 1, none⟩ = some (.int .u64 t179) := (blk_cell BK140.out 1).trans rfl; have hcz178_2 : w177.cell? ⟨gb140, 2, none⟩ = some (.int .u64 t180) := (blk_cell BK140.out 2).trans rfl; have hfz178_0 := blk_frozen BK140.out 0; have hfz178_1 := blk_frozen BK140.out 1; have hfz178_2 := blk_frozen BK140.out 2) | (go_at_call 37; (with_reducible refine (credit_Got_Room.calls t178 t179 t180 t182 _ A166.out).mono ?_); rintro e w179 ⟨rfl, hb⟩; have n0_ := Aside0.mk (blk_below (g := gb139) (o := .cells #[.int .u64 t173, .int .u64 t174, .int .u64 t175, .int .u64 t176, .int .u64 t177] 51 (0, 0)) (by (with_reducible repeat (first | refine blk_drewN ?_ _ | refine blk_drew ?_ | refine blk_alloc ?_ _)); exact BK139.out) hb); have n1_ := Aside0.mk (blk_below (g := gb140) (o := .cells #[.int .u64 t178, .int .u64 t179, .int .u64 t180] 61 (0, 0)) (by (with_reducible repeat (first | refine blk_drewN ?_ _ | refine blk_drew ?_ | refine blk_alloc ?_ _)); exact BK140.out) hb); have n2_ := Aside0.mk (below_step (by repeat (first | (with_reducible first | exact HB.out | apply below_alloc | apply pw_below_drewN | apply below_drew1 | refine below_set ?_ GE139.out | refine below_set ?_ GE140.out) | exact HB.out)) hb); clear BK139; clear BK140; clear HB; have BK139 := n0_; have BK140 := n1_; have HB := n2_; clear n0_ n1_ n2_; (try clear hb); (try clear hb2); (try clear hk); (try clear hi)))
              go_ret
              exact ⟨by first | rfl | (simp [errW_none, errW_some] <;> rfl) | (simp [*, errW_none, errW_some] <;> rfl), by repeat (first | (with_reducible first | exact HB.out | apply below_alloc | apply pw_below_drewN | apply below_drew1 | refine below_set ?_ GE139.out | refine below_set ?_ GE140.out) | exact HB.out)⟩
            · rw [if_neg c167] at H
              have c167b0 : decide (0 < t182) = false := decide_eq_false c167
              clear c167
              obtain rfl := Option.some.inj H
              have hnb180 := NB139_140.out
              have hnc180 := NB140_139.out
              have hcz181_0 : wc.cell? ⟨gb139, 0, none⟩ = some (.int .u64 x140000_7) := (blk_cell BK139.out 0).trans rfl
              have hcz181_1 : wc.cell? ⟨gb139, 1, none⟩ = some (.int .u64 x140001_7) := (blk_cell BK139.out 1).trans rfl
              have hcz181_2 : wc.cell? ⟨gb139, 2, none⟩ = some (.int .u64 x140002_7) := (blk_cell BK139.out 2).trans rfl
              have hcz181_3 : wc.cell? ⟨gb139, 3, none⟩ = some (.int .u64 x140003_7) := (blk_cell BK139.out 3).trans rfl
              have hcz181_4 : wc.cell? ⟨gb139, 4, none⟩ = some (.int .u64 x140004_7) := (blk_cell BK139.out 4).trans rfl
              have hfz181_0 := blk_frozen BK139.out 0
              have hfz181_1 := blk_frozen BK139.out 1
              have hfz181_2 := blk_frozen BK139.out 2
              have hfz181_3 := blk_frozen BK139.out 3
              have hfz181_4 := blk_frozen BK139.out 4
              go_wp2_with (first | ((with_reducible refine gate_callee (f := 34) rfl ?_); refine goesL_ (some 98) rfl rfl Try.func34 (by kernel_rfl) rfl #[.agg #[.int .u64 x140000_7, .int .u64 x140001_7, .int .u64 x140002_7, .int .u64 x140003_7, .int .u64 x140004_7]] rfl (by (try simp only [List.map_toArray, List.map_cons, List.map_nil]); first | done | rfl | (simp only [List.length_drop, List.length_take]; rfl)) ?_; (with_reducible refine (credit_Given_Wants.calls x140000_7 x140001_7 x140002_7 x140003_7 x140004_7 true _ A160.out).mono ?_); rintro e w182 ⟨rfl, hb⟩; refine ⟨_, rfl, ?_⟩; have n0_ := Aside0.mk (blk_below (g := gb139) (o := .cells #[.int .u64 x140000_7, .int .u64 x140001_7, .int .u64 x140002_7, .int .u64 x140003_7, .int .u64 x140004_7] 51 (0, 0)) (by (with_reducible repeat (first | refine blk_drewN ?_ _ | refine blk_drew ?_ | refine blk_alloc ?_ _)); exact BK139.out) hb); have n1_ := Aside0.mk (blk_below (g := gb140) (o := .cells #[.int .u64 x141000_7, .int .u64 x141001_7, .int .u64 x141002_7] 61 (0, 0)) (by (with_reducible repeat (first | refine blk_drewN ?_ _ | refine blk_drew ?_ | refine blk_alloc ?_ _)); exact BK140.out) hb); have n2_ := Aside0.mk (below_step (by repeat (first | (with_reducible first | exact HB.out | apply below_alloc | apply pw_below_drewN | apply below_drew1 | refine below_set ?_ GE139.out | refine below_set ?_ GE140.out) | exact HB.out)) hb); clear BK139; clear BK140; clear HB; have BK139 := n0_; have BK140 := n1_; have HB := n2_; clear n0_ n1_ n2_; (try clear hb); (try clear hb2); (try clear hk); (try clear hi); have hcz183_0 : w182.cell? ⟨gb139, 0, none⟩ = some (.int .u64 x140000_7) := (blk_cell BK139.out 0).trans rfl; have hcz183_1 : w182.cell? ⟨gb139, 1, none⟩ = some (.int .u64 x140001_7) := (blk_cell BK139.out 1).trans rfl; have hcz183_2 : w182.cell? ⟨gb139, 2, none⟩ = some (.int .u64 x140002_7) := (blk_cell BK139.out 2).trans rfl; have hcz183_3 : w182.cell? ⟨gb139, 3, none⟩ = some (.int .u64 x140003_7) := (blk_cell BK139.out 3).trans rfl; have hcz183_4 : w182.cell? ⟨gb139, 4, none⟩ = some (.int .u64 x140004_7) := (blk_cell BK139.out 4).trans rfl; have hfz183_0 := blk_frozen BK139.out 0; have hfz183_1 := blk_frozen BK139.out 1; have hfz183_2 := blk_frozen BK139.out 2; have hfz183_3 := blk_frozen BK139.out 3; have hfz183_4 := blk_frozen BK139.out 4) | ((with_reducible refine gate_callee (f := 31) rfl ?_); refine goesL_ (some 100) rfl rfl Try.func31 (by kernel_rfl) rfl #[.agg #[.int .u64 x140000_7, .int .u64 x140001_7, .int .u64 x140002_7, .int .u64 x140003_7, .int .u64 x140004_7]] rfl (by (try simp only [List.map_toArray, List.map_cons, List.map_nil]); first | done | rfl | (simp only [List.length_drop, List.length_take]; rfl)) ?_; (with_reducible refine (credit_Given_Told.calls x140000_7 x140001_7 x140002_7 x140003_7 x140004_7 t173 t174 t175 t176 t177 _ A162.out).mono ?_); rintro e w184 ⟨rfl, hb⟩; refine ⟨_, rfl, ?_⟩; have n0_ := Aside0.mk (blk_below (g := gb139) (o := .cells #[.int .u64 x140000_7, .int .u64 x140001_7, .int .u64 x140002_7, .int .u64 x140003_7, .int .u64 x140004_7] 51 (0, 0)) (by (with_reducible repeat (first | refine blk_drewN ?_ _ | refine blk_drew ?_ | refine blk_alloc ?_ _)); exact BK139.out) hb); have n1_ := Aside0.mk (blk_below (g := gb140) (o := .cells #[.int .u64 x141000_7, .int .u64 x141001_7, .int .u64 x141002_7] 61 (0, 0)) (by (with_reducible repeat (first | refine blk_drewN ?_ _ | refine blk_drew ?_ | refine blk_alloc ?_ _)); exact BK140.out) hb); have n2_ := Aside0.mk (below_step (by repeat (first | (with_reducible first | exact HB.out | apply below_alloc | apply pw_below_drewN | apply below_drew1 | refine below_set ?_ GE139.out | refine below_set ?_ GE140.out) | exact HB.out)) hb); clear BK139; clear BK140; clear HB; have BK139 := n0_; have BK140 := n1_; have HB := n2_; clear n0_ n1_ n2_; (try clear hb); (try clear hb2); (try clear hk); (try clear hi); have hcz185_0 : w184.cell? ⟨gb139, 0, none⟩ = some (.int .u64 x140000_7) := (blk_cell BK139.out 0).trans rfl; have hcz185_1 : w184.cell? ⟨gb139, 1, none⟩ = some (.int .u64 x140001_7) := (blk_cell BK139.out 1).trans rfl; have hcz185_2 : w184.cell? ⟨gb139, 2, none⟩ = some (.int .u64 x140002_7) := (blk_cell BK139.out 2).trans rfl; have hcz185_3 : w184.cell? ⟨gb139, 3, none⟩ = some (.int .u64 x140003_7) := (blk_cell BK139.out 3).trans rfl; have hcz185_4 : w184.cell? ⟨gb139, 4, none⟩ = some (.int .u64 x140004_7) := (blk_cell BK139.out 4).trans rfl; have hfz185_0 := blk_frozen BK139.out 0; have hfz185_1 := blk_frozen BK139.out 1; have hfz185_2 := blk_frozen BK139.out 2; have hfz185_3 := blk_frozen BK139.out 3; have hfz185_4 := blk_frozen BK139.out 4; have hcz186_0 : w184.cell? ⟨gb140, 0, none⟩ = some (.int .u64 x141000_7) := (blk_cell BK140.out 0).trans rfl; have hcz186_1 : w184.cell? ⟨gb140, 1, none⟩ = some (.int .u64 x141001_7) := (blk_cell BK140.out 1).trans rfl; have hcz186_2 : w184.cell? ⟨gb140, 2, none⟩ = some (.int .u64 x141002_7) := (blk_cell BK140.out 2).trans rfl; have hfz186_0 := blk_frozen BK140.out 0; have hfz186_1 := blk_frozen BK140.out 1; have hfz186_2 := blk_frozen BK140.out 2) | ((with_reducible refine gate_callee (f := 35) rfl ?_); refine goesL_ (some 104) rfl rfl Try.func35 (by kernel_rfl) rfl #[.agg #[.int .u64 x141000_7, .int .u64 x141001_7, .int .u64 x141002_7], .int .u64 t173] rfl (by (try simp only [List.map_toArray, List.map_cons, List.map_nil]); first | done | rfl | (simp only [List.length_drop, List.length_take]; rfl)) ?_; (with_reducible refine (credit_Got_Raise.calls x141000_7 x141001_7 x141002_7 t173 t178 t179 t180 _ A163.out).mono ?_); rintro e w187 ⟨rfl, hb⟩; refine ⟨_, rfl, ?_⟩; have n0_ := Aside0.mk (blk_below (g := gb139) (o := .cells #[.int .u64 t173, .int .u64 t174, .int .u64 t175, .int .u64 t176, .int .u64 t177] 51 (0, 0)) (by (with_reducible repeat (first | refine blk_drewN ?_ _ | refine blk_drew ?_ | refine blk_alloc ?_ _)); refine blk_put (cs := #[.int .u64 t173, .int .u64 t174, .int .u64 t175, .int .u64 t176, .int .u64 x140004_7]) ?_ 4 _ rfl; (with_reducible repeat (first | refine blk_drewN ?_ _ | refine blk_drew ?_ | refine blk_alloc ?_ _)); refine blk_put (cs := #[.int .u64 t173, .int .u64 t174, .int .u64 t175, .int .u64 x140003_7, .int .u64 x140004_7]) ?_ 3 _ rfl; (with_reducible repeat (first | refine blk_drewN ?_ _ | refine blk_drew ?_ | refine blk_alloc ?_ _)); refine blk_put (cs := #[.int .u64 t173, .int .u64 t174, .int .u64 x140002_7, .int .u64 x140003_7, .int .u64 x140004_7]) ?_ 2 _ rfl; (with_reducible repeat (first | refine blk_drewN ?_ _ | refine blk_drew ?_ | refine blk_alloc ?_ _)); refine blk_put (cs := #[.int .u64 t173, .int .u64 x140001_7, .int .u64 x140002_7, .int .u64 x140003_7, .int .u64 x140004_7]) ?_ 1 _ rfl; (with_reducible repeat (first | refine blk_drewN ?_ _ | refine blk_drew ?_ | refine blk_alloc ?_ _)); refine blk_put (cs := #[.int .u64 x140000_7, .int .u64 x140001_7, .int .u64 x140002_7, .int .u64 x140003_7, .int .u64 x140004_7]) ?_ 0 _ rfl; (with_reducible repeat (first | refine blk_drewN ?_ _ | refine blk_drew ?_ | refine blk_alloc ?_ _)); exact BK139.out) hb); have n1_ := Aside0.mk (blk_below (g := gb140) (o := .cells #[.int .u64 x141000_7, .int .u64 x141001_7, .int .u64 x141002_7] 61 (0, 0)) (by (with_reducible repeat (first | refine blk_drewN ?_ _ | refine blk_drew ?_ | refine blk_alloc ?_ _)); refine blk_far ?_ NB140_139.out _; (with_reducible repeat (first | refine blk_drewN ?_ _ | refine blk_drew ?_ | refine blk_alloc ?_ _)); refine blk_far ?_ NB140_139.out _; (with_reducible repeat (first | refine blk_drewN ?_ _ | refine blk_drew ?_ | refine blk_alloc ?_ _)); refine blk_far ?_ NB140_139.out _; (with_reducible repeat (first | refine blk_drewN ?_ _ | refine blk_drew ?_ | refine blk_alloc ?_ _)); refine blk_far ?_ NB140_139.out _; (with_reducible repeat (first | refine blk_drewN ?_ _ | refine blk_drew ?_ | refine blk_alloc ?_ _)); refine blk_far ?_ NB140_139.out _; (with_reducible repeat (first | refine blk_drewN ?_ _ | refine blk_drew ?_ | refine blk_alloc ?_ _)); exact BK140.out) hb); have n2_ := Aside0.mk (below_step (by repeat (first | (with_reducible first | exact HB.out | apply below_alloc | apply pw_below_drewN | apply below_drew1 | refine below_set ?_ GE139.out | refine below_set ?_ GE140.out) | exact HB.out)) hb); clear BK139; clear BK140; clear HB; have BK139 := n0_; have BK140 := n1_; have HB := n2_; clear n0_ n1_ n2_; (try clear hb); (try clear hb2); (try clear hk); (try clear hi); have hcz188_0 : w187.cell? ⟨gb140, 0, none⟩ = some (.int .u64 x141000_7) := (blk_cell BK140.out 0).trans rfl; have hcz188_1 : w187.cell? ⟨gb140, 1, none⟩ = some (.int .u64 x141001_7) := (blk_cell BK140.out 1).trans rfl; have hcz188_2 : w187.cell? ⟨gb140, 2, none⟩ = some (.int .u64 x141002_7) := (blk_cell BK140.out 2).trans rfl; have hfz188_0 := blk_frozen BK140.out 0; have hfz188_1 := blk_frozen BK140.out 1; have hfz188_2 := blk_frozen BK140.out 2) | ((with_reducible refine gate_callee (f := 37) rfl ?_); refine goesL_ (some 106) rfl rfl Try.func37 (by kernel_rfl) rfl #[.agg #[.int .u64 t178, .int .u64 t179, .int .u64 t180]] rfl (by (try simp only [List.map_toArray, List.map_cons, List.map_nil]); first | done | rfl | (simp only [List.length_drop, List.length_take]; rfl)) ?_; (with_reducible refine (credit_Got_Room.calls t178 t179 t180 t181 _ A164.out).mono ?_); rintro e w189 ⟨rfl, hb⟩; refine ⟨_, rfl, ?_⟩; have n0_ := Aside0.mk (blk_below (g := gb139) (o := .cells #[.int .u64 t173, .int .u64 t174, .int .u64 t175, .int .u64 t176, .int .u64 t177] 51 (0, 0)) (by (with_reducible repeat (first | refine blk_drewN ?_ _ | refine blk_drew ?_ | refine blk_alloc ?_ _)); refine blk_far ?_ NB139_140.out _; (with_reducible repeat (first | refine blk_drewN ?_ _ | refine blk_drew ?_ | refine blk_alloc ?_ _)); refine blk_far ?_ NB139_140.out _; (with_reducible repeat (first | refine blk_drewN ?_ _ | refine blk_drew ?_ | refine blk_alloc ?_ _)); refine blk_far ?_ NB139_140.out _; (with_reducible repeat (first | refine blk_drewN ?_ _ | refine blk_drew ?_ | refine blk_alloc ?_ _)); exact BK139.out) hb); have n1_ := Aside0.mk (blk_below (g := gb140) (o := .cells #[.int .u64 t178, .int .u64 t179, .int .u64 t180] 61 (0, 0)) (by (with_reducible repeat (first | refine blk_drewN ?_ _ | refine blk_drew ?_ | refine blk_alloc ?_ _)); refine blk_put (cs := #[.int .u64 t178, .int .u64 t179, .int .u64 x141002_7]) ?_ 2 _ rfl; (with_reducible repeat (first | refine blk_drewN ?_ _ | refine blk_drew ?_ | refine blk_alloc ?_ _)); refine blk_put (cs := #[.int .u64 t178, .int .u64 x141001_7, .int .u64 x141002_7]) ?_ 1 _ rfl; (with_reducible repeat (first | refine blk_drewN ?_ _ | refine blk_drew ?_ | refine blk_alloc ?_ _)); refine blk_put (cs := #[.int .u64 x141000_7, .int .u64 x141001_7, .int .u64 x141002_7]) ?_ 0 _ rfl; (with_reducible repeat (first | refine blk_drewN ?_ _ | refine blk_drew ?_ | refine blk_alloc ?_ _)); exact BK140.out) hb); have n2_ := Aside0.mk (below_step (by repeat (first | (with_reducible first | exact HB.out | apply below_alloc | apply pw_below_drewN | apply below_drew1 | refine below_set ?_ GE139.out | refine below_set ?_ GE140.out) | exact HB.out)) hb); clear BK139; clear BK140; clear HB; have BK139 := n0_; have BK140 := n1_; have HB := n2_; clear n0_ n1_ n2_; (try clear hb); (try clear hb2); (try clear hk); (try clear hi); have hcz190_0 : w189.cell? ⟨gb140, 0, none⟩ = some (.int .u64 t178) := (blk_cell BK140.out 0).trans rfl; have hcz190_1 : w189.cell? ⟨gb140, 1, none⟩ = some (.int .u64 t179) := (blk_cell BK140.out 1).trans rfl; have hcz190_2 : w189.cell? ⟨gb140, 2, none⟩ = some (.int .u64 t180) := (blk_cell BK140.out 2).trans rfl; have hfz190_0 := blk_frozen BK140.out 0; have hfz190_1 := blk_frozen BK140.out 1; have hfz190_2 := blk_frozen BK140.out 2) | (go_at_call 37; (with_reducible refine (credit_Got_Room.calls t178 t179 t180 t182 _ A166.out).mono ?_); rintro e w191 ⟨rfl, hb⟩; have n0_ := Aside0.mk (blk_below (g := gb139) (o := .cells #[.int .u64 t173, .int .u64 t174, .int .u64 t175, .int .u64 t176, .int .u64 t177] 51 (0, 0)) (by (with_reducible repeat (first | refine blk_drewN ?_ _ | refine blk_drew ?_ | refine blk_alloc ?_ _)); exact BK139.out) hb); have n1_ := Aside0.mk (blk_below (g := gb140) (o := .cells #[.int .u64 t178, .int .u64 t179, .int .u64 t180] 61 (0, 0)) (by (with_reducible repeat (first | refine blk_drewN ?_ _ | refine blk_drew ?_ | refine blk_alloc ?_ _)); exact BK140.out) hb); have n2_ := Aside0.mk (below_step (by repeat (first | (with_reducible first | exact HB.out | apply below_alloc | apply pw_below_drewN | apply below_drew1 | refine below_set ?_ GE139.out | refine below_set ?_ GE140.out) | exact HB.out)) hb); clear BK139; clear BK140; clear HB; have BK139 := n0_; have BK140 := n1_; have HB := n2_; clear n0_ n1_ n2_; (try clear hb); (try clear hb2); (try clear hk); (try clear hi)))
              go_ret
              exact ⟨by first | rfl | (simp [errW_none, errW_some] <;> rfl) | (simp [*, errW_none, errW_some] <;> rfl), by repeat (first | (with_reducible first | exact HB.out | apply below_alloc | apply pw_below_drewN | apply below_drew1 | refine below_set ?_ GE139.out | refine below_set ?_ GE140.out) | exact HB.out)⟩
          · rw [if_neg c165] at H
            have c165b0 : decide ((IntKind.u64.wrap (Int.tdiv (IntKind.u64.wrap (1 + (IntKind.u64.wrap (Int.tmod a0 300)))) 2)) ≤ t181) = false := decide_eq_false c165
            clear c165
            obtain rfl := Option.some.inj H
            have hnb192 := NB139_140.out
            have hnc192 := NB140_139.out
            have hcz193_0 : wc.cell? ⟨gb139, 0, none⟩ = some (.int .u64 x140000_7) := (blk_cell BK139.out 0).trans rfl
            have hcz193_1 : wc.cell? ⟨gb139, 1, none⟩ = some (.int .u64 x140001_7) := (blk_cell BK139.out 1).trans rfl
            have hcz193_2 : wc.cell? ⟨gb139, 2, none⟩ = some (.int .u64 x140002_7) := (blk_cell BK139.out 2).trans rfl
            have hcz193_3 : wc.cell? ⟨gb139, 3, none⟩ = some (.int .u64 x140003_7) := (blk_cell BK139.out 3).trans rfl
            have hcz193_4 : wc.cell? ⟨gb139, 4, none⟩ = some (.int .u64 x140004_7) := (blk_cell BK139.out 4).trans rfl
            have hfz193_0 := blk_frozen BK139.out 0
            have hfz193_1 := blk_frozen BK139.out 1
            have hfz193_2 := blk_frozen BK139.out 2
            have hfz193_3 := blk_frozen BK139.out 3
            have hfz193_4 := blk_frozen BK139.out 4
            go_wp2_with (first | ((with_reducible refine gate_callee (f := 34) rfl ?_); refine goesL_ (some 98) rfl rfl Try.func34 (by kernel_rfl) rfl #[.agg #[.int .u64 x140000_7, .int .u64 x140001_7, .int .u64 x140002_7, .int .u64 x140003_7, .int .u64 x140004_7]] rfl (by (try simp only [List.map_toArray, List.map_cons, List.map_nil]); first | done | rfl | (simp only [List.length_drop, List.length_take]; rfl)) ?_; (with_reducible refine (credit_Given_Wants.calls x140000_7 x140001_7 x140002_7 x140003_7 x140004_7 true _ A160.out).mono ?_); rintro e w194 ⟨rfl, hb⟩; refine ⟨_, rfl, ?_⟩; have n0_ := Aside0.mk (blk_below (g := gb139) (o := .cells #[.int .u64 x140000_7, .int .u64 x140001_7, .int .u64 x140002_7, .int .u64 x140003_7, .int .u64 x140004_7] 51 (0, 0)) (by (with_reducible repeat (first | refine blk_drewN ?_ _ | refine blk_drew ?_ | refine blk_alloc ?_ _)); exact BK139.out) hb); have n1_ := Aside0.mk (blk_below (g := gb140) (o := .cells #[.int .u64 x141000_7, .int .u64 x141001_7, .int .u64 x141002_7] 61 (0, 0)) (by (with_reducible repeat (first | refine blk_drewN ?_ _ | refine blk_drew ?_ | refine blk_alloc ?_ _)); exact BK140.out) hb); have n2_ := Aside0.mk (below_step (by repeat (first | (with_reducible first | exact HB.out | apply below_alloc | apply pw_below_drewN | apply below_drew1 | refine below_set ?_ GE139.out | refine below_set ?_ GE140.out) | exact HB.out)) hb); clear BK139; clear BK140; clear HB; have BK139 := n0_; have BK140 := n1_; have HB := n2_; clear n0_ n1_ n2_; (try clear hb); (try clear hb2); (try clear hk); (try clear hi); have hcz195_0 : w194.cell? ⟨gb139, 0, none⟩ = some (.int .u64 x140000_7) := (blk_cell BK139.out 0).trans rfl; have hcz195_1 : w194.cell? ⟨gb139, 1, none⟩ = some (.int .u64 x140001_7) := (blk_cell BK139.out 1).trans rfl; have hcz195_2 : w194.cell? ⟨gb139, 2, none⟩ = some (.int .u64 x140002_7) := (blk_cell BK139.out 2).trans rfl; have hcz195_3 : w194.cell? ⟨gb139, 3, none⟩ = some (.int .u64 x140003_7) := (blk_cell BK139.out 3).trans rfl; have hcz195_4 : w194.cell? ⟨gb139, 4, none⟩ = some (.int .u64 x140004_7) := (blk_cell BK139.out 4).trans rfl; have hfz195_0 := blk_frozen BK139.out 0; have hfz195_1 := blk_frozen BK139.out 1; have hfz195_2 := blk_frozen BK139.out 2; have hfz195_3 := blk_frozen BK139.out 3; have hfz195_4 := blk_frozen BK139.out 4) | ((with_reducible refine gate_callee (f := 31) rfl ?_); refine goesL_ (some 100) rfl rfl Try.func31 (by kernel_rfl) rfl #[.agg #[.int .u64 x140000_7, .int .u64 x140001_7, .int .u64 x140002_7, .int .u64 x140003_7, .int .u64 x140004_7]] rfl (by (try simp only [List.map_toArray, List.map_cons, List.map_nil]); first | done | rfl | (simp only [List.length_drop, List.length_take]; rfl)) ?_; (with_reducible refine (credit_Given_Told.calls x140000_7 x140001_7 x140002_7 x140003_7 x140004_7 t173 t174 t175 t176 t177 _ A162.out).mono ?_); rintro e w196 ⟨rfl, hb⟩; refine ⟨_, rfl, ?_⟩; have n0_ := Aside0.mk (blk_below (g := gb139) (o := .cells #[.int .u64 x140000_7, .int .u64 x140001_7, .int .u64 x140002_7, .int .u64 x140003_7, .int .u64 x140004_7] 51 (0, 0)) (by (with_reducible repeat (first | refine blk_drewN ?_ _ | refine blk_drew ?_ | refine blk_alloc ?_ _)); exact BK139.out) hb); have n1_ := Aside0.mk (blk_below (g := gb140) (o := .cells #[.int .u64 x141000_7, .int .u64 x141001_7, .int .u64 x141002_7] 61 (0, 0)) (by (with_reducible repeat (first | refine blk_drewN ?_ _ | refine blk_drew ?_ | refine blk_alloc ?_ _)); exact BK140.out) hb); have n2_ := Aside0.mk (below_step (by repeat (first | (with_reducible first | exact HB.out | apply below_alloc | apply pw_below_drewN | apply below_drew1 | refine below_set ?_ GE139.out | refine below_set ?_ GE140.out) | exact HB.out)) hb); clear BK139; clear BK140; clear HB; have BK139 := n0_; have BK140 := n1_; have HB := n2_; clear n0_ n1_ n2_; (try clear hb); (try clear hb2); (try clear hk); (try clear hi); have hcz197_0 : w196.cell? ⟨gb139, 0, none⟩ = some (.int .u64 x140000_7) := (blk_cell BK139.out 0).trans rfl; have hcz197_1 : w196.cell? ⟨gb139, 1, none⟩ = some (.int .u64 x140001_7) := (blk_cell BK139.out 1).trans rfl; have hcz197_2 : w196.cell? ⟨gb139, 2, none⟩ = some (.int .u64 x140002_7) := (blk_cell BK139.out 2).trans rfl; have hcz197_3 : w196.cell? ⟨gb139, 3, none⟩ = some (.int .u64 x140003_7) := (blk_cell BK139.out 3).trans rfl; have hcz197_4 : w196.cell? ⟨gb139, 4, none⟩ = some (.int .u64 x140004_7) := (blk_cell BK139.out 4).trans rfl; have hfz197_0 := blk_frozen BK139.out 0; have hfz197_1 := blk_frozen BK139.out 1; have hfz197_2 := blk_frozen BK139.out 2; have hfz197_3 := blk_frozen BK139.out 3; have hfz197_4 := blk_frozen BK139.out 4; have hcz198_0 : w196.cell? ⟨gb140, 0, none⟩ = some (.int .u64 x141000_7) := (blk_cell BK140.out 0).trans rfl; have hcz198_1 : w196.cell? ⟨gb140, 1, none⟩ = some (.int .u64 x141001_7) := (blk_cell BK140.out 1).trans rfl; have hcz198_2 : w196.cell? ⟨gb140, 2, none⟩ = some (.int .u64 x141002_7) := (blk_cell BK140.out 2).trans rfl; have hfz198_0 := blk_frozen BK140.out 0; have hfz198_1 := blk_frozen BK140.out 1; have hfz198_2 := blk_frozen BK140.out 2) | ((with_reducible refine gate_callee (f := 35) rfl ?_); refine goesL_ (some 104) rfl rfl Try.func35 (by kernel_rfl) rfl #[.agg #[.int .u64 x141000_7, .int .u64 x141001_7, .int .u64 x141002_7], .int .u64 t173] rfl (by (try simp only [List.map_toArray, List.map_cons, List.map_nil]); first | done | rfl | (simp only [List.length_drop, List.length_take]; rfl)) ?_; (with_reducible refine (credit_Got_Raise.calls x141000_7 x141001_7 x141002_7 t173 t178 t179 t180 _ A163.out).mono ?_); rintro e w199 ⟨rfl, hb⟩; refine ⟨_, rfl, ?_⟩; have n0_ := Aside0.mk (blk_below (g := gb139) (o := .cells #[.int .u64 t173, .int .u64 t174, .int .u64 t175, .int .u64 t176, .int .u64 t177] 51 (0, 0)) (by (with_reducible repeat (first | refine blk_drewN ?_ _ | refine blk_drew ?_ | refine blk_alloc ?_ _)); refine blk_put (cs := #[.int .u64 t173, .int .u64 t174, .int .u64 t175, .int .u64 t176, .int .u64 x140004_7]) ?_ 4 _ rfl; (with_reducible repeat (first | refine blk_drewN ?_ _ | refine blk_drew ?_ | refine blk_alloc ?_ _)); refine blk_put (cs := #[.int .u64 t173, .int .u64 t174, .int .u64 t175, .int .u64 x140003_7, .int .u64 x140004_7]) ?_ 3 _ rfl; (with_reducible repeat (first | refine blk_drewN ?_ _ | refine blk_drew ?_ | refine blk_alloc ?_ _)); refine blk_put (cs := #[.int .u64 t173, .int .u64 t174, .int .u64 x140002_7, .int .u64 x140003_7, .int .u64 x140004_7]) ?_ 2 _ rfl; (with_reducible repeat (first | refine blk_drewN ?_ _ | refine blk_drew ?_ | refine blk_alloc ?_ _)); refine blk_put (cs := #[.int .u64 t173, .int .u64 x140001_7, .int .u64 x140002_7, .int .u64 x140003_7, .int .u64 x140004_7]) ?_ 1 _ rfl; (with_reducible repeat (first | refine blk_drewN ?_ _ | refine blk_drew ?_ | refine blk_alloc ?_ _)); refine blk_put (cs := #[.int .u64 x140000_7, .int .u64 x140001_7, .int .u64 x140002_7, .int .u64 x140003_7, .int .u64 x140004_7]) ?_ 0 _ rfl; (with_reducible repeat (first | refine blk_drewN ?_ _ | refine blk_drew ?_ | refine blk_alloc ?_ _)); exact BK139.out) hb); have n1_ := Aside0.mk (blk_below (g := gb140) (o := .cells #[.int .u64 x141000_7, .int .u64 x141001_7, .int .u64 x141002_7] 61 (0, 0)) (by (with_reducible repeat (first | refine blk_drewN ?_ _ | refine blk_drew ?_ | refine blk_alloc ?_ _)); refine blk_far ?_ NB140_139.out _; (with_reducible repeat (first | refine blk_drewN ?_ _ | refine blk_drew ?_ | refine blk_alloc ?_ _)); refine blk_far ?_ NB140_139.out _; (with_reducible repeat (first | refine blk_drewN ?_ _ | refine blk_drew ?_ | refine blk_alloc ?_ _)); refine blk_far ?_ NB140_139.out _; (with_reducible repeat (first | refine blk_drewN ?_ _ | refine blk_drew ?_ | refine blk_alloc ?_ _)); refine blk_far ?_ NB140_139.out _; (with_reducible repeat (first | refine blk_drewN ?_ _ | refine blk_drew ?_ | refine blk_alloc ?_ _)); refine blk_far ?_ NB140_139.out _; (with_reducible repeat (first | refine blk_drewN ?_ _ | refine blk_drew ?_ | refine blk_alloc ?_ _)); exact BK140.out) hb); have n2_ := Aside0.mk (below_step (by repeat (first | (with_reducible first | exact HB.out | apply below_alloc | apply pw_below_drewN | apply below_drew1 | refine below_set ?_ GE139.out | refine below_set ?_ GE140.out) | exact HB.out)) hb); clear BK139; clear BK140; clear HB; have BK139 := n0_; have BK140 := n1_; have HB := n2_; clear n0_ n1_ n2_; (try clear hb); (try clear hb2); (try clear hk); (try clear hi); have hcz200_0 : w199.cell? ⟨gb140, 0, none⟩ = some (.int .u64 x141000_7) := (blk_cell BK140.out 0).trans rfl; have hcz200_1 : w199.cell? ⟨gb140, 1, none⟩ = some (.int .u64 x141001_7) := (blk_cell BK140.out 1).trans rfl; have hcz200_2 : w199.cell? ⟨gb140, 2, none⟩ = some (.int .u64 x141002_7) := (blk_cell BK140.out 2).trans rfl; have hfz200_0 := blk_frozen BK140.out 0; have hfz200_1 := blk_frozen BK140.out 1; have hfz200_2 := blk_frozen BK140.out 2) | ((with_reducible refine gate_callee (f := 37) rfl ?_); refine goesL_ (some 106) rfl rfl Try.func37 (by kernel_rfl) rfl #[.agg #[.int .u64 t178, .int .u64 t179, .int .u64 t180]] rfl (by (try simp only [List.map_toArray, List.map_cons, List.map_nil]); first | done | rfl | (simp only [List.length_drop, List.length_take]; rfl)) ?_; (with_reducible refine (credit_Got_Room.calls t178 t179 t180 t181 _ A164.out).mono ?_); rintro e w201 ⟨rfl, hb⟩; refine ⟨_, rfl, ?_⟩; have n0_ := Aside0.mk (blk_below (g := gb139) (o := .cells #[.int .u64 t173, .int .u64 t174, .int .u64 t175, .int .u64 t176, .int .u64 t177] 51 (0, 0)) (by (with_reducible repeat (first | refine blk_drewN ?_ _ | refine blk_drew ?_ | refine blk_alloc ?_ _)); refine blk_far ?_ NB139_140.out _; (with_reducible repeat (first | refine blk_drewN ?_ _ | refine blk_drew ?_ | refine blk_alloc ?_ _)); refine blk_far ?_ NB139_140.out _; (with_reducible repeat (first | refine blk_drewN ?_ _ | refine blk_drew ?_ | refine blk_alloc ?_ _)); refine blk_far ?_ NB139_140.out _; (with_reducible repeat (first | refine blk_drewN ?_ _ | refine blk_drew ?_ | refine blk_alloc ?_ _)); exact BK139.out) hb); have n1_ := Aside0.mk (blk_below (g := gb140) (o := .cells #[.int .u64 t178, .int .u64 t179, .int .u64 t180] 61 (0, 0)) (by (with_reducible repeat (first | refine blk_drewN ?_ _ | refine blk_drew ?_ | refine blk_alloc ?_ _)); refine blk_put (cs := #[.int .u64 t178, .int .u64 t179, .int .u64 x141002_7]) ?_ 2 _ rfl; (with_reducible repeat (first | refine blk_drewN ?_ _ | refine blk_drew ?_ | refine blk_alloc ?_ _)); refine blk_put (cs := #[.int .u64 t178, .int .u64 x141001_7, .int .u64 x141002_7]) ?_ 1 _ rfl; (with_reducible repeat (first | refine blk_drewN ?_ _ | refine blk_drew ?_ | refine blk_alloc ?_ _)); refine blk_put (cs := #[.int .u64 x141000_7, .int .u64 x141001_7, .int .u64 x141002_7]) ?_ 0 _ rfl; (with_reducible repeat (first | refine blk_drewN ?_ _ | refine blk_drew ?_ | refine blk_alloc ?_ _)); exact BK140.out) hb); have n2_ := Aside0.mk (below_step (by repeat (first | (with_reducible first | exact HB.out | apply below_alloc | apply pw_below_drewN | apply below_drew1 | refine below_set ?_ GE139.out | refine below_set ?_ GE140.out) | exact HB.out)) hb); clear BK139; clear BK140; clear HB; have BK139 := n0_; have BK140 := n1_; have HB := n2_; clear n0_ n1_ n2_; (try clear hb); (try clear hb2); (try clear hk); (try clear hi)))
            go_ret
            exact ⟨by first | rfl | (simp [errW_none, errW_some] <;> rfl) | (simp [*, errW_none, errW_some] <;> rfl), by repeat (first | (with_reducible first | exact HB.out | apply below_alloc | apply pw_below_drewN | apply below_drew1 | refine below_set ?_ GE139.out | refine below_set ?_ GE140.out) | exact HB.out)⟩
        · replace c161 := Bool.eq_false_iff.mpr c161
          subst c161
          have H1 : ((credit_Got_Room.f x141000_7 x141001_7 x141002_7).bind fun t183 => (if t183 ≥ (IntKind.u64.wrap (Int.tdiv (IntKind.u64.wrap (1 + (IntKind.u64.wrap (Int.tmod a0 300)))) 2)) then ((credit_Got_Room.f x141000_7 x141001_7 x141002_7).bind fun t184 => (if t184 > 0 then (some true) else (some (decide ((IntKind.u64.wrap (1 + (IntKind.u64.wrap (Int.tmod a0 300)))) < 2))))) else (some false))) = some r := by rw [if_neg (show ¬ (false = true) by decide)] at H; exact H
          clear H
          have H := H1
          clear H1
          replace H := Option.bind_eq_some_iff.mp H
          obtain ⟨t183, A2020, H⟩ := H
          replace H : (if t183 ≥ (IntKind.u64.wrap (Int.tdiv (IntKind.u64.wrap (1 + (IntKind.u64.wrap (Int.tmod a0 300)))) 2)) then ((credit_Got_Room.f x141000_7 x141001_7 x141002_7).bind fun t184 => (if t184 > 0 then (some true) else (some (decide ((IntKind.u64.wrap (1 + (IntKind.u64.wrap (Int.tmod a0 300)))) < 2))))) else (some false)) = some r := H
          have A202 := Aside0.mk A2020
          clear A2020
          by_cases c203 : t183 ≥ (IntKind.u64.wrap (Int.tdiv (IntKind.u64.wrap (1 + (IntKind.u64.wrap (Int.tmod a0 300)))) 2))
          · rw [if_pos c203] at H
            have c203b0 : decide ((IntKind.u64.wrap (Int.tdiv (IntKind.u64.wrap (1 + (IntKind.u64.wrap (Int.tmod a0 300)))) 2)) ≤ t183) = true := decide_eq_true c203
            clear c203
            replace H := Option.bind_eq_some_iff.mp H
            obtain ⟨t184, A2040, H⟩ := H
            replace H : (if t184 > 0 then (some true) else (some (decide ((IntKind.u64.wrap (1 + (IntKind.u64.wrap (Int.tmod a0 300)))) < 2)))) = some r := H
            have A204 := Aside0.mk A2040
            clear A2040
            by_cases c205 : t184 > 0
            · rw [if_pos c205] at H
              have c205b0 : decide (0 < t184) = true := decide_eq_true c205
              clear c205
              obtain rfl := Option.some.inj H
              have hnb206 := NB139_140.out
              have hnc206 := NB140_139.out
              have hcz207_0 : wc.cell? ⟨gb139, 0, none⟩ = some (.int .u64 x140000_7) := (blk_cell BK139.out 0).trans rfl
              have hcz207_1 : wc.cell? ⟨gb139, 1, none⟩ = some (.int .u64 x140001_7) := (blk_cell BK139.out 1).trans rfl
              have hcz207_2 : wc.cell? ⟨gb139, 2, none⟩ = some (.int .u64 x140002_7) := (blk_cell BK139.out 2).trans rfl
              have hcz207_3 : wc.cell? ⟨gb139, 3, none⟩ = some (.int .u64 x140003_7) := (blk_cell BK139.out 3).trans rfl
              have hcz207_4 : wc.cell? ⟨gb139, 4, none⟩ = some (.int .u64 x140004_7) := (blk_cell BK139.out 4).trans rfl
              have hfz207_0 := blk_frozen BK139.out 0
              have hfz207_1 := blk_frozen BK139.out 1
              have hfz207_2 := blk_frozen BK139.out 2
              have hfz207_3 := blk_frozen BK139.out 3
              have hfz207_4 := blk_frozen BK139.out 4
              go_wp2_with (first | ((with_reducible refine gate_callee (f := 34) rfl ?_); refine goesL_ (some 98) rfl rfl Try.func34 (by kernel_rfl) rfl #[.agg #[.int .u64 x140000_7, .int .u64 x140001_7, .int .u64 x140002_7, .int .u64 x140003_7, .int .u64 x140004_7]] rfl (by (try simp only [List.map_toArray, List.map_cons, List.map_nil]); first | done | rfl | (simp only [List.length_drop, List.length_take]; rfl)) ?_; (with_reducible refine (credit_Given_Wants.calls x140000_7 x140001_7 x140002_7 x140003_7 x140004_7 false _ A160.out).mono ?_); rintro e w208 ⟨rfl, hb⟩; refine ⟨_, rfl, ?_⟩; have n0_ := Aside0.mk (blk_below (g := gb139) (o := .cells #[.int .u64 x140000_7, .int .u64 x140001_7, .int .u64 x140002_7, .int .u64 x140003_7, .int .u64 x140004_7] 51 (0, 0)) (by (with_reducible repeat (first | refine blk_drewN ?_ _ | refine blk_drew ?_ | refine blk_alloc ?_ _)); exact BK139.out) hb); have n1_ := Aside0.mk (blk_below (g := gb140) (o := .cells #[.int .u64 x141000_7, .int .u64 x141001_7, .int .u64 x141002_7] 61 (0, 0)) (by (with_reducible repeat (first | refine blk_drewN ?_ _ | refine blk_drew ?_ | refine blk_alloc ?_ _)); exact BK140.out) hb); have n2_ := Aside0.mk (below_step (by repeat (first | (with_reducible first | exact HB.out | apply below_alloc | apply pw_below_drewN | apply below_drew1 | refine below_set ?_ GE139.out | refine below_set ?_ GE140.out) | exact HB.out)) hb); clear BK139; clear BK140; clear HB; have BK139 := n0_; have BK140 := n1_; have HB := n2_; clear n0_ n1_ n2_; (try clear hb); (try clear hb2); (try clear hk); (try clear hi); have hcz209_0 : w208.cell? ⟨gb140, 0, none⟩ = some (.int .u64 x141000_7) := (blk_cell BK140.out 0).trans rfl; have hcz209_1 : w208.cell? ⟨gb140, 1, none⟩ = some (.int .u64 x141001_7) := (blk_cell BK140.out 1).trans rfl; have hcz209_2 : w208.cell? ⟨gb140, 2, none⟩ = some (.int .u64 x141002_7) := (blk_cell BK140.out 2).trans rfl; have hfz209_0 := blk_frozen BK140.out 0; have hfz209_1 := blk_frozen BK140.out 1; have hfz209_2 := blk_frozen BK140.out 2) | ((with_reducible refine gate_callee (f := 37) rfl ?_); refine goesL_ (some 106) rfl rfl Try.func37 (by kernel_rfl) rfl #[.agg #[.int .u64 x141000_7, .int .u64 x141001_7, .int .u64 x141002_7]] rfl (by (try simp only [List.map_toArray, List.map_cons, List.map_nil]); first | done | rfl | (simp only [List.length_drop, List.length_take]; rfl)) ?_; (with_reducible refine (credit_Got_Room.calls x141000_7 x141001_7 x141002_7 t183 _ A202.out).mono ?_); rintro e w210 ⟨rfl, hb⟩; refine ⟨_, rfl, ?_⟩; have n0_ := Aside0.mk (blk_below (g := gb139) (o := .cells #[.int .u64 x140000_7, .int .u64 x140001_7, .int .u64 x140002_7, .int .u64 x140003_7, .int .u64 x140004_7] 51 (0, 0)) (by (with_reducible repeat (first | refine blk_drewN ?_ _ | refine blk_drew ?_ | refine blk_alloc ?_ _)); exact BK139.out) hb); have n1_ := Aside0.mk (blk_below (g := gb140) (o := .cells #[.int .u64 x141000_7, .int .u64 x141001_7, .int .u64 x141002_7] 61 (0, 0)) (by (with_reducible repeat (first | refine blk_drewN ?_ _ | refine blk_drew ?_ | refine blk_alloc ?_ _)); exact BK140.out) hb); have n2_ := Aside0.mk (below_step (by repeat (first | (with_reducible first | exact HB.out | apply below_alloc | apply pw_below_drewN | apply below_drew1 | refine below_set ?_ GE139.out | refine below_set ?_ GE140.out) | exact HB.out)) hb); clear BK139; clear BK140; clear HB; have BK139 := n0_; have BK140 := n1_; have HB := n2_; clear n0_ n1_ n2_; (try clear hb); (try clear hb2); (try clear hk); (try clear hi); have hcz211_0 : w210.cell? ⟨gb140, 0, none⟩ = some (.int .u64 x141000_7) := (blk_cell BK140.out 0).trans rfl; have hcz211_1 : w210.cell? ⟨gb140, 1, none⟩ = some (.int .u64 x141001_7) := (blk_cell BK140.out 1).trans rfl; have hcz211_2 : w210.cell? ⟨gb140, 2, none⟩ = some (.int .u64 x141002_7) := (blk_cell BK140.out 2).trans rfl; have hfz211_0 := blk_frozen BK140.out 0; have hfz211_1 := blk_frozen BK140.out 1; have hfz211_2 := blk_frozen BK140.out 2) | (go_at_call 37; (with_reducible refine (credit_Got_Room.calls x141000_7 x141001_7 x141002_7 t184 _ A204.out).mono ?_); rintro e w212 ⟨rfl, hb⟩; have n0_ := Aside0.mk (blk_below (g := gb139) (o := .cells #[.int .u64 x140000_7, .int .u64 x140001_7, .int .u64 x140002_7, .int .u64 x140003_7, .int .u64 x140004_7] 51 (0, 0)) (by (with_reducible repeat (first | refine blk_drewN ?_ _ | refine blk_drew ?_ | refine blk_alloc ?_ _)); exact BK139.out) hb); have n1_ := Aside0.mk (blk_below (g := gb140) (o := .cells #[.int .u64 x141000_7, .int .u64 x141001_7, .int .u64 x141002_7] 61 (0, 0)) (by (with_reducible repeat (first | refine blk_drewN ?_ _ | refine blk_drew ?_ | refine blk_alloc ?_ _)); exact BK140.out) hb); have n2_ := Aside0.mk (below_step (by repeat (first | (with_reducible first | exact HB.out | apply below_alloc | apply pw_below_drewN | apply below_drew1 | refine below_set ?_ GE139.out | refine below_set ?_ GE140.out) | exact HB.out)) hb); clear BK139; clear BK140; clear HB; have BK139 := n0_; have BK140 := n1_; have HB := n2_; clear n0_ n1_ n2_; (try clear hb); (try clear hb2); (try clear hk); (try clear hi)))
              go_ret
              exact ⟨by first | rfl | (simp [errW_none, errW_some] <;> rfl) | (simp [*, errW_none, errW_some] <;> rfl), by repeat (first | (with_reducible first | exact HB.out | apply below_alloc | apply pw_below_drewN | apply below_drew1 | refine below_set ?_ GE139.out | refine below_set ?_ GE140.out) | exact HB.out)⟩
            · rw [if_neg c205] at H
              have c205b0 : decide (0 < t184) = false := decide_eq_false c205
              clear c205
              obtain rfl := Option.some.inj H
              have hnb213 := NB139_140.out
              have hnc213 := NB140_139.out
              have hcz214_0 : wc.cell? ⟨gb139, 0, none⟩ = some (.int .u64 x140000_7) := (blk_cell BK139.out 0).trans rfl
              have hcz214_1 : wc.cell? ⟨gb139, 1, none⟩ = some (.int .u64 x140001_7) := (blk_cell BK139.out 1).trans rfl
              have hcz214_2 : wc.cell? ⟨gb139, 2, none⟩ = some (.int .u64 x140002_7) := (blk_cell BK139.out 2).trans rfl
              have hcz214_3 : wc.cell? ⟨gb139, 3, none⟩ = some (.int .u64 x140003_7) := (blk_cell BK139.out 3).trans rfl
              have hcz214_4 : wc.cell? ⟨gb139, 4, none⟩ = some (.int .u64 x140004_7) := (blk_cell BK139.out 4).trans rfl
              have hfz214_0 := blk_frozen BK139.out 0
              have hfz214_1 := blk_frozen BK139.out 1
              have hfz214_2 := blk_frozen BK139.out 2
              have hfz214_3 := blk_frozen BK139.out 3
              have hfz214_4 := blk_frozen BK139.out 4
              go_wp2_with (first | ((with_reducible refine gate_callee (f := 34) rfl ?_); refine goesL_ (some 98) rfl rfl Try.func34 (by kernel_rfl) rfl #[.agg #[.int .u64 x140000_7, .int .u64 x140001_7, .int .u64 x140002_7, .int .u64 x140003_7, .int .u64 x140004_7]] rfl (by (try simp only [List.map_toArray, List.map_cons, List.map_nil]); first | done | rfl | (simp only [List.length_drop, List.length_take]; rfl)) ?_; (with_reducible refine (credit_Given_Wants.calls x140000_7 x140001_7 x140002_7 x140003_7 x140004_7 false _ A160.out).mono ?_); rintro e w215 ⟨rfl, hb⟩; refine ⟨_, rfl, ?_⟩; have n0_ := Aside0.mk (blk_below (g := gb139) (o := .cells #[.int .u64 x140000_7, .int .u64 x140001_7, .int .u64 x140002_7, .int .u64 x140003_7, .int .u64 x140004_7] 51 (0, 0)) (by (with_reducible repeat (first | refine blk_drewN ?_ _ | refine blk_drew ?_ | refine blk_alloc ?_ _)); exact BK139.out) hb); have n1_ := Aside0.mk (blk_below (g := gb140) (o := .cells #[.int .u64 x141000_7, .int .u64 x141001_7, .int .u64 x141002_7] 61 (0, 0)) (by (with_reducible repeat (first | refine blk_drewN ?_ _ | refine blk_drew ?_ | refine blk_alloc ?_ _)); exact BK140.out) hb); have n2_ := Aside0.mk (below_step (by repeat (first | (with_reducible first | exact HB.out | apply below_alloc | apply pw_below_drewN | apply below_drew1 | refine below_set ?_ GE139.out | refine below_set ?_ GE140.out) | exact HB.out)) hb); clear BK139; clear BK140; clear HB; have BK139 := n0_; have BK140 := n1_; have HB := n2_; clear n0_ n1_ n2_; (try clear hb); (try clear hb2); (try clear hk); (try clear hi); have hcz216_0 : w215.cell? ⟨gb140, 0, none⟩ = some (.int .u64 x141000_7) := (blk_cell BK140.out 0).trans rfl; have hcz216_1 : w215.cell? ⟨gb140, 1, none⟩ = some (.int .u64 x141001_7) := (blk_cell BK140.out 1).trans rfl; have hcz216_2 : w215.cell? ⟨gb140, 2, none⟩ = some (.int .u64 x141002_7) := (blk_cell BK140.out 2).trans rfl; have hfz216_0 := blk_frozen BK140.out 0; have hfz216_1 := blk_frozen BK140.out 1; have hfz216_2 := blk_frozen BK140.out 2) | ((with_reducible refine gate_callee (f := 37) rfl ?_); refine goesL_ (some 106) rfl rfl Try.func37 (by kernel_rfl) rfl #[.agg #[.int .u64 x141000_7, .int .u64 x141001_7, .int .u64 x141002_7]] rfl (by (try simp only [List.map_toArray, List.map_cons, List.map_nil]); first | done | rfl | (simp only [List.length_drop, List.length_take]; rfl)) ?_; (with_reducible refine (credit_Got_Room.calls x141000_7 x141001_7 x141002_7 t183 _ A202.out).mono ?_); rintro e w217 ⟨rfl, hb⟩; refine ⟨_, rfl, ?_⟩; have n0_ := Aside0.mk (blk_below (g := gb139) (o := .cells #[.int .u64 x140000_7, .int .u64 x140001_7, .int .u64 x140002_7, .int .u64 x140003_7, .int .u64 x140004_7] 51 (0, 0)) (by (with_reducible repeat (first | refine blk_drewN ?_ _ | refine blk_drew ?_ | refine blk_alloc ?_ _)); exact BK139.out) hb); have n1_ := Aside0.mk (blk_below (g := gb140) (o := .cells #[.int .u64 x141000_7, .int .u64 x141001_7, .int .u64 x141002_7] 61 (0, 0)) (by (with_reducible repeat (first | refine blk_drewN ?_ _ | refine blk_drew ?_ | refine blk_alloc ?_ _)); exact BK140.out) hb); have n2_ := Aside0.mk (below_step (by repeat (first | (with_reducible first | exact HB.out | apply below_alloc | apply pw_below_drewN | apply below_drew1 | refine below_set ?_ GE139.out | refine below_set ?_ GE140.out) | exact HB.out)) hb); clear BK139; clear BK140; clear HB; have BK139 := n0_; have BK140 := n1_; have HB := n2_; clear n0_ n1_ n2_; (try clear hb); (try clear hb2); (try clear hk); (try clear hi); have hcz218_0 : w217.cell? ⟨gb140, 0, none⟩ = some (.int .u64 x141000_7) := (blk_cell BK140.out 0).trans rfl; have hcz218_1 : w217.cell? ⟨gb140, 1, none⟩ = some (.int .u64 x141001_7) := (blk_cell BK140.out 1).trans rfl; have hcz218_2 : w217.cell? ⟨gb140, 2, none⟩ = some (.int .u64 x141002_7) := (blk_cell BK140.out 2).trans rfl; have hfz218_0 := blk_frozen BK140.out 0; have hfz218_1 := blk_frozen BK140.out 1; have hfz218_2 := blk_frozen BK140.out 2) | (go_at_call 37; (with_reducible refine (credit_Got_Room.calls x141000_7 x141001_7 x141002_7 t184 _ A204.out).mono ?_); rintro e w219 ⟨rfl, hb⟩; have n0_ := Aside0.mk (blk_below (g := gb139) (o := .cells #[.int .u64 x140000_7, .int .u64 x140001_7, .int .u64 x140002_7, .int .u64 x140003_7, .int .u64 x140004_7] 51 (0, 0)) (by (with_reducible repeat (first | refine blk_drewN ?_ _ | refine blk_drew ?_ | refine blk_alloc ?_ _)); exact BK139.out) hb); have n1_ := Aside0.mk (blk_below (g := gb140) (o := .cells #[.int .u64 x141000_7, .int .u64 x141001_7, .int .u64 x141002_7] 61 (0, 0)) (by (with_reducible repeat (first | refine blk_drewN ?_ _ | refine blk_drew ?_ | refine blk_alloc ?_ _)); exact BK140.out) hb); have n2_ := Aside0.mk (below_step (by repeat (first | (with_reducible first | exact HB.out | apply below_alloc | apply pw_below_drewN | apply below_drew1 | refine below_set ?_ GE139.out | refine below_set ?_ GE140.out) | exact HB.out)) hb); clear BK139; clear BK140; clear HB; have BK139 := n0_; have BK140 := n1_; have HB := n2_; clear n0_ n1_ n2_; (try clear hb); (try clear hb2); (try clear hk); (try clear hi)))
              go_ret
              exact ⟨by first | rfl | (simp [errW_none, errW_some] <;> rfl) | (simp [*, errW_none, errW_some] <;> rfl), by repeat (first | (with_reducible first | exact HB.out | apply below_alloc | apply pw_below_drewN | apply below_drew1 | refine below_set ?_ GE139.out | refine below_set ?_ GE140.out) | exact HB.out)⟩
          · rw [if_neg c203] at H
            have c203b0 : decide ((IntKind.u64.wrap (Int.tdiv (IntKind.u64.wrap (1 + (IntKind.u64.wrap (Int.tmod a0 300)))) 2)) ≤ t183) = false := decide_eq_false c203
            clear c203
            obtain rfl := Option.some.inj H
            have hnb220 := NB139_140.out
            have hnc220 := NB140_139.out
            have hcz221_0 : wc.cell? ⟨gb139, 0, none⟩ = some (.int .u64 x140000_7) := (blk_cell BK139.out 0).trans rfl
            have hcz221_1 : wc.cell? ⟨gb139, 1, none⟩ = some (.int .u64 x140001_7) := (blk_cell BK139.out 1).trans rfl
            have hcz221_2 : wc.cell? ⟨gb139, 2, none⟩ = some (.int .u64 x140002_7) := (blk_cell BK139.out 2).trans rfl
            have hcz221_3 : wc.cell? ⟨gb139, 3, none⟩ = some (.int .u64 x140003_7) := (blk_cell BK139.out 3).trans rfl
            have hcz221_4 : wc.cell? ⟨gb139, 4, none⟩ = some (.int .u64 x140004_7) := (blk_cell BK139.out 4).trans rfl
            have hfz221_0 := blk_frozen BK139.out 0
            have hfz221_1 := blk_frozen BK139.out 1
            have hfz221_2 := blk_frozen BK139.out 2
            have hfz221_3 := blk_frozen BK139.out 3
            have hfz221_4 := blk_frozen BK139.out 4
            go_wp2_with (first | ((with_reducible refine gate_callee (f := 34) rfl ?_); refine goesL_ (some 98) rfl rfl Try.func34 (by kernel_rfl) rfl #[.agg #[.int .u64 x140000_7, .int .u64 x140001_7, .int .u64 x140002_7, .int .u64 x140003_7, .int .u64 x140004_7]] rfl (by (try simp only [List.map_toArray, List.map_cons, List.map_nil]); first | done | rfl | (simp only [List.length_drop, List.length_take]; rfl)) ?_; (with_reducible refine (credit_Given_Wants.calls x140000_7 x140001_7 x140002_7 x140003_7 x140004_7 false _ A160.out).mono ?_); rintro e w222 ⟨rfl, hb⟩; refine ⟨_, rfl, ?_⟩; have n0_ := Aside0.mk (blk_below (g := gb139) (o := .cells #[.int .u64 x140000_7, .int .u64 x140001_7, .int .u64 x140002_7, .int .u64 x140003_7, .int .u64 x140004_7] 51 (0, 0)) (by (with_reducible repeat (first | refine blk_drewN ?_ _ | refine blk_drew ?_ | refine blk_alloc ?_ _)); exact BK139.out) hb); have n1_ := Aside0.mk (blk_below (g := gb140) (o := .cells #[.int .u64 x141000_7, .int .u64 x141001_7, .int .u64 x141002_7] 61 (0, 0)) (by (with_reducible repeat (first | refine blk_drewN ?_ _ | refine blk_drew ?_ | refine blk_alloc ?_ _)); exact BK140.out) hb); have n2_ := Aside0.mk (below_step (by repeat (first | (with_reducible first | exact HB.out | apply below_alloc | apply pw_below_drewN | apply below_drew1 | refine below_set ?_ GE139.out | refine below_set ?_ GE140.out) | exact HB.out)) hb); clear BK139; clear BK140; clear HB; have BK139 := n0_; have BK140 := n1_; have HB := n2_; clear n0_ n1_ n2_; (try clear hb); (try clear hb2); (try clear hk); (try clear hi); have hcz223_0 : w222.cell? ⟨gb140, 0, none⟩ = some (.int .u64 x141000_7) := (blk_cell BK140.out 0).trans rfl; have hcz223_1 : w222.cell? ⟨gb140, 1, none⟩ = some (.int .u64 x141001_7) := (blk_cell BK140.out 1).trans rfl; have hcz223_2 : w222.cell? ⟨gb140, 2, none⟩ = some (.int .u64 x141002_7) := (blk_cell BK140.out 2).trans rfl; have hfz223_0 := blk_frozen BK140.out 0; have hfz223_1 := blk_frozen BK140.out 1; have hfz223_2 := blk_frozen BK140.out 2) | ((with_reducible refine gate_callee (f := 37) rfl ?_); refine goesL_ (some 106) rfl rfl Try.func37 (by kernel_rfl) rfl #[.agg #[.int .u64 x141000_7, .int .u64 x141001_7, .int .u64 x141002_7]] rfl (by (try simp only [List.map_toArray, List.map_cons, List.map_nil]); first | done | rfl | (simp only [List.length_drop, List.length_take]; rfl)) ?_; (with_reducible refine (credit_Got_Room.calls x141000_7 x141001_7 x141002_7 t183 _ A202.out).mono ?_); rintro e w224 ⟨rfl, hb⟩; refine ⟨_, rfl, ?_⟩; have n0_ := Aside0.mk (blk_below (g := gb139) (o := .cells #[.int .u64 x140000_7, .int .u64 x140001_7, .int .u64 x140002_7, .int .u64 x140003_7, .int .u64 x140004_7] 51 (0, 0)) (by (with_reducible repeat (first | refine blk_drewN ?_ _ | refine blk_drew ?_ | refine blk_alloc ?_ _)); exact BK139.out) hb); have n1_ := Aside0.mk (blk_below (g := gb140) (o := .cells #[.int .u64 x141000_7, .int .u64 x141001_7, .int .u64 x141002_7] 61 (0, 0)) (by (with_reducible repeat (first | refine blk_drewN ?_ _ | refine blk_drew ?_ | refine blk_alloc ?_ _)); exact BK140.out) hb); have n2_ := Aside0.mk (below_step (by repeat (first | (with_reducible first | exact HB.out | apply below_alloc | apply pw_below_drewN | apply below_drew1 | refine below_set ?_ GE139.out | refine below_set ?_ GE140.out) | exact HB.out)) hb); clear BK139; clear BK140; clear HB; have BK139 := n0_; have BK140 := n1_; have HB := n2_; clear n0_ n1_ n2_; (try clear hb); (try clear hb2); (try clear hk); (try clear hi)))
            go_ret
            exact ⟨by first | rfl | (simp [errW_none, errW_some] <;> rfl) | (simp [*, errW_none, errW_some] <;> rfl), by repeat (first | (with_reducible first | exact HB.out | apply below_alloc | apply pw_below_drewN | apply below_drew1 | refine below_set ?_ GE139.out | refine below_set ?_ GE140.out) | exact HB.out)⟩
  · replace c5 := Bool.eq_false_iff.mpr c5
    subst c5
    have H1 : (some false) = some r := by rw [if_neg (show ¬ (false = true) by decide)] at H; exact H
    clear H
    have H := H1
    clear H1
    obtain rfl := Option.some.inj H
    go_enter Try.func8, Try.ntmps8
    go_wp2_with (first | ((with_reducible refine gate_callee (f := 26) rfl ?_); refine goesL_ (some 17) rfl rfl Try.func26 (by kernel_rfl) rfl #[] rfl (by (try simp only [List.map_toArray, List.map_cons, List.map_nil]); first | done | rfl | (simp only [List.length_drop, List.length_take]; rfl)) ?_; (with_reducible refine (binnaclelaw20_Awake.calls  false _ A4.out).mono ?_); rintro e w225 ⟨rfl, hb⟩; refine ⟨_, rfl, ?_⟩; have n0_ := Aside0.mk (below_step (by repeat (first | (with_reducible first | exact HB.out | apply below_alloc | apply pw_below_drewN | apply below_drew1) | exact HB.out)) hb); clear HB; have HB := n0_; clear n0_; (try clear hb); (try clear hb2); (try clear hk); (try clear hi)))
    go_ret
    exact ⟨by first | rfl | (simp [errW_none, errW_some] <;> rfl) | (simp [*, errW_none, errW_some] <;> rfl), by repeat (first | (with_reducible first | exact HB.out | apply below_alloc | apply pw_below_drewN | apply below_drew1) | exact HB.out)⟩

end Go.Proofs.Ytloiihbhpmmaiaa.PCreditMeets
