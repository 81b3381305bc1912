-- PRINTED BY print.sh 35421559b90ae4d0a3588c463048766b98c2df88dd9212a6774a882060cdf62d: not written by this session
import Derived.Test.YtloiihbhpmmaiaaPWholex0
namespace Go.Proofs.Ytloiihbhpmmaiaa.PWhole
open Go.RowKit Go.Proofs.YtloiihbhpmmaiaaW.PrintWords Go.Proofs.YtloiihbhpmmaiaaW.PrintLast Go.Proofs.YtloiihbhpmmaiaaW.PrintMore
attribute [local go_sem] max2_int min2_int max_two min_two max_three min_three max_four min_four   -- for this text's walks alone
set_option linter.unusedVariables false
set_option linter.unusedSimpArgs false

/-! ### binnacleref01_away: function 44 -/
def binnacleref01_away.f (a0 : Int) (a1 : Int) : Option (Int) := if a0 > a1 then (some (IntKind.u64.wrap (a0 - a1))) else (some (IntKind.u64.wrap (a1 - a0)))
set_option maxHeartbeats 8000000 in
set_option maxRecDepth 100000 in
theorem binnacleref01_away.calls (a0 : Int) (a1 : Int) (r : Int) (w : World) (h : binnacleref01_away.f a0 a1 = some r) :
    Calls Try.prog 44 #[.int .u64 a0, .int .u64 a1] w fun e w' => e = .returned (.int .u64 r) ∧ Drawn0 w w' := by
  have H : (if a0 > a1 then (some (IntKind.u64.wrap (a0 - a1))) else (some (IntKind.u64.wrap (a1 - a0)))) = some r := h
  clear h
  by_cases c3 : a0 > a1
  · rw [if_pos c3] at H
    have c3b0 : decide (a1 < a0) = true := decide_eq_true c3
    clear c3
    obtain rfl := Option.some.inj H
    go_enter Try.func44, Try.ntmps44
    go_wp2
    go_ret
    exact ⟨by first | rfl | (simp; done) | (simp [*]; done), by repeat (first | exact Drawn0.refl _ | apply Drawn0.step)⟩
  · rw [if_neg c3] at H
    have c3b0 : decide (a1 < a0) = false := decide_eq_false c3
    clear c3
    obtain rfl := Option.some.inj H
    go_enter Try.func44, Try.ntmps44
    go_wp2
    go_ret
    exact ⟨by first | rfl | (simp; done) | (simp [*]; done), by repeat (first | exact Drawn0.refl _ | apply Drawn0.step)⟩

/-! ### binnacleref01_Whole: function 18 -/
mutual
def binnacleref01_Whole.l0 : Nat → Int → Int → Int → Int → Int → Option (Int)
  | 0, _, _, _, _, _ => none
  | k + 1, x0, x1, x2, x7, x8 => if x8 < x1 then (binnacleref01_Whole.l0 k x0 x1 x2 (IntKind.u64.wrap (x7 * 256)) (wrap64 (x8 + 1))) else (if x7 = 0 then (none) else (if (IntKind.u64.wrap ((IntKind.u64.wrap ((IntKind.u64.wrap (x2 - (Int.tmod x2 x7))) + x0)) + x7)) ≤ 4611686018427387903 then ((binnacleref01_away.f (IntKind.u64.wrap ((IntKind.u64.wrap ((IntKind.u64.wrap (x2 - (Int.tmod x2 x7))) + x0)) + x7)) x2).bind fun t101 => ((binnacleref01_away.f (IntKind.u64.wrap ((IntKind.u64.wrap (x2 - (Int.tmod x2 x7))) + x0)) x2).bind fun t102 => (binnacleref01_Whole.j1 k x2 x7 (IntKind.u64.wrap ((IntKind.u64.wrap (x2 - (Int.tmod x2 x7))) + x0)) (IntKind.u64.wrap ((IntKind.u64.wrap (x2 - (Int.tmod x2 x7))) + x0)) (decide (t101 ≤ t102))))) else (binnacleref01_Whole.j1 k x2 x7 (IntKind.u64.wrap ((IntKind.u64.wrap (x2 - (Int.tmod x2 x7))) + x0)) (IntKind.u64.wrap ((IntKind.u64.wrap (x2 - (Int.tmod x2 x7))) + x0)) false)))
def binnacleref01_Whole.j1 : Nat → Int → Int → Int → Int → Bool → Option (Int)
  | 0, _, _, _, _, _ => none
  | k + 1, x2, x7, x9, x10, x40 => if x40 = true then (binnacleref01_Whole.j2 k x2 x7 x9 (IntKind.u64.wrap (x9 + x7))) else (binnacleref01_Whole.j2 k x2 x7 x9 x10)
def binnacleref01_Whole.j2 : Nat → Int → Int → Int → Int → Option (Int)
  | 0, _, _, _, _ => none
  | k + 1, x2, x7, x9, x10 => if x9 ≥ x7 then ((binnacleref01_away.f (IntKind.u64.wrap (x9 - x7)) x2).bind fun t103 => ((binnacleref01_away.f x10 x2).bind fun t104 => (if t103 < t104 then (some (IntKind.u64.wrap (x9 - x7))) else (some x10)))) else (some x10)
end
def binnacleref01_Whole.f (k : Nat) (a0 : Int) (a1 : Int) (a2 : Int) : Option (Int) := binnacleref01_Whole.l0 k a0 a1 a2 1 0
theorem binnacleref01_Whole.mono_l : ∀ k, (∀ y0 y1 y2 y3 y4, LeO (binnacleref01_Whole.l0 k y0 y1 y2 y3 y4) (binnacleref01_Whole.l0 (k + 1) y0 y1 y2 y3 y4)) ∧ (∀ y0 y1 y2 y3 y4, LeO (binnacleref01_Whole.j1 k y0 y1 y2 y3 y4) (binnacleref01_Whole.j1 (k + 1) y0 y1 y2 y3 y4)) ∧ (∀ y0 y1 y2 y3, LeO (binnacleref01_Whole.j2 k y0 y1 y2 y3) (binnacleref01_Whole.j2 (k + 1) y0 y1 y2 y3))
  | 0 => ⟨fun _ _ _ _ _ r h => by simp [binnacleref01_Whole.l0] at h, fun _ _ _ _ _ r h => by simp [binnacleref01_Whole.j1] at h, fun _ _ _ _ r h => by simp [binnacleref01_Whole.j2] at h⟩
  | k + 1 => by
    obtain ⟨ih0, ih1, ih2⟩ := binnacleref01_Whole.mono_l k
    refine ⟨?_, ?_, ?_⟩
    · intro y0 y1 y2 y3 y4
      unfold binnacleref01_Whole.l0
      repeat' first
      | (with_reducible exact ih0 _ _ _ _ _)
      | (with_reducible exact ih1 _ _ _ _ _)
      | (with_reducible exact ih2 _ _ _ _)
      | (with_reducible exact LeO.refl _)
      | (with_reducible exact LeO.none _)
      | (with_reducible refine LeO.ite ?_ ?_)
      | (with_reducible refine LeO.bind ?_ (fun _ => ?_))
      | exact ih0 _ _ _ _ _
      | exact ih1 _ _ _ _ _
      | exact ih2 _ _ _ _
      | exact LeO.none _
      | refine LeO.ite ?_ ?_
      | refine LeO.bind ?_ (fun _ => ?_)
    · intro y0 y1 y2 y3 y4
      unfold binnacleref01_Whole.j1
      repeat' first
      | (with_reducible exact ih0 _ _ _ _ _)
      | (with_reducible exact ih1 _ _ _ _ _)
      | (with_reducible exact ih2 _ _ _ _)
      | (with_reducible exact LeO.refl _)
      | (with_reducible exact LeO.none _)
      | (with_reducible refine LeO.ite ?_ ?_)
      | (with_reducible refine LeO.bind ?_ (fun _ => ?_))
      | exact ih0 _ _ _ _ _
      | exact ih1 _ _ _ _ _
      | exact ih2 _ _ _ _
      | exact LeO.none _
      | refine LeO.ite ?_ ?_
      | refine LeO.bind ?_ (fun _ => ?_)
    · intro y0 y1 y2 y3
      unfold binnacleref01_Whole.j2
      repeat' first
      | (with_reducible exact ih0 _ _ _ _ _)
      | (with_reducible exact ih1 _ _ _ _ _)
      | (with_reducible exact ih2 _ _ _ _)
      | (with_reducible exact LeO.refl _)
      | (with_reducible exact LeO.none _)
      | (with_reducible refine LeO.ite ?_ ?_)
      | (with_reducible refine LeO.bind ?_ (fun _ => ?_))
      | exact ih0 _ _ _ _ _
      | exact ih1 _ _ _ _ _
      | exact ih2 _ _ _ _
      | exact LeO.none _
      | refine LeO.ite ?_ ?_
      | refine LeO.bind ?_ (fun _ => ?_)
theorem binnacleref01_Whole.mono : ∀ a0 a1 a2 k, LeO (binnacleref01_Whole.f k a0 a1 a2) (binnacleref01_Whole.f (k + 1) a0 a1 a2) := by
  intro a0 a1 a2 k
  obtain ⟨ih0, ih1, ih2⟩ := binnacleref01_Whole.mono_l k
  unfold binnacleref01_Whole.f
  repeat' first
      | (with_reducible exact ih0 _ _ _ _ _)
      | (with_reducible exact ih1 _ _ _ _ _)
      | (with_reducible exact ih2 _ _ _ _)
      | (with_reducible exact LeO.refl _)
      | (with_reducible exact LeO.none _)
      | (with_reducible refine LeO.ite ?_ ?_)
      | (with_reducible refine LeO.bind ?_ (fun _ => ?_))
      | exact ih0 _ _ _ _ _
      | exact ih1 _ _ _ _ _
      | exact ih2 _ _ _ _
      | exact LeO.none _
      | refine LeO.ite ?_ ?_
      | refine LeO.bind ?_ (fun _ => ?_)
set_option maxHeartbeats 8000000 in
set_option maxRecDepth 100000 in
theorem binnacleref01_Whole.calls (k : Nat) (a0 : Int) (a1 : Int) (a2 : Int) (r : Int) (w : World) (h : binnacleref01_Whole.f k a0 a1 a2 = some r) :
    Calls Try.prog 18 #[.int .u64 a0, .int .i64 a1, .int .u64 a2] w fun e w' => e = .returned (.int .u64 r) ∧ Drawn0 w w' := by
  have H : (binnacleref01_Whole.l0 k a0 a1 a2 1 0) = some r := h
  clear h
  have H' := Aside0.mk H
  clear H
  go_enter Try.func18, Try.ntmps18
  go_wp2
  go_loopg [7, 8] k (fun kq v7 v8 w' => ∃ (x7_1 : Int) (x8_1 : Int), v7 = .int .u64 x7_1 ∧ v8 = .int .i64 x8_1 ∧ Aside0 (binnacleref01_Whole.l0 kq a0 a1 a2 x7_1 x8_1 = some r) ∧ Aside0 (kq ≤ k) ∧ Drawn0 w w')
  case atStart => exact ⟨(1), (0), (by first | rfl | (simp; done) | (simp [*]; done)), (by first | rfl | (simp; done) | (simp [*]; done)), H', ⟨Nat.le_refl _⟩, by repeat (first | exact Drawn0.refl _ | apply Drawn0.step)⟩
  case round =>
    clear H'
    try clear c1
    try clear p2
    obtain ⟨x7_1, x8_1, rfl, rfl, HA, HK1, ⟨m1, rfl⟩⟩ := hrel
    cases gk with
    | zero => exact absurd HA.out (by simp [binnacleref01_Whole.l0])
    | succ k1 =>
      have H := HA.out
      clear HA
      simp only [binnacleref01_Whole.l0] at H
      by_cases c4 : x8_1 < a1
      · rw [if_pos c4] at H
        have c4b0 : decide (x8_1 < a1) = true := decide_eq_true c4
        clear c4
        have H' := Aside0.mk H
        clear H
        go_wp2
        go_roundg k1
        case measure => have := HK1.out; omega
        case rel => exact ⟨(IntKind.u64.wrap (x7_1 * 256)), (wrap64 (x8_1 + 1)), (by first | rfl | (simp; done) | (simp [*]; done)), (by first | rfl | (simp; done) | (simp [*]; done)), H', ⟨by have := HK1.out; omega⟩, by repeat (first | exact Drawn0.refl _ | apply Drawn0.step)⟩
      · rw [if_neg c4] at H
        have c4b0 : decide (x8_1 < a1) = false := decide_eq_false c4
        clear c4
        by_cases c5 : x7_1 = 0
        · rw [if_pos c5] at H
          exact absurd H (by simp)
        · rw [if_neg c5] at H
          have c5b0 : (x7_1 == 0) = false := beq_eq_false_iff_ne.mpr c5
          have c5b1 : (x7_1 != 0) = true := bne_iff_ne.mpr c5
          have HC6 := Aside0.mk H
          clear H
          go_upto_region 8 with (fail)
          go_cut [40] (fun v40 wc => ∃ (kq : Nat) (x40_5 : Bool), v40 = .bool x40_5 ∧ Aside0 (binnacleref01_Whole.j1 kq a2 x7_1 (IntKind.u64.wrap ((IntKind.u64.wrap (a2 - (Int.tmod a2 x7_1))) + a0)) (IntKind.u64.wrap ((IntKind.u64.wrap (a2 - (Int.tmod a2 x7_1))) + a0)) x40_5 = some r) ∧ Aside0 (kq ≤ k1) ∧ Drawn0 w wc)
          case first =>
            have H := HC6.out
            clear HC6
            by_cases c7 : (IntKind.u64.wrap ((IntKind.u64.wrap ((IntKind.u64.wrap (a2 - (Int.tmod a2 x7_1))) + a0)) + x7_1)) ≤ 4611686018427387903
            · rw [if_pos c7] at H
              have c7b0 : decide ((IntKind.u64.wrap ((IntKind.u64.wrap ((IntKind.u64.wrap (a2 - (Int.tmod a2 x7_1))) + a0)) + x7_1)) ≤ 4611686018427387903) = true := decide_eq_true c7
              clear c7
              (first | rw [c7b0] | (simp only [i64_w, i32_w]; rw [c7b0]) | skip)
              replace H := Option.bind_eq_some_iff.mp H
              obtain ⟨t101, A80, H⟩ := H
              replace H : ((binnacleref01_away.f (IntKind.u64.wrap ((IntKind.u64.wrap (a2 - (Int.tmod a2 x7_1))) + a0)) a2).bind fun t102 => (binnacleref01_Whole.j1 k1 a2 x7_1 (IntKind.u64.wrap ((IntKind.u64.wrap (a2 - (Int.tmod a2 x7_1))) + a0)) (IntKind.u64.wrap ((IntKind.u64.wrap (a2 - (Int.tmod a2 x7_1))) + a0)) (decide (t101 ≤ t102)))) = some r := H
              have A8 := Aside0.mk A80
              clear A80
              replace H := Option.bind_eq_some_iff.mp H
              obtain ⟨t102, A90, H⟩ := H
              replace H : (binnacleref01_Whole.j1 k1 a2 x7_1 (IntKind.u64.wrap ((IntKind.u64.wrap (a2 - (Int.tmod a2 x7_1))) + a0)) (IntKind.u64.wrap ((IntKind.u64.wrap (a2 - (Int.tmod a2 x7_1))) + a0)) (decide (t101 ≤ t102))) = some r := H
              have A9 := Aside0.mk A90
              clear A90
              have H' := Aside0.mk H
              clear H
              go_wp2_with (first | (go_at_call 44; (with_reducible refine (binnacleref01_away.calls (IntKind.u64.wrap ((IntKind.u64.wrap ((IntKind.u64.wrap (a2 - (Int.tmod a2 x7_1))) + a0)) + x7_1)) a2 t101 _ A8.out).mono ?_); rintro e w' ⟨rfl, ⟨nd, rfl⟩⟩) | (go_at_call 44; (with_reducible refine (binnacleref01_away.calls (IntKind.u64.wrap ((IntKind.u64.wrap (a2 - (Int.tmod a2 x7_1))) + a0)) a2 t102 _ A9.out).mono ?_); rintro e w' ⟨rfl, ⟨nd, rfl⟩⟩))
              go_meet
              case rel => exact ⟨_, (decide (t101 ≤ t102)), (by first | rfl | (simp; done) | (simp [*]; done)), H', ⟨by have := HK1.out; first | omega | exact Nat.le_refl _⟩, by repeat (first | exact Drawn0.refl _ | apply Drawn0.step)⟩
            · rw [if_neg c7] at H
              have c7b0 : decide ((IntKind.u64.wrap ((IntKind.u64.wrap ((IntKind.u64.wrap (a2 - (Int.tmod a2 x7_1))) + a0)) + x7_1)) ≤ 4611686018427387903) = false := decide_eq_false c7
              clear c7
              (first | rw [c7b0] | (simp only [i64_w, i32_w]; rw [c7b0]) | skip)
              have H' := Aside0.mk H
              clear H
              go_wp2
              go_meet
              case rel => exact ⟨_, (false), (by first | rfl | (simp; done) | (simp [*]; done)), H', ⟨by have := HK1.out; first | omega | exact Nat.le_refl _⟩, by repeat (first | exact Drawn0.refl _ | apply Drawn0.step)⟩
          case rest =>
            clear HC6
            try clear c1
            try clear p2
            try clear c4
            try clear c4b0
            try clear c5
            try clear c5b0
            try clear c5b1
            try clear p6
            try clear c7
            try clear c7b0
            try clear p2
            obtain ⟨kq, x40_5, rfl, HA, HJ5, ⟨mc5, rfl⟩⟩ := hcut
            cases kq with
            | zero => exact absurd HA.out (by simp [binnacleref01_Whole.j1])
            | succ kj5 =>
              have H := HA.out
              clear HA
              simp only [binnacleref01_Whole.j1] at H
              have HC10 := Aside0.mk H
              clear H
              go_upto_if 40 with (fail)
              go_cut [10] (fun v10 wc => ∃ (kq : Nat) (x10_9 : Int), v10 = .int .u64 x10_9 ∧ Aside0 (binnacleref01_Whole.j2 kq a2 x7_1 (IntKind.u64.wrap ((IntKind.u64.wrap (a2 - (Int.tmod a2 x7_1))) + a0)) x10_9 = some r) ∧ Aside0 (kq ≤ kj5) ∧ Drawn0 w wc)
              case first =>
                have H := HC10.out
                clear HC10
                by_cases c11 : x40_5 = true
                · subst c11
                  have H1 : (binnacleref01_Whole.j2 kj5 a2 x7_1 (IntKind.u64.wrap ((IntKind.u64.wrap (a2 - (Int.tmod a2 x7_1))) + a0)) (IntKind.u64.wrap ((IntKind.u64.wrap ((IntKind.u64.wrap (a2 - (Int.tmod a2 x7_1))) + a0)) + x7_1))) = some r := by rw [if_pos rfl] at H; exact H
                  clear H
                  have H := H1
                  clear H1
                  have H' := Aside0.mk H
                  clear H
                  go_wp2
                  go_meet
                  case rel => exact ⟨_, (IntKind.u64.wrap ((IntKind.u64.wrap ((IntKind.u64.wrap (a2 - (Int.tmod a2 x7_1))) + a0)) + x7_1)), (by first | rfl | (simp; done) | (simp [*]; done)), H', ⟨by have := HK1.out; have := HJ5.out; first | omega | exact Nat.le_refl _⟩, by repeat (first | exact Drawn0.refl _ | apply Drawn0.step)⟩
                · replace c11 := Bool.eq_false_iff.mpr c11
                  subst c11
                  have H1 : (binnacleref01_Whole.j2 kj5 a2 x7_1 (IntKind.u64.wrap ((IntKind.u64.wrap (a2 - (Int.tmod a2 x7_1))) + a0)) (IntKind.u64.wrap ((IntKind.u64.wrap (a2 - (Int.tmod a2 x7_1))) + a0))) = some r := by rw [if_neg (show ¬ (false = true) by decide)] at H; exact H
                  clear H
                  have H := H1
                  clear H1
                  have H' := Aside0.mk H
                  clear H
                  go_wp2
                  go_meet
                  case rel => exact ⟨_, ((IntKind.u64.wrap ((IntKind.u64.wrap (a2 - (Int.tmod a2 x7_1))) + a0))), (by first | rfl | (simp; done) | (simp [*]; done)), H', ⟨by have := HK1.out; have := HJ5.out; first | omega | exact Nat.le_refl _⟩, by repeat (first | exact Drawn0.refl _ | apply Drawn0.step)⟩
              case rest =>
                clear HC10
                try clear c1
                try clear p2
                try clear c4
                try clear c4b0
                try clear c5
                try clear c5b0
                try clear c5b1
                try clear p6
                try clear c7
                try clear c7b0
                try clear c11
                try clear p2
                try clear p6
                obtain ⟨kq, x10_9, rfl, HA, HJ9, ⟨mc9, rfl⟩⟩ := hcut
                cases kq with
                | zero => exact absurd HA.out (by simp [binnacleref01_Whole.j2])
                | succ kj9 =>
                  have H := HA.out
                  clear HA
                  simp only [binnacleref01_Whole.j2] at H
                  by_cases c12 : (IntKind.u64.wrap ((IntKind.u64.wrap (a2 - (Int.tmod a2 x7_1))) + a0)) ≥ x7_1
                  · rw [if_pos c12] at H
                    have c12b0 : decide (x7_1 ≤ (IntKind.u64.wrap ((IntKind.u64.wrap (a2 - (Int.tmod a2 x7_1))) + a0))) = true := decide_eq_true c12
                    clear c12
                    replace H := Option.bind_eq_some_iff.mp H
                    obtain ⟨t103, A130, H⟩ := H
                    replace H : ((binnacleref01_away.f x10_9 a2).bind fun t104 => (if t103 < t104 then (some (IntKind.u64.wrap ((IntKind.u64.wrap ((IntKind.u64.wrap (a2 - (Int.tmod a2 x7_1))) + a0)) - x7_1))) else (some x10_9))) = some r := H
                    have A13 := Aside0.mk A130
                    clear A130
                    replace H := Option.bind_eq_some_iff.mp H
                    obtain ⟨t104, A140, H⟩ := H
                    replace H : (if t103 < t104 then (some (IntKind.u64.wrap ((IntKind.u64.wrap ((IntKind.u64.wrap (a2 - (Int.tmod a2 x7_1))) + a0)) - x7_1))) else (some x10_9)) = some r := H
                    have A14 := Aside0.mk A140
                    clear A140
                    by_cases c15 : t103 < t104
                    · rw [if_pos c15] at H
                      have c15b0 : decide (t103 < t104) = true := decide_eq_true c15
                      clear c15
                      obtain rfl := Option.some.inj H
                      go_wp2_with (first | (go_at_call 44; (with_reducible refine (binnacleref01_away.calls (IntKind.u64.wrap ((IntKind.u64.wrap ((IntKind.u64.wrap (a2 - (Int.tmod a2 x7_1))) + a0)) - x7_1)) a2 t103 _ A13.out).mono ?_); rintro e w' ⟨rfl, ⟨nd, rfl⟩⟩) | (go_at_call 44; (with_reducible refine (binnacleref01_away.calls x10_9 a2 t104 _ A14.out).mono ?_); rintro e w' ⟨rfl, ⟨nd, rfl⟩⟩))
                      go_ret
                      exact ⟨by first | rfl | (simp; done) | (simp [*]; done), by repeat (first | exact Drawn0.refl _ | apply Drawn0.step)⟩
                    · rw [if_neg c15] at H
                      have c15b0 : decide (t103 < t104) = false := decide_eq_false c15
                      clear c15
                      obtain rfl := Option.some.inj H
                      go_wp2_with (first | (go_at_call 44; (with_reducible refine (binnacleref01_away.calls (IntKind.u64.wrap ((IntKind.u64.wrap ((IntKind.u64.wrap (a2 - (Int.tmod a2 x7_1))) + a0)) - x7_1)) a2 t103 _ A13.out).mono ?_); rintro e w' ⟨rfl, ⟨nd, rfl⟩⟩) | (go_at_call 44; (with_reducible refine (binnacleref01_away.calls x10_9 a2 t104 _ A14.out).mono ?_); rintro e w' ⟨rfl, ⟨nd, rfl⟩⟩))
                      go_ret
                      exact ⟨by first | rfl | (simp; done) | (simp [*]; done), by repeat (first | exact Drawn0.refl _ | apply Drawn0.step)⟩
                  · rw [if_neg c12] at H
                    have c12b0 : decide (x7_1 ≤ (IntKind.u64.wrap ((IntKind.u64.wrap (a2 - (Int.tmod a2 x7_1))) + a0))) = false := decide_eq_false c12
                    clear c12
                    obtain rfl := Option.some.inj H
                    go_wp2
                    go_ret
                    exact ⟨by first | rfl | (simp; done) | (simp [*]; done), by repeat (first | exact Drawn0.refl _ | apply Drawn0.step)⟩

end Go.Proofs.Ytloiihbhpmmaiaa.PWhole
