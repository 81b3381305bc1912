/- The call of the law PnumSizes answers true for every input, and nothing that was there has changed. No condition. -/
import Derived.Test.YtloiihbhpmmaiaaPnumA
namespace Go.Proofs.Ytloiihbhpmmaiaa.Whole
open Go.RowKit Go.Proofs.YtloiihbhpmmaiaaW.PrintWords Go.Proofs.YtloiihbhpmmaiaaW.PrintLast Go.Proofs.YtloiihbhpmmaiaaW.PrintMore
attribute [local go_sem] max2_int min2_int

theorem away_is (a m : Int) (ha : -1 ≤ a) (hm : 0 ≤ m) : awayOf (a + 1 + m) a = m + 1 := by
  unfold awayOf mn
  split
  · rw [if_neg (by omega)]; omega
  · omega

set_option maxRecDepth 100000 in
set_option maxHeartbeats 1000000 in
theorem sizes_far (a b c : Int) (w : World) (ha : a < -1 ∨ 2305843009213693952 < a) : Calls Try.prog 11 #[.int .i64 a, .int .u32 b, .int .u32 c] w fun e w' => e = .returned (.bool true) ∧ Below w.heap.size w w' := by
  rcases ha with ha | ha
  · have h1 : decide (a < -1) = true := decide_eq_true ha
    clear ha
    go_enter Try.func11, Try.ntmps11
    go_wp2_with fail
    refine (awake_calls _).mono ?_
    rintro e w' ⟨rfl, hb⟩
    go_wp2_with fail
    go_ret
    exact ⟨rfl, hb⟩
  · have h1 : decide (a < -1) = false := decide_eq_false (by omega)
    have h2 : decide ((2305843009213693952 : Int) < a) = true := decide_eq_true ha
    clear ha
    go_enter Try.func11, Try.ntmps11
    go_wp2_with fail
    refine (awake_calls _).mono ?_
    rintro e w' ⟨rfl, hb⟩
    go_wp2_with fail
    go_ret
    exact ⟨rfl, hb⟩

set_option maxRecDepth 100000 in
set_option maxHeartbeats 1000000 in
theorem sizes_near (a b c m M x y : Int) (w : World) (ha : -1 ≤ a) (ha1 : a ≤ 2305843009213693952) (hm : (if c < b then c else b) = m) (hM : (if b < c then c else b) = M) (m0 : 0 ≤ m) (mM : m ≤ M) (M1 : M ≤ 4294967295)
    (hx : sz (m + 1) = x) (hy : sz (M + 1) = y) (hx4 : x = 1 ∨ x = 2 ∨ x = 3 ∨ x = 4) :
    Calls Try.prog 11 #[.int .i64 a, .int .u32 b, .int .u32 c] w fun e w' => e = .returned (.bool true) ∧ Below w.heap.size w w' := by
  have hy4 : x ≤ y ∧ y ≤ 4 := by
    subst hx; subst hy
    unfold sz
    repeat' split
    all_goals omega
  have hx' : (x = 1 → m + 1 < 128) ∧ (x = 2 → 128 ≤ m + 1 ∧ m + 1 < 32768) ∧ (x = 3 → 32768 ≤ m + 1 ∧ m + 1 < 8388608) := by
    subst hx
    unfold sz
    refine ⟨fun h => ?_, fun h => ?_, fun h => ?_⟩ <;> (repeat' split at h) <;> omega
  have cx := fun w => size_calls (a + 1 + m) a x (by omega) (by omega) (by omega) (by rw [away_is a m ha m0]; exact hx) w
  have cy := fun w => size_calls (a + 1 + M) a y (by omega) (by omega) (by omega) (by rw [away_is a M ha (by omega)]; exact hy) w
  have CX := Lib.hid cx
  have CY := Lib.hid cy
  have h1 : decide (a < -1) = false := decide_eq_false (by omega)
  have h2 : decide ((2305843009213693952 : Int) < a) = false := decide_eq_false (by omega)
  have a63 : a < 9223372036854775807 := by omega
  clear cx cy hx hy ha1
  rcases hx4 with rfl | rfl | rfl | rfl
  all_goals
    simp at hx'
    obtain ⟨y1, y4⟩ := hy4
    go_enter Try.func11, Try.ntmps11
    go_wp2_with fail
    refine (awake_calls _).mono ?_
    rintro e w' ⟨rfl, hb⟩
    go_wp2_with fail
    refine (CX.out _).mono ?_
    rintro e w2 ⟨rfl, hb2⟩
    go_wp2_with fail
    refine (CY.out _).mono ?_
    rintro e w3 ⟨rfl, hb3⟩
    go_wp2_with fail
    go_ret
    exact ⟨rfl, below_step (below_step hb hb2) hb3⟩

/-- min and max, as the walk has them. -/
theorem walk {W : World} (a : Int) (_wa : (Lit.int .i64 a).wf = true) (b : Int) (wb : (Lit.int .u32 b).wf = true) (c : Int) (wc : (Lit.int .u32 c).wf = true) :
    Calls Try.prog 11 #[.int .i64 a, .int .u32 b, .int .u32 c] W fun e w' => e = .returned (.bool true) ∧ Below W.heap.size W w' := by
  have hb := bounds_u32 wb
  have hc := bounds_u32 wc
  by_cases h : a < -1 ∨ 2305843009213693952 < a
  · exact sizes_far a b c W h
  · refine sizes_near a b c _ _ _ _ W (by omega) (by omega) rfl rfl ?_ ?_ ?_ rfl rfl ?_
    · split <;> omega
    · split <;> split <;> omega
    · split <;> omega
    · unfold sz
      repeat' split
      all_goals omega
end Go.Proofs.Ytloiihbhpmmaiaa.Whole
