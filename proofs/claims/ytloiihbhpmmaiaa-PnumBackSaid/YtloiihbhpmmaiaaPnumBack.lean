/- The call of the law PnumBack answers true for every input, and nothing that was there has changed. No condition. -/
import Derived.Test.YtloiihbhpmmaiaaPnumA
import Derived.Test.YtloiihbhpmmaiaaPCutx1
namespace Go.Proofs.Ytloiihbhpmmaiaa.Back
open Go.RowKit Go.Proofs.YtloiihbhpmmaiaaW.PrintWords Go.Proofs.YtloiihbhpmmaiaaW.PrintLast Go.Proofs.YtloiihbhpmmaiaaW.PrintMore Go.Proofs.Ytloiihbhpmmaiaa.Whole Go.Proofs.Ytloiihbhpmmaiaa.PCut
attribute [local go_sem] max2_int min2_int

theorem away_is (a m : Int) (ha : -1 ≤ a) (hm : 0 ≤ m) : awayOf (a + 1 + m) a = m + 1 := by
  unfold awayOf mn
  split
  · rw [if_neg (by omega)]; omega
  · omega

/-- A number's lowest bytes. -/
def cutL (full x : Int) : List Int :=
  if x = 1 then [full % 256] else if x = 2 then [full / 256 % 256, full % 256] else if x = 3 then [full / 65536 % 256, full / 256 % 256, full % 256]
  else [full / 16777216 % 256, full / 65536 % 256, full / 256 % 256, full % 256]

theorem cut_f (full x : Int) (hx : x = 1 ∨ x = 2 ∨ x = 3 ∨ x = 4) : pnum_Cut.f 6 full x = some (cutL full x) := by
  have w0 : wrap64 (8 * 0) = 0 := by decide +kernel
  have w1 : wrap64 (8 * 1) = 8 := by decide +kernel
  have w2 : wrap64 (8 * 2) = 16 := by decide +kernel
  have w3 : wrap64 (8 * 3) = 24 := by decide +kernel
  have m0 : wrap64 (0 - 1) = -1 := by decide +kernel
  have m1 : wrap64 (1 - 1) = 0 := by decide +kernel
  have m2 : wrap64 (2 - 1) = 1 := by decide +kernel
  have m3 : wrap64 (3 - 1) = 2 := by decide +kernel
  have s0 : shr .u64 full 0 = full := by unfold shr; simp
  have s1 : shr .u64 full 8 = full / 256 := rfl
  have s2 : shr .u64 full 16 = full / 65536 := rfl
  have s3 : shr .u64 full 24 = full / 16777216 := rfl
  have g0 : (0 : Int) ≥ 0 := by decide
  have g1 : (1 : Int) ≥ 0 := by decide
  have g2 : (2 : Int) ≥ 0 := by decide
  have g3 : (3 : Int) ≥ 0 := by decide
  have gm : ¬ ((-1 : Int) ≥ 0) := by decide
  have k8 : (0 : Int) ≤ 8 := by decide
  have k16 : (0 : Int) ≤ 16 := by decide
  have k24 : (0 : Int) ≤ 24 := by decide
  have k0 : (0 : Int) ≤ 0 := by decide
  rcases hx with rfl | rfl | rfl | rfl
  · have e : mn (mx 1 1) 4 - 1 = 0 := rfl
    unfold pnum_Cut.f
    rw [e, pnum_Cut.l0, if_pos g0, w0, if_pos k0, if_pos (by simp), s0, m0, pnum_Cut.l0, if_neg gm]
    rfl
  · have e : mn (mx 2 1) 4 - 1 = 1 := rfl
    unfold pnum_Cut.f
    rw [e, pnum_Cut.l0, if_pos g1, w1, if_pos k8, if_pos (by simp), s1, m1, pnum_Cut.l0, if_pos g0, w0, if_pos k0, if_pos (by simp), s0, m0, pnum_Cut.l0, if_neg gm]
    rfl
  · have e : mn (mx 3 1) 4 - 1 = 2 := rfl
    unfold pnum_Cut.f
    rw [e, pnum_Cut.l0, if_pos g2, w2, if_pos k16, if_pos (by simp), s2, m2, pnum_Cut.l0, if_pos g1, w1, if_pos k8, if_pos (by simp), s1, m1, pnum_Cut.l0, if_pos g0, w0, if_pos k0, if_pos (by simp), s0, m0, pnum_Cut.l0, if_neg gm]
    rfl
  · have e : mn (mx 4 1) 4 - 1 = 3 := rfl
    unfold pnum_Cut.f
    rw [e, pnum_Cut.l0, if_pos g3, w3, if_pos k24, if_pos (by simp), s3, m3, pnum_Cut.l0, if_pos g2, w2, if_pos k16, if_pos (by simp), s2, m2, pnum_Cut.l0, if_pos g1, w1, if_pos k8, if_pos (by simp), s1, m1, pnum_Cut.l0, if_pos g0, w0, if_pos k0, if_pos (by simp), s0, m0, pnum_Cut.l0, if_neg gm]
    rfl

theorem cutL_in (full x : Int) : ∀ y ∈ cutL full x, 0 ≤ y ∧ y ≤ 255 := by
  intro y hy
  unfold cutL at hy
  repeat' split at hy
  all_goals
    simp only [List.mem_cons, List.not_mem_nil, or_false] at hy
    omega

/-- Cut, and made whole, it is the same. -/
theorem back (full g d x : Int) (h0 : 0 ≤ full) (h1 : full ≤ 2305843010287435776) (hg : -1 ≤ g) (hgf : g + 1 ≤ full) (hd : full - (g + 1) ≤ d) (hd1 : d ≤ 1073741823) (hx : sz (d + 1) = x) : whole (cutL full x) g = (full, 0) := by
  have hx4 : (x = 1 ∧ d + 1 < 128) ∨ (x = 2 ∧ d + 1 < 32768) ∨ (x = 3 ∧ d + 1 < 8388608) ∨ x = 4 := by
    subst hx
    unfold sz
    repeat' split
    all_goals omega
  have hge : ¬ g ≥ 4611686018427387903 := by omega
  have hgl : ¬ g < -1 := by omega
  rcases hx4 with ⟨rfl, hd2⟩ | ⟨rfl, hd2⟩ | ⟨rfl, hd2⟩ | rfl
  · have e : cutL full 1 = [full % 256] := rfl
    have v : val [full % 256] = full % 256 := by simp [val]
    unfold whole
    rw [if_neg (by rw [e]; simp), if_neg hge, if_neg hgl, show (256 : Int) ^ (cutL full 1).length = 256 from by rw [e]; simp, e, v]
    refine Prod.ext ?_ rfl
    rw [show (near (full % 256) (g + 1) 256, (0 : Int)).fst = near (full % 256) (g + 1) 256 from rfl]
    unfold near
    generalize g + 1 = q at *
    split
    · omega
    · split <;> omega
  · have e : cutL full 2 = [full / 256 % 256, full % 256] := rfl
    have v : val [full / 256 % 256, full % 256] = full % 65536 := by simp [val]; omega
    unfold whole
    rw [if_neg (by rw [e]; simp), if_neg hge, if_neg hgl, show (256 : Int) ^ (cutL full 2).length = 65536 from by rw [e]; simp, e, v]
    refine Prod.ext ?_ rfl
    rw [show (near (full % 65536) (g + 1) 65536, (0 : Int)).fst = near (full % 65536) (g + 1) 65536 from rfl]
    unfold near
    generalize g + 1 = q at *
    split
    · omega
    · split <;> omega
  · have e : cutL full 3 = [full / 65536 % 256, full / 256 % 256, full % 256] := rfl
    have v : val [full / 65536 % 256, full / 256 % 256, full % 256] = full % 16777216 := by simp [val]; omega
    unfold whole
    rw [if_neg (by rw [e]; simp), if_neg hge, if_neg hgl, show (256 : Int) ^ (cutL full 3).length = 16777216 from by rw [e]; simp, e, v]
    refine Prod.ext ?_ rfl
    rw [show (near (full % 16777216) (g + 1) 16777216, (0 : Int)).fst = near (full % 16777216) (g + 1) 16777216 from rfl]
    unfold near
    generalize g + 1 = q at *
    split
    · omega
    · split <;> omega
  · have e : cutL full 4 = [full / 16777216 % 256, full / 65536 % 256, full / 256 % 256, full % 256] := rfl
    have v : val [full / 16777216 % 256, full / 65536 % 256, full / 256 % 256, full % 256] = full % 4294967296 := by simp [val]; omega
    unfold whole
    rw [if_neg (by rw [e]; simp), if_neg hge, if_neg hgl, show (256 : Int) ^ (cutL full 4).length = 4294967296 from by rw [e]; simp, e, v]
    refine Prod.ext ?_ rfl
    rw [show (near (full % 4294967296) (g + 1) 4294967296, (0 : Int)).fst = near (full % 4294967296) (g + 1) 4294967296 from rfl]
    unfold near
    generalize g + 1 = q at *
    split
    · omega
    · split <;> omega

theorem cut_calls (full x : Int) (hx : x = 1 ∨ x = 2 ∨ x = 3 ∨ x = 4) (w : World) :
    Calls Try.prog 43 #[.int .u64 full, .int .i64 x] w fun e w' => ∃ A : Option Addr, ∃ c : Nat, e = .returned (.slice A (cutL full x).length c) ∧ Kd.C (Kd.int .u8) w' A (cutL full x).length (cutL full x) ∧ Below w.heap.size w w' := by
  refine (pnum_Cut.calls 6 full x _ w (cut_f full x hx)).mono ?_
  rintro e w' ⟨v, rfl, hR, hb⟩
  obtain ⟨A, c, rfl, _, hC⟩ := Kd.R_reads hR
  exact ⟨A, c, rfl, hC, hb⟩

theorem cutL_len (full x : Int) : (cutL full x).length ≤ 140737488355328 := by
  unfold cutL
  repeat' split
  all_goals simp

set_option maxRecDepth 100000 in
set_option maxHeartbeats 1000000 in
theorem back_far (a b c : Int) (w : World) (ha : a < -1 ∨ 2305843009213693952 < a) : Calls Try.prog 12 #[.int .i64 a, .int .u32 b, .int .u32 c] w fun e w' => e = .returned (.bool true) ∧ Below w.heap.size w w' := by
  rcases ha with ha | ha
  · have h1 : decide (a < -1) = true := decide_eq_true ha
    clear ha
    go_enter Try.func12, Try.ntmps12
    go_wp2_with fail
    refine (awake_calls _).mono ?_
    rintro e w' ⟨rfl, hb⟩
    go_wp2_with fail
    go_ret
    exact ⟨rfl, hb⟩
  · have h1 : decide (a < -1) = false := decide_eq_false (by omega)
    have h2 : decide ((2305843009213693952 : Int) < a) = true := decide_eq_true ha
    clear ha
    go_enter Try.func12, Try.ntmps12
    go_wp2_with fail
    refine (awake_calls _).mono ?_
    rintro e w' ⟨rfl, hb⟩
    go_wp2_with fail
    go_ret
    exact ⟨rfl, hb⟩

set_option maxRecDepth 100000 in
set_option maxHeartbeats 1000000 in
theorem back_near (a b c m x q : Int) (w : World) (ha : -1 ≤ a) (ha1 : a ≤ 2305843009213693952) (hb0 : 0 ≤ b) (hc0 : 0 ≤ c) (hc1 : c ≤ 4294967295) (hm : b / 4 = m) (m0 : 0 ≤ m) (m1 : m ≤ 1073741823)
    (hq : c % (m + 1) = q) (hx : sz (m + 1) = x) :
    Calls Try.prog 12 #[.int .i64 a, .int .u32 b, .int .u32 c] w fun e w' => e = .returned (.bool true) ∧ Below w.heap.size w w' := by
  have hx4 : x = 1 ∨ x = 2 ∨ x = 3 ∨ x = 4 := by
    subst hx; unfold sz
    repeat' split
    all_goals omega
  have q0 : 0 ≤ q := by rw [← hq]; exact Int.emod_nonneg _ (by omega)
  have q1 : q < m + 1 := by rw [← hq]; exact Int.emod_lt_of_pos _ (by omega)
  have hback := back (a + 1 + m) (a + q) m x (by omega) (by omega) (by omega) (by omega) (by omega) m1 hx
  have cx := fun w => size_calls (a + 1 + m) a x (by omega) (by omega) (by omega) (by rw [away_is a m ha m0]; exact hx) w
  have CX := Lib.hid cx
  have HX := Lib.hid hx4
  have HB := Lib.hid hback
  have h1 : decide (a < -1) = false := decide_eq_false (by omega)
  have h2 : decide ((2305843009213693952 : Int) < a) = false := decide_eq_false (by omega)
  have HA := Lib.hid ha1
  have a63 : a + m + 2 < 9223372036854775807 := by omega
  have hsub : a + 1 + m - (a + 1) = m := by omega
  clear cx hx hx4 hback ha1
  go_enter Try.func12, Try.ntmps12
  go_wp2_with fail
  refine (awake_calls _).mono ?_
  rintro e w' ⟨rfl, hb⟩
  go_wp2_with fail
  refine (CX.out _).mono ?_
  rintro e w2 ⟨rfl, hb2⟩
  go_wp2_with fail
  refine (cut_calls (a + 1 + m) x HX.out _).mono ?_
  rintro e w3 ⟨A, cc, rfl, hC, hb3⟩
  have HC := Lib.hid hC
  clear hC
  generalize hl : (cutL (a + 1 + m) x).length = L at *
  have HL := Lib.hid hl
  clear hl
  go_wp2_with fail
  have hl := HL.out
  subst hl
  refine (whole_calls HC.out (cutL_in _ _) (cutL_len _ _) (a + q) (by omega)).mono ?_
  rintro e w4 ⟨rfl, rfl⟩
  rw [HB.out]
  go_wp2_with fail
  go_ret
  exact ⟨rfl, below_step (below_step hb hb2) hb3⟩

theorem walk {W : World} (a : Int) (_wa : (Lit.int .i64 a).wf = true) (b : Int) (wb : (Lit.int .u32 b).wf = true) (c : Int) (wc : (Lit.int .u32 c).wf = true) :
    Calls Try.prog 12 #[.int .i64 a, .int .u32 b, .int .u32 c] W fun e w' => e = .returned (.bool true) ∧ Below W.heap.size W w' := by
  have hb := bounds_u32 wb
  have hc := bounds_u32 wc
  by_cases h : a < -1 ∨ 2305843009213693952 < a
  · exact back_far a b c W h
  · exact back_near a b c _ _ _ W (by omega) (by omega) hb.1 hc.1 hc.2 rfl (by omega) (by omega) rfl rfl
end Go.Proofs.Ytloiihbhpmmaiaa.Back
