/- The law's Awake of layer 2 answers true; pnum.Size answers the number of bytes that the document names. No condition. -/
import Derived.Test.YtloiihbhpmmaiaaWhole
import Derived.Test.YtloiihbhpmmaiaaPSizex1
namespace Go.Proofs.Ytloiihbhpmmaiaa.Whole
open Go.RowKit Go.Proofs.YtloiihbhpmmaiaaW.PrintWords Go.Proofs.YtloiihbhpmmaiaaW.PrintLast Go.Proofs.YtloiihbhpmmaiaaW.PrintMore Go.Proofs.Ytloiihbhpmmaiaa.PSize
attribute [local go_sem] max2_int min2_int

theorem awake_whole : whole [155, 50] 2821665002 = (2821692210, 0) := by
  unfold whole near val
  decide +kernel

set_option maxRecDepth 100000 in
theorem awake_calls (w : World) : Calls Try.prog 16 #[] w fun e w' => e = .returned (.bool true) ∧ Below w.heap.size w w' := by
  go_enter Try.func16, Try.ntmps16
  go_wp2_with fail
  refine (whole_calls (xs := [155, 50]) ?hC ?hx ?hl _ ?hg).mono ?_
  case hC => exact ⟨rfl, by decide, fun _ => ⟨_, rfl, fun j p hp => by
    match j, hp with
    | 0, hp => simp at hp; subst hp; exact ⟨_, rfl, rfl, fun i u hu => by match i, hu with | 0, hu => simp at hu; subst hu; simp [Addr.add, Kd.int, Kd.scalar]⟩
    | 1, hp => simp at hp; subst hp; exact ⟨_, rfl, rfl, fun i u hu => by match i, hu with | 0, hu => simp at hu; subst hu; simp [Addr.add, Kd.int, Kd.scalar]⟩⟩⟩
  case hx => simp
  case hl => simp
  case hg => decide
  rintro e w' ⟨rfl, rfl⟩
  rw [awake_whole]
  go_wp2
  go_ret
  exact ⟨rfl, (Below.refl _ _).alloc (Nat.le_refl _) _⟩

/-- How many bytes of a number that far ahead are sent. -/
def sz (away : Int) : Int := if away < 128 then 1 else if away < 32768 then 2 else if away < 8388608 then 3 else 4
def awayOf (full acked : Int) : Int := if acked ≥ 0 then full - mn acked full else full + 1

theorem size_f (full acked x : Int) (h0 : 0 ≤ full) (h1 : full < 9223372036854775807) (ha : acked ≤ 9223372036854775807) (hx : sz (awayOf full acked) = x) : pnum_Size.f 6 full acked = some x := by
  have key : ∀ d, pnum_Size.j0 6 d = some (sz d) := by
    intro d
    have s1 : shl .u64 1 (wrap64 (wrap64 (8 * 1) - 1)) = 128 := by decide +kernel
    have s2 : shl .u64 1 (wrap64 (wrap64 (8 * wrap64 (1 + 1)) - 1)) = 32768 := by decide +kernel
    have s3 : shl .u64 1 (wrap64 (wrap64 (8 * wrap64 (wrap64 (1 + 1) + 1)) - 1)) = 8388608 := by decide +kernel
    have z1 : (0 : Int) ≤ wrap64 (wrap64 (8 * 1) - 1) := by decide +kernel
    have z2 : (0 : Int) ≤ wrap64 (wrap64 (8 * wrap64 (1 + 1)) - 1) := by decide +kernel
    have z3 : (0 : Int) ≤ wrap64 (wrap64 (8 * wrap64 (wrap64 (1 + 1) + 1)) - 1) := by decide +kernel
    have l1 : (1 : Int) < 4 := by decide
    have l2 : wrap64 (1 + 1) < 4 := by decide +kernel
    have l3 : wrap64 (wrap64 (1 + 1) + 1) < 4 := by decide +kernel
    have l4 : ¬ wrap64 (wrap64 (wrap64 (1 + 1) + 1) + 1) < 4 := by decide +kernel
    have e2 : wrap64 (1 + 1) = 2 := by decide +kernel
    have e3 : wrap64 (wrap64 (1 + 1) + 1) = 3 := by decide +kernel
    rw [pnum_Size.j0, pnum_Size.l0, if_pos l1, if_pos z1, s1]
    unfold sz
    by_cases c1 : d < 128
    · rw [if_pos c1, if_pos c1]
    · rw [if_neg c1, if_neg c1, pnum_Size.l0, if_pos l2, if_pos z2, s2]
      by_cases c2 : d < 32768
      · rw [if_pos c2, if_pos c2, e2]
      · rw [if_neg c2, if_neg c2, pnum_Size.l0, if_pos l3, if_pos z3, s3]
        by_cases c3 : d < 8388608
        · rw [if_pos c3, if_pos c3, e3]
        · rw [if_neg c3, if_neg c3, pnum_Size.l0, if_neg l4]
  subst hx
  unfold pnum_Size.f awayOf
  by_cases hk : acked ≥ 0
  · rw [if_pos hk, if_pos hk, key, u64_id hk (by omega)]
    have hm : mn acked full ≤ full ∧ 0 ≤ mn acked full := by unfold mn; split <;> omega
    rw [u64_id (by omega) (by omega)]
  · rw [if_neg hk, if_neg hk, key, u64_id (by omega) (by omega)]

theorem size_calls (full acked x : Int) (h0 : 0 ≤ full) (h1 : full < 9223372036854775807) (ha : acked ≤ 9223372036854775807) (hx : sz (awayOf full acked) = x) (w : World) :
    Calls Try.prog 42 #[.int .u64 full, .int .i64 acked] w fun e w' => e = .returned (.int .i64 x) ∧ Below w.heap.size w w' :=
  pnum_Size.calls 6 full acked x w (size_f full acked x h0 h1 ha hx)
end Go.Proofs.Ytloiihbhpmmaiaa.Whole
