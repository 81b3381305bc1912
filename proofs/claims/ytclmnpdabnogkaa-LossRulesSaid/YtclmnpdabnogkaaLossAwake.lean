/- The chapter's example comes out. No condition. -/
import Derived.Test.YtclmnpdabnogkaaLossMore
namespace Go.Proofs.Ytclmnpdabnogkaa.LossAwake
open Go.RowKit Go.Proofs.Ytclmnpdabnogkaa.PLossTimes Go.Proofs.Ytclmnpdabnogkaa.EvClone Go.Proofs.Ytclmnpdabnogkaa.LossIn Go.Proofs.Ytclmnpdabnogkaa.LossLed Go.Proofs.Ytclmnpdabnogkaa.LossCame Go.Proofs.Ytclmnpdabnogkaa.LossFind Go.Proofs.Ytclmnpdabnogkaa.LossSent Go.Proofs.Ytclmnpdabnogkaa.LossMore Go.Proofs.YtclmnpdabnogkaaW.PrintWords Go.Proofs.YtclmnpdabnogkaaW.PrintLast Go.Proofs.YtclmnpdabnogkaaW.PrintMore

def pkt (j : Nat) : S56 := ⟨j, 10, 100, true, true⟩
theorem lost_new : rtt_Rtt_Lost.f 0 0 333000 166500 false = some 374625 := by decide
theorem came_len : ((((List.range 4).map pkt)).filter (isx 3)).length = 1 := by decide
theorem came_left : (((List.range 4).map pkt)).filter (fun p => !isx 3 p) = [pkt 0, pkt 1, pkt 2] := rfl
theorem find_lost : ([pkt 0, pkt 1, pkt 2]).filter (isLost 3 10 374625) = [pkt 0] := rfl

set_option maxRecDepth 100000 in
set_option maxHeartbeats 2000000 in
theorem awake_calls (w : World) : Calls Try.prog 19 #[] w fun e w' => e = .returned (.bool true) ∧ Below w.heap.size w w' := by
  go_enter Try.func19, Try.ntmps19
  go_wp2_with fail
  refine (new_calls w).mono ?_
  rintro e w1 ⟨rfl, hl, hb⟩
  have HL := Lib.hid hl
  have HB := Lib.hid hb
  clear hl hb
  go_upto_region 3 with (fail)
  go_loopw [8] (fun i wr => ∃ (j : Nat) (A : Option Addr) (c : Nat) (la : Int) (wt : Bool) (ls : Int) (sm : Bool), j ≤ 4 ∧ i = .int .u64 j ∧ Led wr w.heap.size w.heap.size A c ((List.range j).map pkt) (-1) la wt ls sm ∧ Below w.heap.size w wr) (fun i _ => 4 - (intOf i).toNat)
  case atStart => exact ⟨0, none, 0, 0, false, 0, false, by omega, rfl, HL.out, HB.out⟩
  case round =>
    clear HL HB
    obtain ⟨j, A, c, la, wt, ls, sm, hj, rfl, hl, hb⟩ := hrel
    have HL := Lib.hid hl
    have HB := Lib.hid hb
    clear hl hb
    by_cases hj4 : j < 4
    · have e1 : (j : Int) < 4 := by omega
      go_wp2_with fail
      have hs := sent_calls HL.out HB.out.size (j : Int) 10 100 (by
        intro x hx
        obtain ⟨i, hi, rfl⟩ := List.mem_map.1 hx
        have := List.mem_range.1 hi
        show (i : Int) < j
        omega) (by simp; omega) (by omega) (by omega)
      refine hs.mono ?_
      clear hs
      rintro e w2 ⟨rfl, B, d, hl2, hb2⟩
      have HL2 := Lib.hid (show Led w2 w.heap.size w.heap.size B d ((List.range (j + 1)).map pkt) (-1) la wt 10 true by rw [List.range_succ, List.map_append]; exact hl2)
      have HB2 := Lib.hid (HB.out.trans hb2)
      clear hl2 hb2
      go_wp2_with fail
      go_roundw
      case rel => exact ⟨j + 1, B, d, la, wt, 10, true, by omega, by go_num, HL2.out, HB2.out⟩
      case measure => simp [intOf]; omega
    · have hj4 : j = 4 := by omega
      subst hj4
      go_wp2_with fail
      have k1 := blk_new wr (.cells #[.int .u64 3, .int .u64 4] 65)
      have hl3 := HL.out.below (below_alloc (Below.refl _ _) (.cells #[.int .u64 3, .int .u64 4] 65))
      have hb3 := below_alloc HB.out (.cells #[.int .u64 3, .int .u64 4] 65)
      clear HL HB
      generalize wr.alloc (.cells #[.int .u64 3, .int .u64 4] 65) = w3 at *
      have hcm := came_calls hl3 hb3.size 3 4 wr.heap.size 1 (blk_cell k1 0) (blk_cell k1 1) (by omega) (by omega) (by omega) (by omega) (by omega) (by
        intro x hx
        obtain ⟨i, hi, rfl⟩ := List.mem_map.1 hx
        have := List.mem_range.1 hi
        show 0 ≤ (i : Int) ∧ (i : Int) ≤ _
        omega) (by simp)
      have HB3 := Lib.hid hb3
      clear k1 hl3 hb3
      refine hcm.mono ?_
      clear hcm
      rintro e w4 ⟨C, B, cc, b, m, rfl, hl4, hb4, _⟩
      rw [came_len, came_left] at hl4
      rw [came_len]
      have HL := Lib.hid hl4
      have HB := Lib.hid (HB3.out.trans hb4)
      clear hl4 hb4 HB3
      go_wp2_with fail
      refine (rtt_New.calls 0 0 333000 166500 false w4 rfl).mono ?_
      rintro e w5 ⟨rfl, hb5⟩
      have hl5 := HL.out.below hb5
      have hbb := below_step HB.out hb5
      clear HL HB hb5
      have HL := Lib.hid hl5
      have HB := Lib.hid hbb
      clear hl5 hbb
      go_wp2_with fail
      refine (find_calls HL.out HB.out.size 10 0 0 333000 166500 false 374625 lost_new (by decide) (by decide) (by
        intro x hx
        simp [pkt] at hx
        rcases hx with rfl | rfl | rfl <;> simp) (by simp)).mono ?_
      rintro e w6 ⟨C2, B2, cc2, b2, rfl, hq, _, hb6, _⟩
      have hm : (if (1 : Nat) = 0 then (-1 : Int) else max (-1) 3) = 3 := by decide
      rw [hm, find_lost] at hq
      rw [hm, find_lost]
      have HE := Lib.hid (HB.out.trans hb6)
      obtain ⟨ra, o, cap, hA, _⟩ := Kd.Q_form hq (by simp)
      obtain rfl : C2 = some ⟨ra, o, none⟩ := by injection hA
      have c0 := (row_cells hq 0 (by simp)).1
      clear hA hq hb6 HL HB hm
      rw [show o + 0 * 5 = o by omega] at c0
      have c1 : w6.cell? ⟨ra, o, none⟩ = some (.int .u64 0) := c0
      clear c0
      go_wp2_with fail
      go_ret
      exact ⟨rfl, HE.out⟩
end Go.Proofs.Ytclmnpdabnogkaa.LossAwake
