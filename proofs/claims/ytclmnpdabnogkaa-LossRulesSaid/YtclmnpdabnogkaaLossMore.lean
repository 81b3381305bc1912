/- New, Acked, LostAt of a ledger. No condition. -/
import Derived.Test.YtclmnpdabnogkaaLossFind
import Derived.Test.YtclmnpdabnogkaaLossSent
namespace Go.Proofs.Ytclmnpdabnogkaa.LossMore
open Go.RowKit Go.Proofs.Ytclmnpdabnogkaa.PLossTimes Go.Proofs.Ytclmnpdabnogkaa.EvClone Go.Proofs.Ytclmnpdabnogkaa.LossIn Go.Proofs.Ytclmnpdabnogkaa.LossLed Go.Proofs.Ytclmnpdabnogkaa.LossCame Go.Proofs.Ytclmnpdabnogkaa.LossFind Go.Proofs.YtclmnpdabnogkaaW.PrintWords Go.Proofs.YtclmnpdabnogkaaW.PrintLast Go.Proofs.YtclmnpdabnogkaaW.PrintMore

set_option maxRecDepth 100000 in
theorem new_calls (w : World) : Calls Try.prog 20 #[] w fun e w' => e = .returned (.pointer (some ⟨w.heap.size, 0, none⟩)) ∧ Led w' w.heap.size w.heap.size none 0 [] (-1) 0 false 0 false ∧ Below w.heap.size w w' := by
  have k1 := blk_new w (LD none 0 0 (-1) 0 false 0 false)
  have hb := below_alloc (Below.refl w.heap.size w) (LD none 0 0 (-1) 0 false 0 false)
  have HL := Lib.hid (show Led (w.alloc (LD none 0 0 (-1) 0 false 0 false)) w.heap.size w.heap.size none 0 [] (-1) 0 false 0 false from ⟨k1, Kd.Q_nil _ _ _ _ _, Nat.le_refl _⟩)
  have HB := Lib.hid hb
  clear k1 hb
  go_enter Try.func20, Try.ntmps20
  go_wp2_with fail
  go_ret
  exact ⟨rfl, HL.out, HB.out⟩
section
variable {w : World} {base g : Nat} {A : Option Addr} {c : Nat} {ps : List S56} {ak la : Int} {wt : Bool} {ls : Int} {sm : Bool}
theorem acked_calls (h : w.heap[g]? = some (LD A ps.length c ak la wt ls sm)) : Calls Try.prog 25 #[.pointer (some ⟨g, 0, none⟩)] w fun e w' => e = .returned (.int .i64 ak) ∧ w' = w := by
  obtain ⟨l0, l1, l2, l3, l4, l5⟩ := ld_cells h
  go_enter Try.func25, Try.ntmps25
  go_wp2_with fail
  go_ret
  exact ⟨rfl, rfl⟩
theorem at_calls (h : w.heap[g]? = some (LD A ps.length c ak la wt ls sm)) : Calls Try.prog 28 #[.pointer (some ⟨g, 0, none⟩)] w fun e w' => e = .returned (.tuple #[.int .u64 (if wt = true then la else 0), .bool wt]) ∧ w' = w := by
  obtain ⟨l0, l1, l2, l3, l4, l5⟩ := ld_cells h
  go_enter Try.func28, Try.ntmps28
  cases wt with
  | true =>
    go_wp2_with fail
    go_ret2
    exact ⟨rfl, rfl⟩
  | false =>
    go_wp2_with fail
    go_ret2
    exact ⟨rfl, rfl⟩
end
end Go.Proofs.Ytclmnpdabnogkaa.LossMore
