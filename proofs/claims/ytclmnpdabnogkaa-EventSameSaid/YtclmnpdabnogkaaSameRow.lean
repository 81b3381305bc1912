/- EventSame's walk, as the row asks for it. -/
import Derived.Test.YtclmnpdabnogkaaSameWalk
namespace Go.Proofs.Ytclmnpdabnogkaa.SameRow
open Go.RowKit Go.Proofs.Ytclmnpdabnogkaa.PEventChecks Go.Proofs.YtclmnpdabnogkaaW.PrintWords Go.Proofs.YtclmnpdabnogkaaW.PrintLast Go.Proofs.YtclmnpdabnogkaaW.PrintMore

theorem rowWalk {W : World} (cs0 : Array Value) (x : S40) (K0 : k40.K W x cs0.toList)
    (w0 : (Lit.int .u8 x.f0).wf = true ∧ (Lit.int .u64 x.f1).wf = true ∧ (x.f2.length * 8 ≤ reachBytes ∧ ∀ y ∈ x.f2, (Lit.int .u64 y).wf = true) ∧ (x.f3.length * 1 ≤ reachBytes ∧ ∀ y ∈ x.f3, (Lit.int .u8 y).wf = true))
    (cs1 : Array Value) (y : S40) (K1 : k40.K W y cs1.toList)
    (_w1 : (Lit.int .u8 y.f0).wf = true ∧ (Lit.int .u64 y.f1).wf = true ∧ (y.f2.length * 8 ≤ reachBytes ∧ ∀ z ∈ y.f2, (Lit.int .u64 z).wf = true) ∧ (y.f3.length * 1 ≤ reachBytes ∧ ∀ z ∈ y.f3, (Lit.int .u8 z).wf = true))
    (k : Int) (wk : (Lit.int .u8 k).wf = true) (i : Int) (_wi : (Lit.int .i64 i).wf = true) :
    Calls Try.prog 4 #[.agg cs0, .agg cs1, .int .u8 k, .int .i64 i] W fun e w' => e = .returned (.bool true) ∧ Below W.heap.size W w' := by
  obtain ⟨A2, c2, A3, c3, e0, h2, g2, h3, g3⟩ := k40_open K0
  obtain ⟨B2, d2, B3, d3, e1, i2, j2, i3, j3⟩ := k40_open K1
  obtain rfl : cs0 = #[.int .u8 x.f0, .int .u64 x.f1, .slice A2 x.f2.length c2, .slice A3 x.f3.length c3] := Array.toList_inj.1 e0
  obtain rfl : cs1 = #[.int .u8 y.f0, .int .u64 y.f1, .slice B2 y.f2.length d2, .slice B3 y.f3.length d3] := Array.toList_inj.1 e1
  have ka := bounds_u8 w0.1
  have aa := bounds_u64 w0.2.1
  have kk := bounds_u8 wk
  exact SameWalk.walk x.f0 x.f1 A2 A3 c2 c3 x.f2 x.f3 y.f0 y.f1 B2 B3 d2 d3 y.f2 y.f3 k i kk.1 kk.2 ka.1 ka.2 aa.1 aa.2 g2 h2 g3 h3 j2 i2 j3 i3 (fun z hz => bounds_u64 (w0.2.2.1.2 z hz))
end Go.Proofs.Ytclmnpdabnogkaa.SameRow
