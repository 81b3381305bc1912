/- The call of the law CreditGives: true, and nothing that was there has changed: out of the printed contract and what the law computes. -/
import Derived.Test.YtloiihbhpmmaiaaPureCreditGives
import Derived.SizedLaws
namespace Go.Proofs.Ytloiihbhpmmaiaa.PureCreditGives
open Go.RowKit Go.Proofs.Ytloiihbhpmmaiaa.PCreditGives Go.Proofs.YtloiihbhpmmaiaaW.PrintWords
def WF (x : S54) : Prop := (Lit.int .u8 x.f0).wf = true ∧ (Lit.int .u16 x.f1).wf = true ∧ (Lit.int .u64 x.f2).wf = true ∧ True
theorem fit_of {x : S54} (h : WF x) : Fit x := ⟨bounds_u8 h.1, bounds_u16 h.2.1, bounds_u64 h.2.2.1⟩
theorem walk {W : World} (a : Int) (wa : (Lit.int .u64 a).wf = true) (A : Option Addr) (len cap : Nat) (xs : List S54) (e : xs.length = len) (hc : len ≤ cap) (hC : Kd.C k54 W A len xs) (hw : xs.length * 24 ≤ reachBytes ∧ ∀ y ∈ xs, WF y) :
    Calls Try.prog 7 #[.int .u64 a, .slice A len cap] W fun e w' => e = .returned (.bool true) ∧ Below W.heap.size W w' := by
  subst e
  obtain ⟨k, hk⟩ := answers a xs (bounds_u64 wa).1 (fun x hx => fit_of (hw.2 x hx))
  exact binnaclelaw20_CreditGives.calls k a A cap xs true W hC hc hk
end Go.Proofs.Ytloiihbhpmmaiaa.PureCreditGives
