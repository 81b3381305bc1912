/- The statement 'CreditGetsSaid': for every input the law returns true, and each argument reads as it read. The walk is PureCreditGets.walk. No condition. -/
import Derived.Test.YtloiihbhpmmaiaaRows
import Derived.Test.YtloiihbhpmmaiaaPureCreditGets
import Derived.Test.YtloiihbhpmmaiaaOpn
import Derived.WalkKit
import Derived.ProofKit
import Derived.OpenShut
import Derived.ShutString
import Derived.ChangeOld
import Derived.Below
import Derived.SizedLaws
namespace Go.Proofs.Ytloiihbhpmmaiaa.RowCreditGets
open Go.ChangeShapes Go.WideShapes Go.ChangeAt Go.RowKit Go.Proofs.YtloiihbhpmmaiaaW.PrintWords Go.Proofs.Ytloiihbhpmmaiaa.PCreditGets
open Go.ChangeMaps (open_string shut_string)
set_option linter.unusedVariables false
theorem own : ownKnob Try.prog.godebug = none := by kernel_rfl
theorem laidOut : laidOutB Try.prog = true := by kernel_rfl
def WF54 (x : S54) : Prop := (Lit.int .u8 x.f0).wf = true ∧ (Lit.int .u16 x.f1).wf = true ∧ (Lit.int .u64 x.f2).wf = true ∧ True
theorem opn54 : Opn.Opn Try.prog 54 k54 WF54 := Opn.opn_struct (fun x : S54 => (x.f0, x.f1, x.f2, x.f3)) (fun a => ⟨a.1, a.2.1, a.2.2.1, a.2.2.2⟩) (fun _ => rfl) Try.underlying54 (by kernel_rfl) (.more rfl (by kernel_rfl) (Opn.opn_int Try.underlying5) (.more rfl (by kernel_rfl) (Opn.opn_int Try.underlying37) (.more rfl (by kernel_rfl) (Opn.opn_int Try.underlying24) (.one rfl (by kernel_rfl) (Opn.opn_bool Try.underlying4)))))
instance : Inhabited S54 := ⟨⟨default, default, default, default⟩⟩
set_option maxRecDepth 100000 in
theorem lifted (os : Os) (started : os.Started) (H : Type) (enc : TypeId × Value → H) :
    ReturnsInHanded {} Try.checked os 9 .any (Rows.creditGetsSpec.pre6 enc Try.prog Try.f9 Rows.creditGetsRow.domain false) (Rows.creditGetsSpec.post enc Try.prog Try.f9 false true false false) := by
  refine returnsInHanded_of_change_sized (C := Try.checked) own started (by kernel_rfl) Try.func9
    (ChangeSpec.witness6 (enc := enc) (C := Try.checked) false ⟨#[], #[.slice none 0 0], []⟩ 8 (by kernel_rfl) (by kernel_rfl) (by kernel_rfl) (by kernel_rfl)) ?_
  intro W base args ds gs before hval0 hW hcnd hsz0 _
  have hsz : (DataW.weightsEach Try.prog (Try.f9.params.toList ++ Rows.creditGetsSpec.plain.varTypes Try.prog) (ds ++ gs)).all (· ≤ reachBytes) = true := hsz0
  have hval : ∀ (j : Nat) t v, Try.f9.params[j]? = some t → args[j]? = some v → Value.okWide Try.prog W .any base t v := hval0
  have hW' := hW
  obtain ⟨p, q, hA0, hV, rfl, hfz, hnd⟩ := hW
  have hA : DataW.TrodAll enc Try.prog W 0 (fun _ => true) true Try.f9.params.toList args.toList ds p := hA0
  rw [Try.params9] at hA hval hsz
  obtain ⟨v0, vs0, d0, ds0, p0, q0, hargs, rfl, rfl, h0, r0⟩ := trodAll_cons hA
  obtain ⟨rfl, rfl, rfl⟩ := trodAll_nil r0
  obtain rfl : args = #[v0] := by cases args; simp_all
  obtain ⟨rfl, rfl⟩ := trodVars_none hV
  have k0 := h0
  have lt0 : ∀ x ∈ p0, x.block < W.heap.size := by obtain ⟨m, hm⟩ := k0; exact DataW.trod_lt m _ _ _ hm
  obtain ⟨A0, len0, cap0, rfl⟩ := okWide_slice Try.underlying48 (hval 0 48 v0 rfl rfl)
  obtain ⟨x0, e0, c0, C0, w0⟩ := Opn.opn_slice_arg (Opn.opn_slice (B := 24) Try.underlying48 (by kernel_rfl) (by kernel_rfl) opn54) hsz (j := 0) rfl rfl h0
  clear hA0 hval0 hsz0 hsz
  refine (PureCreditGets.walk (W := W) A0 len0 cap0 x0 e0 c0 C0 w0).mono fun e W' ⟨he, bel⟩ => ?_
  subst he
  exact ⟨_, rfl, _, _, _, [], _, [], hW', trodAll_mk1 (shut_bool Try.underlying4 _), (trodAll_cons_mk (Below.trod laidOut (by kernel_rfl) (of_decide_eq_true (by kernel_rfl)) k0 bel lt0) trodAll_mk0), rfl, bel.frame _, fun h => by cases h⟩
theorem over : Rows.creditGetsRow.holds Try.pinned (OpenSpec.ofChange Rows.creditGetsSpec) :=
  OpenClaim.holds_of_wide 9 Try.f9 rfl rfl rfl rfl rfl rfl rfl ⟨rfl, rfl, rfl, rfl, rfl⟩ rfl rfl rfl rfl rfl (by kernel_rfl) Try.func9 (by kernel_rfl)
    (of_decide_eq_true (by kernel_rfl)) (by unfold Func.isWrapper; first | (rw [if_pos (by decide +kernel)]; kernel_rfl) | (rw [if_neg (by decide +kernel)]; exact ⟨rfl, rfl⟩))
    (fun os started H enc _ => lifted os started H enc)
theorem proved : Rows.CreditGetsSaid := over
#print axioms proved
end Go.Proofs.Ytloiihbhpmmaiaa.RowCreditGets
namespace Go.Proofs.Ytloiihbhpmmaiaa
/-- The row, under a short name, for the claim. -/
theorem creditGets_holds : Rows.CreditGetsSaid := RowCreditGets.proved
end Go.Proofs.Ytloiihbhpmmaiaa
