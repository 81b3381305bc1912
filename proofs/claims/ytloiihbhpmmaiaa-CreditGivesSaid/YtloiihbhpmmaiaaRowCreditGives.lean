/- The statement 'CreditGivesSaid': for every input the law returns true, and each argument reads as it read. The walk is PureCreditGives.walk. No condition. -/
import Derived.Test.YtloiihbhpmmaiaaRows
import Derived.Test.YtloiihbhpmmaiaaWalkCreditGives
import Derived.Test.YtloiihbhpmmaiaaOpn
import Derived.WalkKit
import Derived.ProofKit
import Derived.OpenShut
import Derived.ShutString
import Derived.ChangeOld
import Derived.Below
import Derived.SizedLaws
namespace Go.Proofs.Ytloiihbhpmmaiaa.RowCreditGives
open Go.ChangeShapes Go.WideShapes Go.ChangeAt Go.RowKit Go.Proofs.YtloiihbhpmmaiaaW.PrintWords Go.Proofs.Ytloiihbhpmmaiaa.PCreditGives
open Go.ChangeMaps (open_string shut_string)
set_option linter.unusedVariables false
theorem own : ownKnob Try.prog.godebug = none := by kernel_rfl
theorem laidOut : laidOutB Try.prog = true := by kernel_rfl
def WF54 (x : S54) : Prop := (Lit.int .u8 x.f0).wf = true ∧ (Lit.int .u16 x.f1).wf = true ∧ (Lit.int .u64 x.f2).wf = true ∧ True
theorem opn54 : Opn.Opn Try.prog 54 k54 WF54 := Opn.opn_struct (fun x : S54 => (x.f0, x.f1, x.f2, x.f3)) (fun a => ⟨a.1, a.2.1, a.2.2.1, a.2.2.2⟩) (fun _ => rfl) Try.underlying54 (by kernel_rfl) (.more rfl (by kernel_rfl) (Opn.opn_int Try.underlying5) (.more rfl (by kernel_rfl) (Opn.opn_int Try.underlying37) (.more rfl (by kernel_rfl) (Opn.opn_int Try.underlying24) (.one rfl (by kernel_rfl) (Opn.opn_bool Try.underlying4)))))
instance : Inhabited S54 := ⟨⟨default, default, default, default⟩⟩
set_option maxRecDepth 100000 in
theorem lifted (os : Os) (started : os.Started) (H : Type) (enc : TypeId × Value → H) :
    ReturnsInHanded {} Try.checked os 7 .any (Rows.creditGivesSpec.pre6 enc Try.prog Try.f7 Rows.creditGivesRow.domain false) (Rows.creditGivesSpec.post enc Try.prog Try.f7 false true false false) := by
  refine returnsInHanded_of_change_sized (C := Try.checked) own started (by kernel_rfl) Try.func7
    (ChangeSpec.witness6 (enc := enc) (C := Try.checked) false ⟨#[], #[.int .u64 0, .slice none 0 0], []⟩ 8 (by kernel_rfl) (by kernel_rfl) (by kernel_rfl) (by kernel_rfl)) ?_
  intro W base args ds gs before hval0 hW hcnd hsz0 _
  have hsz : (DataW.weightsEach Try.prog (Try.f7.params.toList ++ Rows.creditGivesSpec.plain.varTypes Try.prog) (ds ++ gs)).all (· ≤ reachBytes) = true := hsz0
  have hval : ∀ (j : Nat) t v, Try.f7.params[j]? = some t → args[j]? = some v → Value.okWide Try.prog W .any base t v := hval0
  have hW' := hW
  obtain ⟨p, q, hA0, hV, rfl, hfz, hnd⟩ := hW
  have hA : DataW.TrodAll enc Try.prog W 0 (fun _ => true) true Try.f7.params.toList args.toList ds p := hA0
  rw [Try.params7] at hA hval hsz
  obtain ⟨v0, vs0, d0, ds0, p0, q0, hargs, rfl, rfl, h0, r0⟩ := trodAll_cons hA
  obtain ⟨v1, vs1, d1, ds1, p1, q1, rfl, rfl, rfl, h1, r1⟩ := trodAll_cons r0
  obtain ⟨rfl, rfl, rfl⟩ := trodAll_nil r1
  obtain rfl : args = #[v0, v1] := by cases args; simp_all
  obtain ⟨rfl, rfl⟩ := trodVars_none hV
  obtain ⟨a0, rfl, rfl, rfl, w0⟩ := open_int Try.underlying24 (hval 0 24 v0 rfl rfl) h0
  have k1 := h1
  have lt1 : ∀ x ∈ p1, x.block < W.heap.size := by obtain ⟨m, hm⟩ := k1; exact DataW.trod_lt m _ _ _ hm
  obtain ⟨A1, len1, cap1, rfl⟩ := okWide_slice Try.underlying48 (hval 1 48 v1 rfl rfl)
  obtain ⟨x1, e1, c1, C1, w1⟩ := Opn.opn_slice_arg (Opn.opn_slice (B := 24) Try.underlying48 (by kernel_rfl) (by kernel_rfl) opn54) hsz (j := 1) rfl rfl h1
  clear hA0 hval0 hsz0 hsz
  refine (PureCreditGives.walk (W := W) a0 w0 A1 len1 cap1 x1 e1 c1 C1 w1).mono fun e W' ⟨he, bel⟩ => ?_
  subst he
  exact ⟨_, rfl, _, _, _, [], _, [], hW', trodAll_mk1 (shut_bool Try.underlying4 _), (trodAll_cons_mk (shut_int Try.underlying24 w0) (trodAll_cons_mk (Below.trod laidOut (by kernel_rfl) (of_decide_eq_true (by kernel_rfl)) k1 bel lt1) trodAll_mk0)), rfl, bel.frame _, fun h => by cases h⟩
theorem over : Rows.creditGivesRow.holds Try.pinned (OpenSpec.ofChange Rows.creditGivesSpec) :=
  OpenClaim.holds_of_wide 7 Try.f7 rfl rfl rfl rfl rfl rfl rfl ⟨rfl, rfl, rfl, rfl, rfl⟩ rfl rfl rfl rfl rfl (by kernel_rfl) Try.func7 (by kernel_rfl)
    (of_decide_eq_true (by kernel_rfl)) (by unfold Func.isWrapper; first | (rw [if_pos (by decide +kernel)]; kernel_rfl) | (rw [if_neg (by decide +kernel)]; exact ⟨rfl, rfl⟩))
    (fun os started H enc _ => lifted os started H enc)
theorem proved : Rows.CreditGivesSaid := over
#print axioms proved
end Go.Proofs.Ytloiihbhpmmaiaa.RowCreditGives
namespace Go.Proofs.Ytloiihbhpmmaiaa
/-- The row, under a short name, for the claim. -/
theorem creditGives_holds : Rows.CreditGivesSaid := RowCreditGives.proved
end Go.Proofs.Ytloiihbhpmmaiaa
