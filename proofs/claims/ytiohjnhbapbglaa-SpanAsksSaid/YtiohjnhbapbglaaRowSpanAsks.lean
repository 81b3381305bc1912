/- The statement 'SpanAsksSaid': for every input the law returns true, and each argument reads as it read. The walk is AsksWalk.rowWalk. No condition. -/
import Derived.Test.YtiohjnhbapbglaaRows
import Derived.Test.YtiohjnhbapbglaaAsksWalk
import Derived.Test.YtiohjnhbapbglaaOpn
import Derived.WalkKit
import Derived.ProofKit
import Derived.OpenShut
import Derived.ShutString
import Derived.ChangeOld
import Derived.Below
import Derived.SizedLaws
namespace Go.Proofs.Ytiohjnhbapbglaa.RowSpanAsks
open Go.ChangeShapes Go.WideShapes Go.ChangeAt Go.RowKit Go.Proofs.YtiohjnhbapbglaaW.PrintWords Go.Proofs.Ytiohjnhbapbglaa.PSpanPlays Go.Proofs.Ytiohjnhbapbglaa.SpAct
open Go.ChangeMaps (open_string shut_string)
set_option linter.unusedVariables false
theorem own : ownKnob Try.prog.godebug = none := by kernel_rfl
theorem laidOut : laidOutB Try.prog = true := by kernel_rfl
def WF28 (x : S28) : Prop := (Lit.int .u64 x.f0).wf = true ∧ (Lit.int .u64 x.f1).wf = true
theorem opn28 : Opn.Opn Try.prog 28 k28 WF28 := Opn.opn_struct (fun x : S28 => (x.f0, x.f1)) (fun a => ⟨a.1, a.2⟩) (fun _ => rfl) Try.underlying28 (by kernel_rfl) (.more rfl (by kernel_rfl) (Opn.opn_int Try.underlying23) (.one rfl (by kernel_rfl) (Opn.opn_int Try.underlying23)))
instance : Inhabited S28 := ⟨⟨default, default⟩⟩
def WF30 (x : S30) : Prop := (Lit.int .u8 x.f0).wf = true ∧ (Lit.int .u8 x.f1).wf = true ∧ (Lit.int .u8 x.f2).wf = true ∧ WF28 x.f3 ∧ True
theorem opn30 : Opn.Opn Try.prog 30 k30 WF30 := Opn.opn_struct (fun x : S30 => (x.f0, x.f1, x.f2, x.f3, x.f4)) (fun a => ⟨a.1, a.2.1, a.2.2.1, a.2.2.2.1, a.2.2.2.2⟩) (fun _ => rfl) Try.underlying30 (by kernel_rfl) (.more rfl (by kernel_rfl) (Opn.opn_int Try.underlying5) (.more rfl (by kernel_rfl) (Opn.opn_int Try.underlying5) (.more rfl (by kernel_rfl) (Opn.opn_int Try.underlying5) (.more rfl (by kernel_rfl) opn28 (.one rfl (by kernel_rfl) (Opn.opn_bool Try.underlying4))))))
instance : Inhabited S30 := ⟨⟨default, default, default, default, default⟩⟩
set_option maxRecDepth 100000 in
theorem lifted (os : Os) (started : os.Started) (H : Type) (enc : TypeId × Value → H) :
    ReturnsInHanded {} Try.checked os 4 .any (Rows.spanAsksSpec.pre6 enc Try.prog Try.f4 Rows.spanAsksRow.domain false) (Rows.spanAsksSpec.post enc Try.prog Try.f4 false true false false) := by
  refine returnsInHanded_of_change_sized (C := Try.checked) own started (by kernel_rfl) Try.func4
    (ChangeSpec.witness6 (enc := enc) (C := Try.checked) false ⟨#[], #[.slice none 0 0, .agg #[.int .u64 0, .int .u64 0]], []⟩ 8 (by kernel_rfl) (by kernel_rfl) (by kernel_rfl) (by kernel_rfl)) ?_
  intro W base args ds gs before hval0 hW hcnd hsz0 _
  have hsz : (DataW.weightsEach Try.prog (Try.f4.params.toList ++ Rows.spanAsksSpec.plain.varTypes Try.prog) (ds ++ gs)).all (· ≤ reachBytes) = true := hsz0
  have hval : ∀ (j : Nat) t v, Try.f4.params[j]? = some t → args[j]? = some v → Value.okWide Try.prog W .any base t v := hval0
  have hW' := hW
  obtain ⟨p, q, hA0, hV, rfl, hfz, hnd⟩ := hW
  have hA : DataW.TrodAll enc Try.prog W 0 (fun _ => true) true Try.f4.params.toList args.toList ds p := hA0
  rw [Try.params4] at hA hval hsz
  obtain ⟨v0, vs0, d0, ds0, p0, q0, hargs, rfl, rfl, h0, r0⟩ := trodAll_cons hA
  obtain ⟨v1, vs1, d1, ds1, p1, q1, rfl, rfl, rfl, h1, r1⟩ := trodAll_cons r0
  obtain ⟨rfl, rfl, rfl⟩ := trodAll_nil r1
  obtain rfl : args = #[v0, v1] := by cases args; simp_all
  obtain ⟨rfl, rfl⟩ := trodVars_none hV
  have k0 := h0
  have lt0 : ∀ x ∈ p0, x.block < W.heap.size := by obtain ⟨m, hm⟩ := k0; exact DataW.trod_lt m _ _ _ hm
  obtain ⟨A0, len0, cap0, rfl⟩ := okWide_slice Try.underlying22 (hval 0 22 v0 rfl rfl)
  obtain ⟨x0, e0, c0, C0, w0⟩ := Opn.opn_slice_arg (Opn.opn_slice (B := 32) Try.underlying22 (by kernel_rfl) (by kernel_rfl) opn30) hsz (j := 0) rfl rfl h0
  have k1 := h1
  have lt1 : ∀ x ∈ p1, x.block < W.heap.size := by obtain ⟨m, hm⟩ := k1; exact DataW.trod_lt m _ _ _ hm
  obtain ⟨cs1, rfl, _⟩ := okWide_struct Try.underlying28 (hval 1 28 v1 rfl rfl)
  obtain ⟨x1, K1, w1⟩ := Opn.opn_arg opn28 hsz (j := 1) rfl rfl h1
  clear hA0 hval0 hsz0 hsz
  refine (AsksWalk.rowWalk (W := W) A0 len0 cap0 x0 e0 c0 C0 w0 cs1 x1 K1 w1).mono fun e W' ⟨he, bel⟩ => ?_
  subst he
  exact ⟨_, rfl, _, _, _, [], _, [], hW', trodAll_mk1 (shut_bool Try.underlying4 _), (trodAll_cons_mk (Below.trod laidOut (by kernel_rfl) (of_decide_eq_true (by kernel_rfl)) k0 bel lt0) (trodAll_cons_mk (Below.trod laidOut (by kernel_rfl) (of_decide_eq_true (by kernel_rfl)) k1 bel lt1) trodAll_mk0)), rfl, bel.frame _, fun h => by cases h⟩
theorem over : Rows.spanAsksRow.holds Try.pinned (OpenSpec.ofChange Rows.spanAsksSpec) :=
  OpenClaim.holds_of_wide 4 Try.f4 rfl rfl rfl rfl rfl rfl rfl ⟨rfl, rfl, rfl, rfl, rfl⟩ rfl rfl rfl rfl rfl (by kernel_rfl) Try.func4 (by kernel_rfl)
    (of_decide_eq_true (by kernel_rfl)) (by unfold Func.isWrapper; first | (rw [if_pos (by decide +kernel)]; kernel_rfl) | (rw [if_neg (by decide +kernel)]; exact ⟨rfl, rfl⟩))
    (fun os started H enc _ => lifted os started H enc)
theorem proved : Rows.SpanAsksSaid := over
#print axioms proved
end Go.Proofs.Ytiohjnhbapbglaa.RowSpanAsks
namespace Go.Proofs.Ytiohjnhbapbglaa
/-- The row, under a short name, for the claim. -/
theorem spanAsks_holds : Rows.SpanAsksSaid := RowSpanAsks.proved
end Go.Proofs.Ytiohjnhbapbglaa
