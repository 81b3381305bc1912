/- The statement 'EventSameSaid': for every input the law returns true, and each argument reads as it read. The walk is SameRow.rowWalk. No condition. -/
import Derived.Test.YtclmnpdabnogkaaRows
import Derived.Test.YtclmnpdabnogkaaSameRow
import Derived.Test.YtclmnpdabnogkaaOpn
import Derived.WalkKit
import Derived.ProofKit
import Derived.OpenShut
import Derived.ShutString
import Derived.ChangeOld
import Derived.Below
import Derived.SizedLaws
namespace Go.Proofs.Ytclmnpdabnogkaa.RowEventSame
open Go.ChangeShapes Go.WideShapes Go.ChangeAt Go.RowKit Go.Proofs.YtclmnpdabnogkaaW.PrintWords Go.Proofs.Ytclmnpdabnogkaa.PEventChecks
open Go.ChangeMaps (open_string shut_string)
set_option linter.unusedVariables false
theorem own : ownKnob Try.prog.godebug = none := by kernel_rfl
theorem laidOut : laidOutB Try.prog = true := by kernel_rfl
def WF40 (x : S40) : Prop := (Lit.int .u8 x.f0).wf = true ∧ (Lit.int .u64 x.f1).wf = true ∧ (x.f2.length * 8 ≤ reachBytes ∧ ∀ y ∈ x.f2, (Lit.int .u64 y).wf = true) ∧ (x.f3.length * 1 ≤ reachBytes ∧ ∀ y ∈ x.f3, (Lit.int .u8 y).wf = true)
theorem opn40 : Opn.Opn Try.prog 40 k40 WF40 := Opn.opn_struct (fun x : S40 => (x.f0, x.f1, x.f2, x.f3)) (fun a => ⟨a.1, a.2.1, a.2.2.1, a.2.2.2⟩) (fun _ => rfl) Try.underlying40 (by kernel_rfl) (.more rfl (by kernel_rfl) (Opn.opn_int Try.underlying30) (.more rfl (by kernel_rfl) (Opn.opn_int Try.underlying36) (.more rfl (by kernel_rfl) (Opn.opn_slice (B := 8) Try.underlying37 (by kernel_rfl) (by kernel_rfl) (Opn.opn_int Try.underlying36)) (.one rfl (by kernel_rfl) (Opn.opn_slice (B := 1) Try.underlying38 (by kernel_rfl) (by kernel_rfl) (Opn.opn_int Try.underlying5))))))
instance : Inhabited S40 := ⟨⟨default, default, default, default⟩⟩
set_option maxRecDepth 100000 in
theorem lifted (os : Os) (started : os.Started) (H : Type) (enc : TypeId × Value → H) :
    ReturnsInHanded {} Try.checked os 4 .any (Rows.eventSameSpec.pre6 enc Try.prog Try.f4 Rows.eventSameRow.domain false) (Rows.eventSameSpec.post enc Try.prog Try.f4 false true false false) := by
  refine returnsInHanded_of_change_sized (C := Try.checked) own started (by kernel_rfl) Try.func4
    (ChangeSpec.witness6 (enc := enc) (C := Try.checked) false ⟨#[], #[.agg #[.int .u8 0, .int .u64 0, .slice none 0 0, .slice none 0 0], .agg #[.int .u8 0, .int .u64 0, .slice none 0 0, .slice none 0 0], .int .u8 0, .int .i64 0], []⟩ 8 (by kernel_rfl) (by kernel_rfl) (by kernel_rfl) (by kernel_rfl)) ?_
  intro W base args ds gs before hval0 hW hcnd hsz0 _
  have hsz : (DataW.weightsEach Try.prog (Try.f4.params.toList ++ Rows.eventSameSpec.plain.varTypes Try.prog) (ds ++ gs)).all (· ≤ reachBytes) = true := hsz0
  have hval : ∀ (j : Nat) t v, Try.f4.params[j]? = some t → args[j]? = some v → Value.okWide Try.prog W .any base t v := hval0
  have hW' := hW
  obtain ⟨p, q, hA0, hV, rfl, hfz, hnd⟩ := hW
  have hA : DataW.TrodAll enc Try.prog W 0 (fun _ => true) true Try.f4.params.toList args.toList ds p := hA0
  rw [Try.params4] at hA hval hsz
  obtain ⟨v0, vs0, d0, ds0, p0, q0, hargs, rfl, rfl, h0, r0⟩ := trodAll_cons hA
  obtain ⟨v1, vs1, d1, ds1, p1, q1, rfl, rfl, rfl, h1, r1⟩ := trodAll_cons r0
  obtain ⟨v2, vs2, d2, ds2, p2, q2, rfl, rfl, rfl, h2, r2⟩ := trodAll_cons r1
  obtain ⟨v3, vs3, d3, ds3, p3, q3, rfl, rfl, rfl, h3, r3⟩ := trodAll_cons r2
  obtain ⟨rfl, rfl, rfl⟩ := trodAll_nil r3
  obtain rfl : args = #[v0, v1, v2, v3] := by cases args; simp_all
  obtain ⟨rfl, rfl⟩ := trodVars_none hV
  have k0 := h0
  have lt0 : ∀ x ∈ p0, x.block < W.heap.size := by obtain ⟨m, hm⟩ := k0; exact DataW.trod_lt m _ _ _ hm
  obtain ⟨cs0, rfl, _⟩ := okWide_struct Try.underlying40 (hval 0 40 v0 rfl rfl)
  obtain ⟨x0, K0, w0⟩ := Opn.opn_arg opn40 hsz (j := 0) rfl rfl h0
  have k1 := h1
  have lt1 : ∀ x ∈ p1, x.block < W.heap.size := by obtain ⟨m, hm⟩ := k1; exact DataW.trod_lt m _ _ _ hm
  obtain ⟨cs1, rfl, _⟩ := okWide_struct Try.underlying40 (hval 1 40 v1 rfl rfl)
  obtain ⟨x1, K1, w1⟩ := Opn.opn_arg opn40 hsz (j := 1) rfl rfl h1
  obtain ⟨a2, rfl, rfl, rfl, w2⟩ := open_int Try.underlying5 (hval 2 5 v2 rfl rfl) h2
  obtain ⟨a3, rfl, rfl, rfl, w3⟩ := open_int Try.underlying3 (hval 3 3 v3 rfl rfl) h3
  clear hA0 hval0 hsz0 hsz
  refine (SameRow.rowWalk (W := W) cs0 x0 K0 w0 cs1 x1 K1 w1 a2 w2 a3 w3).mono fun e W' ⟨he, bel⟩ => ?_
  subst he
  exact ⟨_, rfl, _, _, _, [], _, [], hW', trodAll_mk1 (shut_bool Try.underlying4 _), (trodAll_cons_mk (Below.trod laidOut (by kernel_rfl) (of_decide_eq_true (by kernel_rfl)) k0 bel lt0) (trodAll_cons_mk (Below.trod laidOut (by kernel_rfl) (of_decide_eq_true (by kernel_rfl)) k1 bel lt1) (trodAll_cons_mk (shut_int Try.underlying5 w2) (trodAll_cons_mk (shut_int Try.underlying3 w3) trodAll_mk0)))), rfl, bel.frame _, fun h => by cases h⟩
theorem over : Rows.eventSameRow.holds Try.pinned (OpenSpec.ofChange Rows.eventSameSpec) :=
  OpenClaim.holds_of_wide 4 Try.f4 rfl rfl rfl rfl rfl rfl rfl ⟨rfl, rfl, rfl, rfl, rfl⟩ rfl rfl rfl rfl rfl (by kernel_rfl) Try.func4 (by kernel_rfl)
    (of_decide_eq_true (by kernel_rfl)) (by unfold Func.isWrapper; first | (rw [if_pos (by decide +kernel)]; kernel_rfl) | (rw [if_neg (by decide +kernel)]; exact ⟨rfl, rfl⟩))
    (fun os started H enc _ => lifted os started H enc)
theorem proved : Rows.EventSameSaid := over
#print axioms proved
end Go.Proofs.Ytclmnpdabnogkaa.RowEventSame
namespace Go.Proofs.Ytclmnpdabnogkaa
/-- The row, under a short name, for the claim. -/
theorem eventSame_holds : Rows.EventSameSaid := RowEventSame.proved
end Go.Proofs.Ytclmnpdabnogkaa
