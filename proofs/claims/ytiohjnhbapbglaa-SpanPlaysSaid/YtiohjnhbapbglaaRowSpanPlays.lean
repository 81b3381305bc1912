/- The statement 'SpanPlaysSaid': for every input the law returns true, and each argument reads as it read. The walk is PlaysWalk.rowWalk. No condition. -/
import Derived.Test.YtiohjnhbapbglaaRows
import Derived.Test.YtiohjnhbapbglaaPlaysWalk
import Derived.Test.YtiohjnhbapbglaaOpn
import Derived.WalkKit
import Derived.ProofKit
import Derived.OpenShut
import Derived.ShutString
import Derived.ChangeOld
import Derived.Below
import Derived.SizedLaws
namespace Go.Proofs.Ytiohjnhbapbglaa.RowSpanPlays
open Go.ChangeShapes Go.WideShapes Go.ChangeAt Go.RowKit Go.Proofs.YtiohjnhbapbglaaW.PrintWords Go.Proofs.Ytiohjnhbapbglaa.PSpanPlays Go.Proofs.Ytiohjnhbapbglaa.SpAct
open Go.ChangeMaps (open_string shut_string)
set_option linter.unusedVariables false
theorem own : ownKnob Try.prog.godebug = none := by kernel_rfl
theorem laidOut : laidOutB Try.prog = true := by kernel_rfl
def WF28 (x : S28) : Prop := (Lit.int .u64 x.f0).wf = true ∧ (Lit.int .u64 x.f1).wf = true
theorem opn28 : Opn.Opn Try.prog 28 k28 WF28 := Opn.opn_struct (fun x : S28 => (x.f0, x.f1)) (fun a => ⟨a.1, a.2⟩) (fun _ => rfl) Try.underlying28 (by kernel_rfl) (.more rfl (by kernel_rfl) (Opn.opn_int Try.underlying23) (.one rfl (by kernel_rfl) (Opn.opn_int Try.underlying23)))
instance : Inhabited S28 := ⟨⟨default, default⟩⟩
def WF30 (x : S30) : Prop := (Lit.int .u8 x.f0).wf = true ∧ (Lit.int .u8 x.f1).wf = true ∧ (Lit.int .u8 x.f2).wf = true ∧ WF28 x.f3 ∧ True
theorem opn30 : Opn.Opn Try.prog 30 k30 WF30 := Opn.opn_struct (fun x : S30 => (x.f0, x.f1, x.f2, x.f3, x.f4)) (fun a => ⟨a.1, a.2.1, a.2.2.1, a.2.2.2.1, a.2.2.2.2⟩) (fun _ => rfl) Try.underlying30 (by kernel_rfl) (.more rfl (by kernel_rfl) (Opn.opn_int Try.underlying5) (.more rfl (by kernel_rfl) (Opn.opn_int Try.underlying5) (.more rfl (by kernel_rfl) (Opn.opn_int Try.underlying5) (.more rfl (by kernel_rfl) opn28 (.one rfl (by kernel_rfl) (Opn.opn_bool Try.underlying4))))))
instance : Inhabited S30 := ⟨⟨default, default, default, default, default⟩⟩
set_option maxRecDepth 100000 in
theorem lifted (os : Os) (started : os.Started) (H : Type) (enc : TypeId × Value → H) :
    ReturnsInHanded {} Try.checked os 5 .any (Rows.spanPlaysSpec.pre6 enc Try.prog Try.f5 Rows.spanPlaysRow.domain false) (Rows.spanPlaysSpec.post enc Try.prog Try.f5 false true false false) := by
  refine returnsInHanded_of_change_sized (C := Try.checked) own started (by kernel_rfl) Try.func5
    (ChangeSpec.witness6 (enc := enc) (C := Try.checked) false ⟨#[], #[.int .i64 0, .slice none 0 0, .slice none 0 0, .agg #[.int .u64 0, .int .u64 0]], []⟩ 8 (by kernel_rfl) (by kernel_rfl) (by kernel_rfl) (by kernel_rfl)) ?_
  intro W base args ds gs before hval0 hW hcnd hsz0 _
  have hsz : (DataW.weightsEach Try.prog (Try.f5.params.toList ++ Rows.spanPlaysSpec.plain.varTypes Try.prog) (ds ++ gs)).all (· ≤ reachBytes) = true := hsz0
  have hval : ∀ (j : Nat) t v, Try.f5.params[j]? = some t → args[j]? = some v → Value.okWide Try.prog W .any base t v := hval0
  have hW' := hW
  obtain ⟨p, q, hA0, hV, rfl, hfz, hnd⟩ := hW
  have hA : DataW.TrodAll enc Try.prog W 0 (fun _ => true) true Try.f5.params.toList args.toList ds p := hA0
  rw [Try.params5] at hA hval hsz
  obtain ⟨v0, vs0, d0, ds0, p0, q0, hargs, rfl, rfl, h0, r0⟩ := trodAll_cons hA
  obtain ⟨v1, vs1, d1, ds1, p1, q1, rfl, rfl, rfl, h1, r1⟩ := trodAll_cons r0
  obtain ⟨v2, vs2, d2, ds2, p2, q2, rfl, rfl, rfl, h2, r2⟩ := trodAll_cons r1
  obtain ⟨v3, vs3, d3, ds3, p3, q3, rfl, rfl, rfl, h3, r3⟩ := trodAll_cons r2
  obtain ⟨rfl, rfl, rfl⟩ := trodAll_nil r3
  obtain rfl : args = #[v0, v1, v2, v3] := by cases args; simp_all
  obtain ⟨rfl, rfl⟩ := trodVars_none hV
  obtain ⟨a0, rfl, rfl, rfl, w0⟩ := open_int Try.underlying3 (hval 0 3 v0 rfl rfl) h0
  have k1 := h1
  have lt1 : ∀ x ∈ p1, x.block < W.heap.size := by obtain ⟨m, hm⟩ := k1; exact DataW.trod_lt m _ _ _ hm
  obtain ⟨A1, len1, cap1, rfl⟩ := okWide_slice Try.underlying22 (hval 1 22 v1 rfl rfl)
  obtain ⟨x1, e1, c1, C1, w1⟩ := Opn.opn_slice_arg (Opn.opn_slice (B := 32) Try.underlying22 (by kernel_rfl) (by kernel_rfl) opn30) hsz (j := 1) rfl rfl h1
  have k2 := h2
  have lt2 : ∀ x ∈ p2, x.block < W.heap.size := by obtain ⟨m, hm⟩ := k2; exact DataW.trod_lt m _ _ _ hm
  obtain ⟨A2, len2, cap2, rfl⟩ := okWide_slice Try.underlying42 (hval 2 42 v2 rfl rfl)
  obtain ⟨x2, e2, c2, C2, w2⟩ := Opn.opn_slice_arg (Opn.opn_slice (B := 8) Try.underlying42 (by kernel_rfl) (by kernel_rfl) (Opn.opn_int Try.underlying23)) hsz (j := 2) rfl rfl h2
  have k3 := h3
  have lt3 : ∀ x ∈ p3, x.block < W.heap.size := by obtain ⟨m, hm⟩ := k3; exact DataW.trod_lt m _ _ _ hm
  obtain ⟨cs3, rfl, _⟩ := okWide_struct Try.underlying28 (hval 3 28 v3 rfl rfl)
  obtain ⟨x3, K3, w3⟩ := Opn.opn_arg opn28 hsz (j := 3) rfl rfl h3
  clear hA0 hval0 hsz0 hsz
  refine (PlaysWalk.rowWalk (W := W) a0 w0 A1 len1 cap1 x1 e1 c1 C1 w1 A2 len2 cap2 x2 e2 c2 C2 w2 cs3 x3 K3 w3).mono fun e W' ⟨he, bel⟩ => ?_
  subst he
  exact ⟨_, rfl, _, _, _, [], _, [], hW', trodAll_mk1 (shut_bool Try.underlying4 _), (trodAll_cons_mk (shut_int Try.underlying3 w0) (trodAll_cons_mk (Below.trod laidOut (by kernel_rfl) (of_decide_eq_true (by kernel_rfl)) k1 bel lt1) (trodAll_cons_mk (Below.trod laidOut (by kernel_rfl) (of_decide_eq_true (by kernel_rfl)) k2 bel lt2) (trodAll_cons_mk (Below.trod laidOut (by kernel_rfl) (of_decide_eq_true (by kernel_rfl)) k3 bel lt3) trodAll_mk0)))), rfl, bel.frame _, fun h => by cases h⟩
theorem over : Rows.spanPlaysRow.holds Try.pinned (OpenSpec.ofChange Rows.spanPlaysSpec) :=
  OpenClaim.holds_of_wide 5 Try.f5 rfl rfl rfl rfl rfl rfl rfl ⟨rfl, rfl, rfl, rfl, rfl⟩ rfl rfl rfl rfl rfl (by kernel_rfl) Try.func5 (by kernel_rfl)
    (of_decide_eq_true (by kernel_rfl)) (by unfold Func.isWrapper; first | (rw [if_pos (by decide +kernel)]; kernel_rfl) | (rw [if_neg (by decide +kernel)]; exact ⟨rfl, rfl⟩))
    (fun os started H enc _ => lifted os started H enc)
theorem proved : Rows.SpanPlaysSaid := over
#print axioms proved
end Go.Proofs.Ytiohjnhbapbglaa.RowSpanPlays
namespace Go.Proofs.Ytiohjnhbapbglaa
/-- The row, under a short name, for the claim. -/
theorem spanPlays_holds : Rows.SpanPlaysSaid := RowSpanPlays.proved
end Go.Proofs.Ytiohjnhbapbglaa
