/- Clone, List of a ledger. Condition: the row is short. -/
import Derived.Test.YtclmnpdabnogkaaLossMore
import Derived.Lib.SliceRun
namespace Go.Proofs.Ytclmnpdabnogkaa.LossList
open Go.RowKit Go.Proofs.Ytclmnpdabnogkaa.PLossTimes Go.Proofs.Ytclmnpdabnogkaa.EvClone Go.Proofs.Ytclmnpdabnogkaa.LossIn Go.Proofs.Ytclmnpdabnogkaa.LossLed Go.Proofs.Ytclmnpdabnogkaa.LossCame Go.Proofs.Ytclmnpdabnogkaa.LossFind Go.Proofs.YtclmnpdabnogkaaW.PrintWords Go.Proofs.YtclmnpdabnogkaaW.PrintLast Go.Proofs.YtclmnpdabnogkaaW.PrintMore

theorem r_zero {α : Type} (d : Kd α) (W : World) (e base : Nat) (hb : base ≤ W.heap.size) : d.R e (W.alloc (.cells #[] e)) base (fun _ => True) (.slice (some ⟨W.heap.size, 0, none⟩) 0 0) [] := by
  refine ⟨fun _ _ => trivial, [], ?_, Reps.none _ _⟩
  have h2 := World.ownsRow_lit (base := base) (e := e) (size := d.sz) W #[] 0 hb (by decide) (by simp)
  simpa using h2
set_option maxRecDepth 100000 in
set_option maxHeartbeats 2000000 in
theorem clone_calls (A : Option Addr) (c : Nat) (ps : List S56) (w : World) (h : k56.C w A ps.length ps) (hl : ps.length ≤ 200) :
    Calls Try.prog 33 #[.slice A ps.length c] w fun e w' => ∃ B d, e = .returned (.slice B ps.length d) ∧ ps.length ≤ d ∧ k56.C w' B ps.length ps ∧ Below w.heap.size w w' := by
  have H := Lib.hid h
  have he := fun w n => Lib.run_eql_slice_nil (P := Try.prog) w 61 56 A n c 0 0 Try.underlying61
  go_enter Try.func33, Try.ntmps33
  cases A with
  | none =>
    have h0 : ps = [] := by
      rcases Nat.eq_zero_or_pos ps.length with h0 | h0
      · exact List.eq_nil_of_length_eq_zero h0
      · obtain ⟨ad, e, _⟩ := at_T56 H.out 0 (by omega) (by omega)
        cases e
    subst h0
    go_wp2_with fail
    go_ret
    exact ⟨none, 0, rfl, Nat.le_refl _, Kd.C_nil _ _, Below.refl _ _⟩
  | some ad =>
    have hz := r_zero k56 w 56 w.heap.size (Nat.le_refl _)
    have hb := below_alloc (Below.refl w.heap.size w) (.cells #[] 56)
    have HZ := Lib.hid hz
    have HB := Lib.hid hb
    clear hz hb h
    go_wp2_with (first | ((with_reducible refine gate_dst (N := 7) rfl ?_); go_must (refine Kd.R_append_rows k56 (w0 := w) w.heap.size rfl (.tmp 5) (.tmp 6) 61 56 (.agg #[.int .u64 0, .int .u64 0, .int .u64 0, .bool false, .bool false]) 32 rfl Try.underlying61 info56 rfl (by decide) (by decide) (.slice (some ⟨w.heap.size, 0, none⟩) 0 0) [] ps (some ad) ps.length c (fun _ => True) (fun _ => False) rfl (by first | (go_simp; done) | (go_simp; rfl)) HZ.out (Kd.C_below H.out HB.out) (fun x cs h => by obtain rfl := k56_open h; exact k56_mkM _ _ _ x) (fun _ hk => hk.elim) (fun _ _ => trivial) HB.out HB.out.size (by simp only [List.length_nil, Nat.zero_add]; omega) ?_; intro v1 wn hQ hbn hgn _; rw [List.nil_append] at hQ; obtain ⟨B, b, rfl, hb1, hb2⟩ := Kd.R_reads hQ; have HB2 := Lib.hid hbn; have HC := Lib.hid hb2; clear hQ hbn hgn hb2)))
    go_ret
    exact ⟨B, b, rfl, hb1, HC.out, HB2.out⟩
theorem list_calls {w : World} {g : Nat} {A : Option Addr} {c : Nat} {ps : List S56} {ak la : Int} {wt : Bool} {ls : Int} {sm : Bool} (h : w.heap[g]? = some (LD A ps.length c ak la wt ls sm)) (hC : k56.C w A ps.length ps) (hl : ps.length ≤ 200) :
    Calls Try.prog 29 #[.pointer (some ⟨g, 0, none⟩)] w fun e w' => ∃ B d, e = .returned (.slice B ps.length d) ∧ ps.length ≤ d ∧ k56.C w' B ps.length ps ∧ Below w.heap.size w w' := by
  obtain ⟨l0, l1, l2, l3, l4, l5⟩ := ld_cells h
  have H := Lib.hid hC
  clear hC h
  go_enter Try.func29, Try.ntmps29
  go_wp2_with fail
  refine (clone_calls A c ps w H.out hl).mono ?_
  rintro e w1 ⟨B, d, rfl, h1, h2, h3⟩
  have H2 := Lib.hid h2
  have H3 := Lib.hid h3
  clear h2 h3
  go_wp2_with fail
  go_ret
  exact ⟨B, d, rfl, h1, H2.out, H3.out⟩
end Go.Proofs.Ytclmnpdabnogkaa.LossList
