/- What Find answers, told of the times: behind it nothing is lost till the next time; then one is. No condition but the signs of the numbers. -/
import Derived.Test.YtclmnpdabnogkaaLossFind
namespace Go.Proofs.Ytclmnpdabnogkaa.TimesPure
open Go.RowKit Go.Proofs.Ytclmnpdabnogkaa.PLossTimes Go.Proofs.Ytclmnpdabnogkaa.LossCame Go.Proofs.Ytclmnpdabnogkaa.LossFind Go.Proofs.YtclmnpdabnogkaaW.PrintWords Go.Proofs.YtclmnpdabnogkaaW.PrintLast Go.Proofs.YtclmnpdabnogkaaW.PrintMore

/-- Does it wait for its time? -/
def Wt (ak now D : Int) (p : S56) : Prop := ab ak p = false ∧ lo ak now D p = false
theorem fold_inv (ak now D : Int) : ∀ (L : List S56) (s : Int × Bool), ((L.foldl (nxt ak now D) s).2 = true ↔ s.2 = true ∨ ∃ p ∈ L, Wt ak now D p) ∧
    ((L.foldl (nxt ak now D) s).2 = true → ((s.2 = true ∧ (L.foldl (nxt ak now D) s).1 = s.1) ∨ ∃ p ∈ L, Wt ak now D p ∧ LossFind.due D p = (L.foldl (nxt ak now D) s).1) ∧ (s.2 = true → (L.foldl (nxt ak now D) s).1 ≤ s.1) ∧ ∀ p ∈ L, Wt ak now D p → (L.foldl (nxt ak now D) s).1 ≤ LossFind.due D p)
  | [], s => by simp
  | q :: L, s => by
    have ih := fold_inv ak now D L (nxt ak now D s q)
    rw [List.foldl_cons]
    generalize (L.foldl (nxt ak now D) (nxt ak now D s q)) = r at *
    obtain ⟨i1, i2⟩ := ih
    unfold nxt at i1 i2
    by_cases hq : ab ak q = true ∨ lo ak now D q = true
    · have hq' : (ab ak q || lo ak now D q) = true := by simpa using hq
      have hnW : ¬ Wt ak now D q := by rintro ⟨h1, h2⟩; rcases hq with h | h <;> simp_all
      rw [if_pos hq'] at i1 i2
      refine ⟨by rw [i1]; simp [hnW], fun hr => ?_⟩
      obtain ⟨j1, j2, j3⟩ := i2 hr
      refine ⟨?_, j2, ?_⟩
      · rcases j1 with h | ⟨p, hp, h⟩
        · exact .inl h
        · exact .inr ⟨p, List.mem_cons_of_mem _ hp, h⟩
      · intro p hp hw
        rcases List.mem_cons.1 hp with rfl | hp
        · exact absurd hw hnW
        · exact j3 p hp hw
    · have hq' : (ab ak q || lo ak now D q) = false := by
        cases h1 : ab ak q <;> cases h2 : lo ak now D q <;> simp_all
      have hW : Wt ak now D q := by
        cases h1 : ab ak q <;> cases h2 : lo ak now D q <;> simp_all [Wt]
      rw [if_neg (by rw [hq']; simp)] at i1 i2
      by_cases hs : (!s.2 || decide (LossFind.due D q < s.1)) = true
      · rw [if_pos hs] at i1 i2
        refine ⟨by rw [i1]; simp; exact .inr (.inl hW), fun hr => ?_⟩
        obtain ⟨j1, j2, j3⟩ := i2 hr
        have j2 := j2 rfl
        refine ⟨?_, ?_, ?_⟩
        · rcases j1 with ⟨_, h⟩ | ⟨p, hp, h⟩
          · exact .inr ⟨q, List.mem_cons_self, hW, h.symm⟩
          · exact .inr ⟨p, List.mem_cons_of_mem _ hp, h⟩
        · intro hs2
          rw [hs2] at hs
          simp at hs
          have : r.1 ≤ LossFind.due D q := j2
          omega
        · intro p hp hw
          rcases List.mem_cons.1 hp with rfl | hp
          · exact j2
          · exact j3 p hp hw
      · rw [if_neg hs] at i1 i2
        have hs2 : s.2 = true ∧ ¬ LossFind.due D q < s.1 := by
          cases h : s.2 <;> simp_all
        refine ⟨by rw [i1]; simp [hs2.1], fun hr => ?_⟩
        obtain ⟨j1, j2, j3⟩ := i2 hr
        refine ⟨?_, j2, ?_⟩
        · rcases j1 with h | ⟨p, hp, h⟩
          · exact .inl h
          · exact .inr ⟨p, List.mem_cons_of_mem _ hp, h⟩
        · intro p hp hw
          rcases List.mem_cons.1 hp with rfl | hp
          · have := j2 hs2.1
            omega
          · exact j3 p hp hw

theorem none_waits {ak now D la : Int} {L : List S56} (h0 : 0 ≤ ak) (h : (L.foldl (nxt ak now D) (la, false)).2 = false) : ∀ p ∈ L.filter (fun p => !isLost ak now D p), ak < p.f0 := by
  intro p hp
  obtain ⟨hp, hl⟩ := List.mem_filter.1 hp
  have hnw : ¬ Wt ak now D p := fun hw => by
    have := (fold_inv ak now D L (la, false)).1.2 (.inr ⟨p, hp, hw⟩)
    rw [h] at this
    cases this
  have hab : ab ak p = true := by
    cases h1 : ab ak p with
    | true => rfl
    | false =>
      cases h2 : lo ak now D p with
      | false => exact absurd ⟨h1, h2⟩ hnw
      | true => simp [isLost, h1, h2] at hl
  unfold ab at hab
  simp at hab
  omega
theorem due_bound (D : Int) (p : S56) : 0 ≤ LossFind.due D p ∧ LossFind.due D p < 18446744073709551616 := by unfold LossFind.due; rw [IntKind.wrap_u64]; omega
theorem one_waits {ak now D la : Int} {L : List S56} (_hnow : 0 ≤ now) (h : (L.foldl (nxt ak now D) (la, false)).2 = true) {m : Int} (hm : (L.foldl (nxt ak now D) (la, false)).1 = m) :
    (now < m ∧ m < 18446744073709551616) ∧ (L.filter (fun p => !isLost ak now D p)).filter (isLost ak (m - 1) D) = [] ∧ (L.filter (fun p => !isLost ak now D p)).filter (fun p => !isLost ak (m - 1) D p) = L.filter (fun p => !isLost ak now D p) ∧ 0 < ((L.filter (fun p => !isLost ak now D p)).filter (isLost ak m D)).length := by
  obtain ⟨j1, _, j3⟩ := (fold_inv ak now D L (la, false)).2 h
  rw [hm] at j1 j3
  have hno : ∀ p ∈ L.filter (fun p => !isLost ak now D p), isLost ak (m - 1) D p = false := by
    intro p hp
    obtain ⟨hp, hl⟩ := List.mem_filter.1 hp
    cases h1 : ab ak p with
    | true => simp [isLost, h1]
    | false =>
      have h2 : lo ak now D p = false := by
        cases h2 : lo ak now D p with
        | false => rfl
        | true => simp [isLost, h1, h2] at hl
      have h3 := j3 p hp ⟨h1, h2⟩
      have h4 : ¬ (ak - p.f0 ≥ 3) := by unfold lo at h2; simp at h2; omega
      simp only [isLost, h1, lo]
      simp
      omega
  rcases j1 with ⟨h1, _⟩ | ⟨p0, hp0, hw0, hd0⟩
  · cases h1
  · have hlo : ¬ LossFind.due D p0 ≤ now := by have := hw0.2; unfold lo at this; simp at this; omega
    have hb := due_bound D p0
    refine ⟨by omega, ?_, ?_, ?_⟩
    · exact List.filter_eq_nil_iff.2 (fun p hp => by rw [hno p hp]; simp)
    · exact List.filter_eq_self.2 (fun p hp => by rw [hno p hp]; rfl)
    · refine List.length_pos_of_mem (a := p0) (List.mem_filter.2 ⟨List.mem_filter.2 ⟨hp0, ?_⟩, ?_⟩)
      · simp [isLost, hw0.1, hw0.2]
      · simp [isLost, hw0.1, lo, hd0]
end Go.Proofs.Ytclmnpdabnogkaa.TimesPure
