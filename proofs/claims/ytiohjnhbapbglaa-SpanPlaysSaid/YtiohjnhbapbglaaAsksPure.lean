/- What a set says of a number and of a range; how many numbers are in it with one range more. No condition. -/
import Derived.Test.YtiohjnhbapbglaaSpCount
namespace Go.Proofs.Ytiohjnhbapbglaa.AsksPure
open Go.RowKit Go.Proofs.Ytiohjnhbapbglaa.PSpanPlays Go.Proofs.Ytiohjnhbapbglaa.SpPure Go.Proofs.Ytiohjnhbapbglaa.SpLaw Go.Proofs.Ytiohjnhbapbglaa.SpSet Go.Proofs.Ytiohjnhbapbglaa.SpFind Go.Proofs.Ytiohjnhbapbglaa.SpCut Go.Proofs.Ytiohjnhbapbglaa.PartsPure Go.Proofs.Ytiohjnhbapbglaa.SpCount Go.Proofs.YtiohjnhbapbglaaW.PrintWords Go.Proofs.YtiohjnhbapbglaaW.PrintLast Go.Proofs.YtiohjnhbapbglaaW.PrintMore

theorem rd_zero (x : S28) (l : List S28) : rd_T28 (x :: l) ((0 : Nat) : Int) = x := rfl
theorem rd_succ (x : S28) (l : List S28) (j : Nat) : rd_T28 (x :: l) ((j + 1 : Nat) : Int) = rd_T28 l (j : Int) := by unfold rd_T28; rw [Int.toNat_natCast, Int.toNat_natCast]; rfl
theorem nf_lt : ∀ {l : List S28}, NF l → ∀ i k : Nat, i < k → k < l.length → (rd_T28 l i).f1 < (rd_T28 l k).f0
  | x :: l, h, 0, k + 1, _, hk => by
    rw [rd_zero, rd_succ]
    exact h.2.1 _ (rd_mem l k (by simpa using hk))
  | x :: l, h, i + 1, k + 1, hik, hk => by
    rw [rd_succ, rd_succ]
    exact nf_lt h.2.2 i k (by omega) (by simpa using hk)
  | [], _, _, _, _, hk => by simp at hk
  | _ :: _, _, _, 0, hik, _ => by omega
theorem up_of_nf {l : List S28} (h : NF l) : Up l := by
  intro i j hij hj
  rcases Nat.lt_or_ge i j with h1 | h1
  · have h2 := nf_lt h i j h1 hj
    have h3 := nf_pos h _ (rd_mem l j hj)
    omega
  · obtain rfl : i = j := by omega
    exact Int.le_refl _
theorem mem_rd {l : List S28} {x : S28} (h : x ∈ l) : ∃ k : Nat, k < l.length ∧ rd_T28 l k = x := by
  obtain ⟨k, hk, rfl⟩ := List.mem_iff_getElem.1 h
  refine ⟨k, hk, ?_⟩
  unfold rd_T28
  rw [Int.toNat_natCast, List.getD_eq_getElem?_getD, List.getElem?_eq_getElem hk]; rfl
theorem fst_eq {l : List S28} (h : NF l) {n : Int} {i k : Nat} (hi : Fst l n i) (hk : k < l.length) (h0 : (rd_T28 l k).f0 ≤ n) (h1 : n < (rd_T28 l k).f1) : i = k := by
  rcases Nat.lt_trichotomy i k with h2 | h2 | h2
  · have h3 := nf_lt h i k h2 hk
    have h4 := hi.2.2 i (Nat.le_refl _) (by omega)
    omega
  · exact h2
  · have := hi.2.1 k h2
    omega
theorem has_iff {l : List S28} (h : NF l) {n : Int} {i : Nat} (hi : Fst l n i) : (decide (i < l.length) && decide ((rd_T28 l i).f0 ≤ n)) = true ↔ mem l n := by
  rw [Bool.and_eq_true, decide_eq_true_iff, decide_eq_true_iff]
  constructor
  · rintro ⟨h1, h2⟩
    exact ⟨_, rd_mem l i h1, h2, hi.2.2 i (Nat.le_refl _) h1⟩
  · rintro ⟨x, hx, h1, h2⟩
    obtain ⟨k, hk, rfl⟩ := mem_rd hx
    obtain rfl := fst_eq h hi hk h1 h2
    exact ⟨hk, h1⟩
theorem covers_iff {l : List S28} (h : NF l) {r : S28} (hr : r.f0 < r.f1) {i : Nat} (hi : Fst l r.f0 i) : (decide (i < l.length) && decide ((rd_T28 l i).f0 ≤ r.f0) && decide ((rd_T28 l i).f1 ≥ r.f1)) = true ↔ ∃ x ∈ l, x.f0 ≤ r.f0 ∧ r.f1 ≤ x.f1 := by
  rw [Bool.and_eq_true, Bool.and_eq_true, decide_eq_true_iff, decide_eq_true_iff, decide_eq_true_iff]
  constructor
  · rintro ⟨⟨h1, h2⟩, h3⟩
    exact ⟨_, rd_mem l i h1, h2, h3⟩
  · rintro ⟨x, hx, h1, h2⟩
    obtain ⟨k, hk, rfl⟩ := mem_rd hx
    obtain rfl := fst_eq h hi hk h1 (by omega)
    exact ⟨⟨hk, h1⟩, h2⟩
theorem adds_has : ∀ (l : List S28) (r : S28), ∃ x ∈ adds l false r, x.f0 ≤ r.f0 ∧ r.f1 ≤ x.f1
  | [], r => ⟨r, by simp [adds], Int.le_refl _, Int.le_refl _⟩
  | x :: l, r => by
    unfold adds
    split
    · obtain ⟨y, hy, h⟩ := adds_has l r
      exact ⟨y, List.mem_cons_of_mem _ hy, h⟩
    · split
      · exact ⟨r, by simp, Int.le_refl _, Int.le_refl _⟩
      · obtain ⟨y, hy, h1, h2⟩ := adds_has l ⟨mn r.f0 x.f0, mx r.f1 x.f1⟩
        have h3 : y.f0 ≤ mn r.f0 x.f0 := h1
        have h4 : mx r.f1 x.f1 ≤ y.f1 := h2
        refine ⟨y, hy, ?_, ?_⟩
        · unfold mn at h3; split at h3 <;> omega
        · unfold mx at h4; split at h4 <;> omega
theorem cnt_more : ∀ (l : List S28) (r : S28), NF l → r.f0 < r.f1 → cnt l ≤ cnt (adds l false r) ∧ ∀ b : Int, (∀ y ∈ l, b < y.f0) → b ≤ r.f1 → cnt l + (b - r.f0) ≤ cnt (adds l false r)
  | [], r, _, h => by
    simp only [adds, cnt]
    refine ⟨by simp [cnt]; omega, fun b _ hb => by simp [cnt]; omega⟩
  | x :: l, r, h0, h => by
    unfold adds
    by_cases c1 : x.f1 < r.f0
    · rw [if_pos c1]
      have ih := (cnt_more l r h0.2.2 h).1
      simp only [cnt]
      refine ⟨by omega, fun b hb _ => ?_⟩
      have := hb x List.mem_cons_self
      have := h0.1
      omega
    · rw [if_neg c1]
      by_cases c2 : r.f1 < x.f0
      · rw [if_pos c2, if_neg (by simp), put_same l r (fun y hy => by have := h0.1; have := h0.2.1 y hy; omega)]
        simp only [cnt]
        exact ⟨by omega, fun b _ hb => by omega⟩
      · rw [if_neg c2]
        have hp := h0.1
        have e0 : mn r.f0 x.f0 ≤ r.f0 ∧ mn r.f0 x.f0 ≤ x.f0 := by unfold mn; split <;> omega
        have e1 : x.f1 ≤ mx r.f1 x.f1 := by unfold mx; split <;> omega
        have ih := (cnt_more l ⟨mn r.f0 x.f0, mx r.f1 x.f1⟩ h0.2.2 (by show mn r.f0 x.f0 < mx r.f1 x.f1; omega)).2 x.f1 h0.2.1 e1
        simp only [cnt]
        have ih2 : cnt l + (x.f1 - mn r.f0 x.f0) ≤ cnt (adds l false ⟨mn r.f0 x.f0, mx r.f1 x.f1⟩) := ih
        refine ⟨by omega, fun b hb _ => ?_⟩
        have := hb x List.mem_cons_self
        omega
theorem cnt_le : ∀ (l : List S28) (lo M : Int), NF l → (∀ x ∈ l, lo ≤ x.f0 ∧ x.f1 ≤ M) → lo ≤ M → 0 ≤ cnt l ∧ cnt l ≤ M - lo
  | [], lo, M, _, _, h => by simp [cnt]; omega
  | x :: l, lo, M, h0, hb, h => by
    have hx := hb x List.mem_cons_self
    have hp := h0.1
    have ih := cnt_le l x.f1 M h0.2.2 (fun y hy => ⟨by have := h0.2.1 y hy; omega, (hb y (List.mem_cons_of_mem _ hy)).2⟩) (by omega)
    simp only [cnt]
    omega
theorem cnt_wrap {l : List S28} (h : NF l) (hb : Bd l) : IntKind.u64.wrap (cnt l) = cnt l := by
  have := cnt_le l 0 18446744073709551615 h hb (by omega)
  rw [IntKind.wrap_u64]; omega
/-- No range of a set meets r. -/
def offs (r : S28) (l : List S28) : Bool := l.all fun x => decide (x.f1 ≤ r.f0) || decide (x.f0 ≥ r.f1)
theorem offs_take (r : S28) (l : List S28) (j : Nat) (h : j < l.length) : offs r (l.take (j + 1)) = (offs r (l.take j) && (decide ((rd_T28 l j).f1 ≤ r.f0) || decide ((rd_T28 l j).f0 ≥ r.f1))) := by
  have e : l[j]? = some (rd_T28 l j) := by
    unfold rd_T28
    rw [Int.toNat_natCast, List.getD_eq_getElem?_getD, List.getElem?_eq_getElem h]; rfl
  unfold offs
  rw [List.take_add_one, e, List.all_append]
  simp
theorem cut_back {l : List S28} (h : NF l) {r : S28} (hr : r.f0 < r.f1) (ho : offs r l = true) : cuts r (adds l false r) = l := by
  refine same_of_mem (cuts_nf r hr _ (adds_nf l r h hr)) h fun v => ?_
  rw [cuts_mem r hr, adds_mem l r h hr]
  have hm : mem l v → ¬ isin r v := by
    rintro ⟨x, hx, h1⟩ h2
    have h3 := (List.all_eq_true.1 ho) x hx
    simp only [Bool.or_eq_true, decide_eq_true_iff] at h3
    unfold isin at h1 h2
    omega
  constructor
  · rintro ⟨h1 | h1, h2⟩
    · exact h1
    · exact absurd h1 h2
  · exact fun h1 => ⟨.inl h1, hm h1⟩
theorem has_not {l : List S28} (h : NF l) {r : S28} (hr : r.f0 < r.f1) {n : Int} {i : Nat} (hn : isin r n) (hi : Fst (cuts r l) n i) : (decide (i < (cuts r l).length) && decide ((rd_T28 (cuts r l) i).f0 ≤ n)) = false := by
  rw [← Bool.not_eq_true]
  intro h1
  have h2 := (has_iff (cuts_nf r hr l h) hi).1 h1
  rw [cuts_mem r hr] at h2
  exact h2.2 hn
end Go.Proofs.Ytiohjnhbapbglaa.AsksPure
