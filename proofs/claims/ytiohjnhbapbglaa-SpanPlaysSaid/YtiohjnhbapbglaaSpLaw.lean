/- Sets of ranges: what is in them, in as few ranges as may be: one more, one less; two that hold the same are the same. No condition. -/
import Derived.Test.YtiohjnhbapbglaaSpPure
namespace Go.Proofs.Ytiohjnhbapbglaa.SpLaw
open Go.RowKit Go.Proofs.Ytiohjnhbapbglaa.PSpanPlays Go.Proofs.Ytiohjnhbapbglaa.SpPure Go.Proofs.YtiohjnhbapbglaaW.PrintWords Go.Proofs.YtiohjnhbapbglaaW.PrintLast Go.Proofs.YtiohjnhbapbglaaW.PrintMore

/-- Ranges that rise, none empty, none of which meet. -/
def NF : List S28 → Prop
  | [] => True
  | x :: l => x.f0 < x.f1 ∧ (∀ y ∈ l, x.f1 < y.f0) ∧ NF l
def isin (x : S28) (v : Int) : Prop := x.f0 ≤ v ∧ v < x.f1
def mem (l : List S28) (v : Int) : Prop := ∃ x ∈ l, isin x v
theorem mem_nil (v : Int) : ¬ mem [] v := by rintro ⟨x, hx, _⟩; cases hx
theorem mem_cons (x : S28) (l : List S28) (v : Int) : mem (x :: l) v ↔ isin x v ∨ mem l v := by
  constructor
  · rintro ⟨y, hy, h⟩
    rcases List.mem_cons.1 hy with rfl | hy
    · exact .inl h
    · exact .inr ⟨y, hy, h⟩
  · rintro (h | ⟨y, hy, h⟩)
    · exact ⟨x, List.mem_cons_self, h⟩
    · exact ⟨y, List.mem_cons_of_mem _ hy, h⟩
theorem mem_append (l m : List S28) (v : Int) : mem (l ++ m) v ↔ mem l v ∨ mem m v := by
  constructor
  · rintro ⟨y, hy, h⟩
    rcases List.mem_append.1 hy with hy | hy
    · exact .inl ⟨y, hy, h⟩
    · exact .inr ⟨y, hy, h⟩
  · rintro (⟨y, hy, h⟩ | ⟨y, hy, h⟩)
    · exact ⟨y, List.mem_append_left _ hy, h⟩
    · exact ⟨y, List.mem_append_right _ hy, h⟩
theorem put_same : ∀ (l : List S28) (r : S28), (∀ y ∈ l, r.f1 < y.f0) → adds l true r = l
  | [], r, _ => rfl
  | x :: l, r, h => by
    have hx := h x List.mem_cons_self
    unfold adds
    rw [put_same l r (fun y hy => h y (List.mem_cons_of_mem _ hy)), if_pos hx]
    simp
theorem adds_low : ∀ (l : List S28) (r : S28) (b : Int), NF l → (∀ y ∈ l, b < y.f0) → b < r.f0 → ∀ y ∈ adds l false r, b < y.f0
  | [], r, b, _, _, h2, y, hy => by
    simp [adds] at hy
    subst hy; exact h2
  | x :: l, r, b, h0, h1, h2, y, hy => by
    have hx := h1 x List.mem_cons_self
    have hl := fun y hy => h1 y (List.mem_cons_of_mem x hy)
    unfold adds at hy
    by_cases c1 : x.f1 < r.f0
    · rw [if_pos c1] at hy
      rcases List.mem_cons.1 hy with rfl | hy
      · exact hx
      · exact adds_low l r b h0.2.2 hl h2 y hy
    · rw [if_neg c1] at hy
      by_cases c2 : r.f1 < x.f0
      · rw [if_pos c2, if_neg (by simp), put_same l r (fun y hy => by have := h0.1; have := h0.2.1 y hy; omega)] at hy
        rcases List.mem_cons.1 hy with rfl | hy
        · exact h2
        · exact h1 y hy
      · rw [if_neg c2] at hy
        exact adds_low l _ b h0.2.2 hl (by show b < mn r.f0 x.f0; unfold mn; split <;> omega) y hy
theorem adds_nf : ∀ (l : List S28) (r : S28), NF l → r.f0 < r.f1 → NF (adds l false r)
  | [], r, _, h => by simp [adds, NF, h]
  | x :: l, r, h0, h => by
    unfold adds
    by_cases c1 : x.f1 < r.f0
    · rw [if_pos c1]
      exact ⟨h0.1, adds_low l r _ h0.2.2 h0.2.1 c1, adds_nf l r h0.2.2 h⟩
    · rw [if_neg c1]
      by_cases c2 : r.f1 < x.f0
      · have hp := fun y (hy : y ∈ l) => show r.f1 < y.f0 by have := h0.1; have := h0.2.1 y hy; omega
        rw [if_pos c2, if_neg (by simp), put_same l r hp]
        exact ⟨h, fun y hy => by rcases List.mem_cons.1 hy with rfl | hy; exact c2; exact hp y hy, h0⟩
      · rw [if_neg c2]
        refine adds_nf l _ h0.2.2 ?_
        show mn r.f0 x.f0 < mx r.f1 x.f1
        unfold mn mx
        split <;> split <;> omega
theorem adds_mem : ∀ (l : List S28) (r : S28), NF l → r.f0 < r.f1 → ∀ v, mem (adds l false r) v ↔ mem l v ∨ isin r v
  | [], r, _, h, v => by
    simp [adds, mem_cons, mem_nil]
  | x :: l, r, h0, h, v => by
    unfold adds
    by_cases c1 : x.f1 < r.f0
    · rw [if_pos c1, mem_cons, mem_cons, adds_mem l r h0.2.2 h v]
      exact or_assoc.symm
    · rw [if_neg c1]
      by_cases c2 : r.f1 < x.f0
      · have hp := fun y (hy : y ∈ l) => show r.f1 < y.f0 by have := h0.1; have := h0.2.1 y hy; omega
        rw [if_pos c2, if_neg (by simp), put_same l r hp, mem_cons]
        constructor <;> (intro hh; rcases hh with hh | hh) <;> simp_all
      · rw [if_neg c2, adds_mem l _ h0.2.2 (by show mn r.f0 x.f0 < mx r.f1 x.f1; unfold mn mx; have := h0.1; split <;> split <;> omega) v, mem_cons]
        have key : isin ⟨mn r.f0 x.f0, mx r.f1 x.f1⟩ v ↔ isin x v ∨ isin r v := by
          have := h0.1
          unfold isin
          show (mn r.f0 x.f0 ≤ v ∧ v < mx r.f1 x.f1) ↔ _
          unfold mn mx
          split <;> split <;> omega
        rw [key, ← or_assoc, or_comm (a := mem l v)]
/-- What is left of a range. -/
def cut1 (r x : S28) : List S28 := (if x.f0 < r.f0 then [⟨x.f0, mn x.f1 r.f0⟩] else []) ++ if x.f1 > r.f1 then [⟨mx x.f0 r.f1, x.f1⟩] else []
def cuts (r : S28) (l : List S28) : List S28 := l.flatMap (cut1 r)
theorem cut1_in {r x y : S28} (hx : x.f0 < x.f1) (hy : y ∈ cut1 r x) : x.f0 ≤ y.f0 ∧ y.f1 ≤ x.f1 ∧ y.f0 < y.f1 := by
  unfold cut1 at hy
  rcases List.mem_append.1 hy with hy | hy
  · split at hy
    · rw [List.mem_singleton.1 hy]
      show x.f0 ≤ x.f0 ∧ mn x.f1 r.f0 ≤ x.f1 ∧ x.f0 < mn x.f1 r.f0
      unfold mn; split <;> omega
    · cases hy
  · split at hy
    · rw [List.mem_singleton.1 hy]
      show x.f0 ≤ mx x.f0 r.f1 ∧ x.f1 ≤ x.f1 ∧ mx x.f0 r.f1 < x.f1
      unfold mx; split <;> omega
    · cases hy
theorem nf_append : ∀ {l m : List S28}, NF l → NF m → (∀ x ∈ l, ∀ y ∈ m, x.f1 < y.f0) → NF (l ++ m)
  | [], m, _, hm, _ => hm
  | x :: l, m, hl, hm, h => ⟨hl.1, fun y hy => by
      rcases List.mem_append.1 hy with hy | hy
      · exact hl.2.1 y hy
      · exact h x List.mem_cons_self y hy, nf_append hl.2.2 hm (fun x hx => h x (List.mem_cons_of_mem _ hx))⟩
theorem cut1_nf {r x : S28} (hx : x.f0 < x.f1) (h : r.f0 < r.f1) : NF (cut1 r x) := by
  unfold cut1
  refine nf_append ?_ ?_ ?_
  · split
    · exact ⟨by show x.f0 < mn x.f1 r.f0; unfold mn; split <;> omega, by simp, trivial⟩
    · trivial
  · split
    · exact ⟨by show mx x.f0 r.f1 < x.f1; unfold mx; split <;> omega, by simp, trivial⟩
    · trivial
  · intro a ha b hb
    split at ha
    · split at hb
      · rw [List.mem_singleton.1 ha, List.mem_singleton.1 hb]
        show mn x.f1 r.f0 < mx x.f0 r.f1
        unfold mn mx; split <;> split <;> omega
      · cases hb
    · cases ha
theorem nf_pos : ∀ {l : List S28}, NF l → ∀ x ∈ l, x.f0 < x.f1
  | _ :: _, h, x, hx => by
    rcases List.mem_cons.1 hx with rfl | hx
    · exact h.1
    · exact nf_pos h.2.2 x hx
theorem cuts_nf (r : S28) (h : r.f0 < r.f1) : ∀ l : List S28, NF l → NF (cuts r l)
  | [], _ => trivial
  | x :: l, hl => by
    have e : cuts r (x :: l) = cut1 r x ++ cuts r l := by simp [cuts]
    rw [e]
    refine nf_append (cut1_nf hl.1 h) (cuts_nf r h l hl.2.2) ?_
    intro a ha b hb
    obtain ⟨z, hz, hb⟩ := List.mem_flatMap.1 hb
    have h1 := cut1_in hl.1 ha
    have h2 := cut1_in (nf_pos hl.2.2 z hz) hb
    have h3 := hl.2.1 z hz
    omega
theorem cut1_mem {r x : S28} (_h : r.f0 < r.f1) (v : Int) : mem (cut1 r x) v ↔ isin x v ∧ ¬ isin r v := by
  unfold cut1
  rw [mem_append]
  have e1 : mem (if x.f0 < r.f0 then [⟨x.f0, mn x.f1 r.f0⟩] else []) v ↔ x.f0 < r.f0 ∧ x.f0 ≤ v ∧ v < x.f1 ∧ v < r.f0 := by
    split
    · rw [mem_cons]
      simp only [mem_nil, or_false]
      unfold isin
      show (x.f0 ≤ v ∧ v < mn x.f1 r.f0) ↔ _
      unfold mn; split <;> omega
    · simp only [mem_nil, false_iff]; omega
  have e2 : mem (if x.f1 > r.f1 then [⟨mx x.f0 r.f1, x.f1⟩] else []) v ↔ x.f1 > r.f1 ∧ x.f0 ≤ v ∧ r.f1 ≤ v ∧ v < x.f1 := by
    split
    · rw [mem_cons]
      simp only [mem_nil, or_false]
      unfold isin
      show (mx x.f0 r.f1 ≤ v ∧ v < x.f1) ↔ _
      unfold mx; split <;> omega
    · simp only [mem_nil, false_iff]; omega
  rw [e1, e2]
  unfold isin
  omega
theorem cuts_mem (r : S28) (h : r.f0 < r.f1) : ∀ (l : List S28) (v : Int), mem (cuts r l) v ↔ mem l v ∧ ¬ isin r v
  | [], v => by simp [cuts, mem_nil]
  | x :: l, v => by
    have e : cuts r (x :: l) = cut1 r x ++ cuts r l := by simp [cuts]
    rw [e, mem_append, cut1_mem h, cuts_mem r h l v, mem_cons]
    constructor
    · rintro (⟨a, b⟩ | ⟨a, b⟩)
      · exact ⟨.inl a, b⟩
      · exact ⟨.inr a, b⟩
    · rintro ⟨a | a, b⟩
      · exact .inl ⟨a, b⟩
      · exact .inr ⟨a, b⟩
theorem mem_ge {x : S28} {l : List S28} {v : Int} (h : NF (x :: l)) (hm : mem (x :: l) v) : x.f0 ≤ v := by
  rcases (mem_cons x l v).1 hm with hi | ⟨y, hy, hi⟩
  · exact hi.1
  · have := h.2.1 y hy; have := h.1; have := hi.1; omega
theorem same_of_mem : ∀ {l m : List S28}, NF l → NF m → (∀ v, mem l v ↔ mem m v) → l = m
  | [], [], _, _, _ => rfl
  | [], y :: m, _, hm, h => by
    have := (h y.f0).2 ((mem_cons _ _ _).2 (.inl ⟨Int.le_refl _, hm.1⟩))
    exact absurd this (mem_nil _)
  | x :: l, [], hl, _, h => by
    have := (h x.f0).1 ((mem_cons _ _ _).2 (.inl ⟨Int.le_refl _, hl.1⟩))
    exact absurd this (mem_nil _)
  | x :: l, y :: m, hl, hm, h => by
    have hx0 := mem_ge hm ((h x.f0).1 ((mem_cons _ _ _).2 (.inl ⟨Int.le_refl _, hl.1⟩)))
    have hy0 := mem_ge hl ((h y.f0).2 ((mem_cons _ _ _).2 (.inl ⟨Int.le_refl _, hm.1⟩)))
    have e0 : x.f0 = y.f0 := by omega
    have h1 : ¬ x.f1 < y.f1 := fun hlt => by
      have := (h x.f1).2 ((mem_cons _ _ _).2 (.inl ⟨by have := hl.1; omega, hlt⟩))
      rcases (mem_cons _ _ _).1 this with hi | ⟨z, hz, hi⟩
      · have := hi.2; omega
      · have := hl.2.1 z hz; have := hi.1; omega
    have h2 : ¬ y.f1 < x.f1 := fun hlt => by
      have := (h y.f1).1 ((mem_cons _ _ _).2 (.inl ⟨by have := hm.1; omega, hlt⟩))
      rcases (mem_cons _ _ _).1 this with hi | ⟨z, hz, hi⟩
      · have := hi.2; omega
      · have := hm.2.1 z hz; have := hi.1; omega
    have e1 : x.f1 = y.f1 := by omega
    have e : x = y := by cases x; cases y; simp_all
    subst e
    have ht : ∀ v, mem l v ↔ mem m v := by
      intro v
      constructor
      · intro hv
        rcases (mem_cons _ _ _).1 ((h v).1 ((mem_cons _ _ _).2 (.inr hv))) with hi | hi
        · obtain ⟨z, hz, hi2⟩ := hv
          have := hl.2.1 z hz; have := hi2.1; have := hi.2; omega
        · exact hi
      · intro hv
        rcases (mem_cons _ _ _).1 ((h v).2 ((mem_cons _ _ _).2 (.inr hv))) with hi | hi
        · obtain ⟨z, hz, hi2⟩ := hv
          have := hm.2.1 z hz; have := hi2.1; have := hi.2; omega
        · exact hi
    rw [same_of_mem hl.2.2 hm.2.2 ht]
end Go.Proofs.Ytiohjnhbapbglaa.SpLaw
