/- What added answers, told without rounds. Condition: no row is long. -/
import Derived.Test.YtiohjnhbapbglaaPSpanPlaysx2
namespace Go.Proofs.Ytiohjnhbapbglaa.SpPure
open Go.RowKit Go.Proofs.Ytiohjnhbapbglaa.PSpanPlays Go.Proofs.YtiohjnhbapbglaaW.PrintWords Go.Proofs.YtiohjnhbapbglaaW.PrintLast Go.Proofs.YtiohjnhbapbglaaW.PrintMore

/-- Ranges with one more. -/
def adds : List S28 → Bool → S28 → List S28
  | [], put, r => if put = true then [] else [r]
  | x :: l, put, r => if x.f1 < r.f0 then x :: adds l put r else if r.f1 < x.f0 then (if put = true then x :: adds l put r else r :: x :: adds l true r) else adds l put ⟨mn r.f0 x.f0, mx r.f1 x.f1⟩
theorem eta (x : S28) : (⟨x.f0, x.f1⟩ : S28) = x := rfl
theorem loop (l : List S28) (hl : l.length ≤ 1000) : ∀ n i (out : List S28) (put : Bool) (r : S28), n + i = l.length → out.length ≤ 2 * i + 1 →
    span_added.l0 (n + 1) out put l l.length i r.f0 r.f1 = some (out ++ adds (l.drop i) put r)
  | 0, i, out, put, r, h, ho => by
    rw [span_added.l0, if_neg (by omega), List.drop_eq_nil_of_le (by omega)]
    cases put <;> simp [adds]
    omega
  | n + 1, i, out, put, r, h, ho => by
    have hd : l.drop i = rd_T28 l i :: l.drop (i + 1) := by
      rw [List.drop_eq_getElem_cons (by omega)]
      congr 1
      unfold rd_T28
      rw [Int.toNat_natCast, List.getD_eq_getElem?_getD, List.getElem?_eq_getElem (by omega)]
      rfl
    have hw : wrap64 ((i : Int) + 1) = ((i + 1 : Nat) : Int) := by unfold wrap64; omega
    rw [span_added.l0, if_pos (by omega), if_pos (by omega), if_pos (by omega), hd, hw]
    generalize rd_T28 l i = x
    simp only [eta, adds]
    by_cases h1 : x.f1 < r.f0
    · rw [if_pos h1, if_pos (by omega), if_pos h1, loop l hl n (i + 1) _ put r (by omega) (by simp; omega)]
      simp
    · rw [if_neg h1, if_neg h1]
      by_cases h2 : r.f1 < x.f0
      · rw [if_pos h2, if_pos h2]
        cases put with
        | true =>
          rw [if_pos rfl, if_pos (by omega), if_pos rfl, loop l hl n (i + 1) _ true r (by omega) (by simp; omega)]
          simp
        | false =>
          simp only [Bool.false_eq_true, if_false]
          rw [if_pos (by omega), Option.bind_some, if_pos (by simp; omega), loop l hl n (i + 1) _ true r (by omega) (by simp; omega)]
          simp
      · rw [if_neg h2, if_neg h2]
        exact loop l hl n (i + 1) out put ⟨mn r.f0 x.f0, mx r.f1 x.f1⟩ (by omega) (by omega)
theorem added_f (l : List S28) (hl : l.length ≤ 1000) (r : S28) : span_added.f (l.length + 1) l r.f0 r.f1 = some (adds l false r) := by
  have h := loop l hl l.length 0 [] false r (by omega) (by simp)
  unfold span_added.f
  simpa using h
theorem adds_len : ∀ (l : List S28) (put : Bool) (r : S28), (adds l put r).length ≤ l.length + 1
  | [], put, r => by cases put <;> simp [adds]
  | x :: l, put, r => by
    unfold adds
    have h1 := adds_len l put r
    have h2 := adds_len l true r
    have h3 := adds_len l put ⟨mn r.f0 x.f0, mx r.f1 x.f1⟩
    split
    · simp; omega
    · split
      · split
        · simp; omega
        · have := adds_put l r
          simp; omega
      · simp; omega
where adds_put : ∀ (l : List S28) (r : S28), (adds l true r).length ≤ l.length
  | [], r => by simp [adds]
  | x :: l, r => by
    unfold adds
    have h1 := adds_put l r
    have h3 := adds_put l ⟨mn r.f0 x.f0, mx r.f1 x.f1⟩
    split
    · simp; omega
    · simp
      split
      · simp; omega
      · omega
end Go.Proofs.Ytiohjnhbapbglaa.SpPure
