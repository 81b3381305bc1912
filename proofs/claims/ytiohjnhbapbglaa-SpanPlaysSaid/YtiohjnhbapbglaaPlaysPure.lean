/- What the references answer, told without rounds. Condition: no row is long. -/
import Derived.Test.YtiohjnhbapbglaaPSpanPlaysx3
import Derived.Test.YtiohjnhbapbglaaPSpanPlaysx4
import Derived.Test.YtiohjnhbapbglaaPSpanPlaysx5
import Derived.Test.YtiohjnhbapbglaaSpFirst
namespace Go.Proofs.Ytiohjnhbapbglaa.PlaysPure
open Go.RowKit Go.Proofs.Ytiohjnhbapbglaa.PSpanPlays Go.Proofs.Ytiohjnhbapbglaa.SpPure Go.Proofs.Ytiohjnhbapbglaa.SpLaw Go.Proofs.Ytiohjnhbapbglaa.SpSet Go.Proofs.Ytiohjnhbapbglaa.SpFind Go.Proofs.Ytiohjnhbapbglaa.SpAsk Go.Proofs.Ytiohjnhbapbglaa.SpCut Go.Proofs.Ytiohjnhbapbglaa.PartsPure Go.Proofs.Ytiohjnhbapbglaa.AsksPure Go.Proofs.YtiohjnhbapbglaaW.PrintWords Go.Proofs.YtiohjnhbapbglaaW.PrintLast Go.Proofs.YtiohjnhbapbglaaW.PrintMore

def toS (x : S28) : S45 := ⟨x.f0, x.f1⟩
theorem rd_map (l : List S28) (i : Nat) (h : i < l.length) : rd_T45 (l.map toS) i = toS (rd_T28 l i) := by
  unfold rd_T45 rd_T28
  rw [Int.toNat_natCast, List.getD_eq_getElem?_getD, List.getD_eq_getElem?_getD, List.getElem?_map, List.getElem?_eq_getElem h]
  rfl
theorem drop_rd (l : List S28) (i : Nat) (h : i < l.length) : l.drop i = rd_T28 l i :: l.drop (i + 1) := by
  rw [List.drop_eq_getElem_cons h]
  congr 1
  unfold rd_T28
  rw [Int.toNat_natCast, List.getD_eq_getElem?_getD, List.getElem?_eq_getElem h]
  rfl
theorem w64 (l : List S28) (i : Nat) (hl : l.length ≤ 1000) (h : i < l.length) : wrap64 ((i : Int) + 1) = ((i + 1 : Nat) : Int) := by unfold wrap64; omega
theorem add_loop (l : List S28) (hl : l.length ≤ 1000) (hp : ∀ x ∈ l, x.f0 < x.f1) : ∀ n i (out : List S45) (put : Bool) (r : S28), n + i = l.length → out.length ≤ 2 * i + 1 → r.f0 < r.f1 →
    ∃ k, binnacleref07_Add.l0 k (l.map toS) out put i r.f0 r.f1 = some (out ++ (adds (l.drop i) put r).map toS)
  | 0, i, out, put, r, h, ho, hr => by
    refine ⟨1, ?_⟩
    rw [binnacleref07_Add.l0, if_neg (by rw [List.length_map]; omega), List.drop_eq_nil_of_le (by omega)]
    cases put <;> simp [adds, toS]
    omega
  | n + 1, i, out, put, r, h, ho, hr => by
    have hil : i < l.length := by omega
    have hx := hp _ (rd_mem l i hil)
    have hw := w64 l i hl hil
    have hm := rd_map l i hil
    have hd := drop_rd l i hil
    have IH := add_loop l hl hp n (i + 1)
    have e0 : (i : Int) < ((l.map toS).length : Int) := by rw [List.length_map]; omega
    have e1 : (0 : Int) ≤ (i : Int) := by omega
    generalize rd_T28 l i = x at *
    rw [hd]
    unfold adds
    have hcon : (⟨(toS x).f0, (toS x).f1⟩ : S45) = toS x := rfl
    have hrr : (⟨r.f0, r.f1⟩ : S45) = toS r := rfl
    by_cases c1 : x.f1 < r.f0
    · obtain ⟨k, hk⟩ := IH (out ++ [toS x]) put r (by omega) (by simp; omega) hr
      refine ⟨k + 2, ?_⟩
      rw [binnacleref07_Add.l0, if_pos e0, if_pos e1, hm, if_neg (by show ¬ x.f1 ≥ r.f0; omega), binnacleref07_Add.j1, if_neg (by simp), if_neg (by show ¬ x.f0 > r.f1; omega), if_pos (by omega), hw, hcon, hk, if_pos c1]
      simp
    · rw [if_neg c1]
      by_cases c2 : r.f1 < x.f0
      · rw [if_pos c2]
        have d1 : decide ((toS x).f0 ≤ r.f1) = false := decide_eq_false (by show ¬ x.f0 ≤ r.f1; omega)
        cases put with
        | true =>
          obtain ⟨k, hk⟩ := IH (out ++ [toS x]) true r (by omega) (by simp; omega) hr
          refine ⟨k + 2, ?_⟩
          rw [binnacleref07_Add.l0, if_pos e0, if_pos e1, hm, if_pos (by show x.f1 ≥ r.f0; omega), d1, binnacleref07_Add.j1, if_neg (by simp), if_pos (by show x.f0 > r.f1; omega), if_pos rfl, if_pos (by omega), hw, hcon, hk, if_pos rfl]
          simp
        | false =>
          obtain ⟨k, hk⟩ := IH (out ++ [toS r] ++ [toS x]) true r (by omega) (by simp; omega) hr
          refine ⟨k + 2, ?_⟩
          rw [binnacleref07_Add.l0, if_pos e0, if_pos e1, hm, if_pos (by show x.f1 ≥ r.f0; omega), d1, binnacleref07_Add.j1, if_neg (by simp), if_pos (by show x.f0 > r.f1; omega), if_neg (by simp), if_pos (by omega), Option.bind_some, if_pos (by simp; omega), hw, hcon, hrr, hk, if_neg (by simp)]
          simp
      · rw [if_neg c2]
        have d1 : decide ((toS x).f0 ≤ r.f1) = true := decide_eq_true (by show x.f0 ≤ r.f1; omega)
        have hr' : mn r.f0 x.f0 < mx r.f1 x.f1 := by unfold mn mx; split <;> split <;> omega
        obtain ⟨k, hk⟩ := IH out put ⟨mn r.f0 x.f0, mx r.f1 x.f1⟩ (by omega) (by omega) hr'
        refine ⟨k + 3, ?_⟩
        rw [← hk, binnacleref07_Add.l0, if_pos e0, if_pos e1, hm, if_pos (by show x.f1 ≥ r.f0; omega), d1, binnacleref07_Add.j1, if_pos rfl]
        by_cases c3 : x.f0 < r.f0
        · rw [if_pos (show (toS x).f0 < r.f0 from c3), binnacleref07_Add.j2, hw]
          have m1 : mn r.f0 x.f0 = x.f0 := by unfold mn; split <;> omega
          by_cases c4 : x.f1 > r.f1
          · have m2 : mx r.f1 x.f1 = x.f1 := by unfold mx; split <;> omega
            rw [if_pos (show (toS x).f1 > r.f1 from c4), m1, m2]; rfl
          · have m2 : mx r.f1 x.f1 = r.f1 := by unfold mx; split <;> omega
            rw [if_neg (show ¬ (toS x).f1 > r.f1 from c4), m1, m2]; rfl
        · rw [if_neg (show ¬ (toS x).f0 < r.f0 from c3), binnacleref07_Add.j2, hw]
          have m1 : mn r.f0 x.f0 = r.f0 := by unfold mn; split <;> omega
          by_cases c4 : x.f1 > r.f1
          · have m2 : mx r.f1 x.f1 = x.f1 := by unfold mx; split <;> omega
            rw [if_pos (show (toS x).f1 > r.f1 from c4), m1, m2]; rfl
          · have m2 : mx r.f1 x.f1 = r.f1 := by unfold mx; split <;> omega
            rw [if_neg (show ¬ (toS x).f1 > r.f1 from c4), m1, m2]
/-- A set with a range more. -/
def addR (l : List S28) (r : S28) : List S28 := if r.f0 ≥ r.f1 then l else adds l false r
theorem add_f (l : List S28) (hl : l.length ≤ 1000) (hp : ∀ x ∈ l, x.f0 < x.f1) (r : S28) : ∃ k, binnacleref07_Add.f k (l.map toS) r.f0 r.f1 = some ((addR l r).map toS) := by
  unfold addR binnacleref07_Add.f
  by_cases h : r.f0 ≥ r.f1
  · exact ⟨0, by rw [if_pos h, if_pos h]⟩
  · obtain ⟨k, hk⟩ := add_loop l hl hp l.length 0 [] false r (by omega) (by simp) (by omega)
    exact ⟨k, by rw [if_neg h, if_neg h]; simpa using hk⟩
theorem cut_loop (l : List S28) (hl : l.length ≤ 1000) (hp : ∀ x ∈ l, x.f0 < x.f1) (r : S28) (hr : r.f0 < r.f1) : ∀ n i (out : List S45), n + i = l.length → out.length ≤ 2 * i →
    ∃ k, binnacleref07_Cut.l0 k (l.map toS) out i r.f0 r.f1 = some (out ++ (cuts r (l.drop i)).map toS)
  | 0, i, out, h, ho => by
    refine ⟨1, ?_⟩
    rw [binnacleref07_Cut.l0, if_neg (by rw [List.length_map]; omega), List.drop_eq_nil_of_le (by omega)]
    simp [cuts]
  | n + 1, i, out, h, ho => by
    have hil : i < l.length := by omega
    have hx := hp _ (rd_mem l i hil)
    have hw := w64 l i hl hil
    have hm := rd_map l i hil
    have hd := drop_rd l i hil
    have IH := cut_loop l hl hp r hr n (i + 1)
    have e0 : (i : Int) < ((l.map toS).length : Int) := by rw [List.length_map]; omega
    have e1 : (0 : Int) ≤ (i : Int) := by omega
    generalize rd_T28 l i = x at *
    have hcuts : cuts r (l.drop i) = cut1 r x ++ cuts r (l.drop (i + 1)) := by rw [hd]; simp [cuts]
    rw [hcuts]
    by_cases c1 : x.f1 ≤ r.f0
    · obtain ⟨k, hk⟩ := IH (out ++ [toS x]) (by omega) (by simp; omega)
      refine ⟨k + 2, ?_⟩
      have ec : cut1 r x = [x] := by
        unfold cut1
        rw [if_pos (by omega), if_neg (by omega)]
        have : mn x.f1 r.f0 = x.f1 := by unfold mn; split <;> omega
        rw [this]; rfl
      rw [binnacleref07_Cut.l0, if_pos e0, if_pos e1, hm, if_pos (show (toS x).f1 ≤ r.f0 from c1), binnacleref07_Cut.j1, if_pos rfl, if_pos (by omega), hw, show (⟨(toS x).f0, (toS x).f1⟩ : S45) = toS x from rfl, hk, ec]
      simp
    · by_cases c2 : x.f0 ≥ r.f1
      · obtain ⟨k, hk⟩ := IH (out ++ [toS x]) (by omega) (by simp; omega)
        refine ⟨k + 2, ?_⟩
        have ec : cut1 r x = [x] := by
          unfold cut1
          rw [if_neg (by omega), if_pos (by omega)]
          have : mx x.f0 r.f1 = x.f0 := by unfold mx; split <;> omega
          rw [this]; rfl
        rw [binnacleref07_Cut.l0, if_pos e0, if_pos e1, hm, if_neg (show ¬ (toS x).f1 ≤ r.f0 from c1), decide_eq_true (show (toS x).f0 ≥ r.f1 from c2), binnacleref07_Cut.j1, if_pos rfl, if_pos (by omega), hw, show (⟨(toS x).f0, (toS x).f1⟩ : S45) = toS x from rfl, hk, ec]
        simp
      · have m1 : mn x.f1 r.f0 = r.f0 := by unfold mn; split <;> omega
        have m2 : mx x.f0 r.f1 = r.f1 := by unfold mx; split <;> omega
        by_cases c3 : x.f0 < r.f0
        · by_cases c4 : x.f1 > r.f1
          · obtain ⟨k, hk⟩ := IH (out ++ [⟨x.f0, r.f0⟩] ++ [⟨r.f1, x.f1⟩]) (by omega) (by simp; omega)
            refine ⟨k + 2, ?_⟩
            have ec : cut1 r x = [⟨x.f0, r.f0⟩, ⟨r.f1, x.f1⟩] := by unfold cut1; rw [if_pos c3, if_pos c4, m1, m2]; rfl
            rw [binnacleref07_Cut.l0, if_pos e0, if_pos e1, hm, if_neg (show ¬ (toS x).f1 ≤ r.f0 from c1), decide_eq_false (show ¬ (toS x).f0 ≥ r.f1 from c2), binnacleref07_Cut.j1, if_neg (by simp), if_pos (show (toS x).f0 < r.f0 from c3), if_pos (by omega), Option.bind_some, if_pos (show (toS x).f1 > r.f1 from c4), if_pos (by simp; omega), hw, show (⟨(toS x).f0, r.f0⟩ : S45) = ⟨x.f0, r.f0⟩ from rfl, show (⟨r.f1, (toS x).f1⟩ : S45) = ⟨r.f1, x.f1⟩ from rfl, hk, ec]
            simp [toS]
          · obtain ⟨k, hk⟩ := IH (out ++ [⟨x.f0, r.f0⟩]) (by omega) (by simp; omega)
            refine ⟨k + 2, ?_⟩
            have ec : cut1 r x = [⟨x.f0, r.f0⟩] := by unfold cut1; rw [if_pos c3, if_neg c4, m1]; rfl
            rw [binnacleref07_Cut.l0, if_pos e0, if_pos e1, hm, if_neg (show ¬ (toS x).f1 ≤ r.f0 from c1), decide_eq_false (show ¬ (toS x).f0 ≥ r.f1 from c2), binnacleref07_Cut.j1, if_neg (by simp), if_pos (show (toS x).f0 < r.f0 from c3), if_pos (by omega), Option.bind_some, if_neg (show ¬ (toS x).f1 > r.f1 from c4), hw, show (⟨(toS x).f0, r.f0⟩ : S45) = ⟨x.f0, r.f0⟩ from rfl, hk, ec]
            simp [toS]
        · by_cases c4 : x.f1 > r.f1
          · obtain ⟨k, hk⟩ := IH (out ++ [⟨r.f1, x.f1⟩]) (by omega) (by simp; omega)
            refine ⟨k + 2, ?_⟩
            have ec : cut1 r x = [⟨r.f1, x.f1⟩] := by unfold cut1; rw [if_neg c3, if_pos c4, m2]; rfl
            rw [binnacleref07_Cut.l0, if_pos e0, if_pos e1, hm, if_neg (show ¬ (toS x).f1 ≤ r.f0 from c1), decide_eq_false (show ¬ (toS x).f0 ≥ r.f1 from c2), binnacleref07_Cut.j1, if_neg (by simp), if_neg (show ¬ (toS x).f0 < r.f0 from c3), if_pos (show (toS x).f1 > r.f1 from c4), if_pos (by omega), hw, show (⟨r.f1, (toS x).f1⟩ : S45) = ⟨r.f1, x.f1⟩ from rfl, hk, ec]
            simp [toS]
          · obtain ⟨k, hk⟩ := IH out (by omega) (by omega)
            refine ⟨k + 2, ?_⟩
            have ec : cut1 r x = [] := by unfold cut1; rw [if_neg c3, if_neg c4]; rfl
            rw [binnacleref07_Cut.l0, if_pos e0, if_pos e1, hm, if_neg (show ¬ (toS x).f1 ≤ r.f0 from c1), decide_eq_false (show ¬ (toS x).f0 ≥ r.f1 from c2), binnacleref07_Cut.j1, if_neg (by simp), if_neg (show ¬ (toS x).f0 < r.f0 from c3), if_neg (show ¬ (toS x).f1 > r.f1 from c4), hw, hk, ec]
            simp
/-- A set with a range less. -/
def cutR (l : List S28) (r : S28) : List S28 := if r.f0 ≥ r.f1 then l else cuts r l
theorem cut_f (l : List S28) (hl : l.length ≤ 1000) (hp : ∀ x ∈ l, x.f0 < x.f1) (r : S28) : ∃ k, binnacleref07_Cut.f k (l.map toS) r.f0 r.f1 = some ((cutR l r).map toS) := by
  unfold cutR binnacleref07_Cut.f
  by_cases h : r.f0 ≥ r.f1
  · exact ⟨0, by rw [if_pos h, if_pos h]⟩
  · obtain ⟨k, hk⟩ := cut_loop l hl hp r (by omega) l.length 0 [] (by omega) (by simp)
    exact ⟨k, by rw [if_neg h, if_neg h]; simpa using hk⟩
theorem same_loop (l : List S28) (hl : l.length ≤ 1000) : ∀ n i, n + i = l.length → binnaclelaw07_Same.l0 (n + 1) (l.map toS) l l.length i = some true
  | 0, i, h => by rw [binnaclelaw07_Same.l0, if_neg (by omega)]
  | n + 1, i, h => by
    have hil : i < l.length := by omega
    rw [binnaclelaw07_Same.l0, if_pos (by omega), if_pos (by omega), if_pos (by omega), rd_map l i hil, w64 l i hl hil, same_loop l hl n (i + 1) (by omega)]
    simp [binnaclelaw07_Ref.f, toS, hil]
theorem same_f (l : List S28) (hl : l.length ≤ 1000) : binnaclelaw07_Same.f (l.length + 1) l (l.map toS) = some true := by
  unfold binnaclelaw07_Same.f
  rw [if_pos (by simp)]
  exact same_loop l hl l.length 0 (by omega)
def hasB (l : List S28) (n : Int) : Bool := l.any fun x => decide (x.f0 ≤ n) && decide (n < x.f1)
theorem has_loop (l : List S28) (hl : l.length ≤ 1000) (n : Int) : ∀ m i, m + i = l.length → binnacleref07_Has.l0 (m + 1) (l.map toS) n i = some (hasB (l.drop i) n)
  | 0, i, h => by
    rw [binnacleref07_Has.l0, if_neg (by rw [List.length_map]; omega), List.drop_eq_nil_of_le (by omega)]; rfl
  | m + 1, i, h => by
    have hil : i < l.length := by omega
    rw [binnacleref07_Has.l0, if_pos (by rw [List.length_map]; omega), if_pos (by omega), rd_map l i hil, w64 l i hl hil, has_loop l hl n m (i + 1) (by omega), drop_rd l i hil]
    generalize rd_T28 l i = x
    simp only [hasB, List.any_cons]
    by_cases h1 : n ≥ x.f0
    · by_cases h2 : n < x.f1
      · rw [if_pos (show n ≥ (toS x).f0 from h1), if_pos (show n < (toS x).f1 from h2), decide_eq_true (show x.f0 ≤ n from h1), decide_eq_true h2]; rfl
      · rw [if_pos (show n ≥ (toS x).f0 from h1), if_neg (show ¬ n < (toS x).f1 from h2), decide_eq_true (show x.f0 ≤ n from h1), decide_eq_false h2]; rfl
    · rw [if_neg (show ¬ n ≥ (toS x).f0 from h1), decide_eq_false (show ¬ x.f0 ≤ n from h1)]; rfl
theorem has_f (l : List S28) (hl : l.length ≤ 1000) (n : Int) : binnacleref07_Has.f (l.length + 1) (l.map toS) n = some (hasB l n) := by
  unfold binnacleref07_Has.f
  exact has_loop l hl n l.length 0 (by omega)
theorem has_B {l : List S28} (n : Int) : hasB l n = true ↔ mem l n := by
  unfold hasB mem isin
  rw [List.any_eq_true]
  simp
def covB (l : List S28) (r : S28) : Bool := decide (r.f0 ≥ r.f1) || l.any fun x => decide (x.f0 ≤ r.f0) && decide (r.f1 ≤ x.f1)
theorem cov_loop (l : List S28) (hl : l.length ≤ 1000) (r : S28) : ∀ m i, m + i = l.length → binnacleref07_Covers.l0 (m + 1) (l.map toS) i r.f0 r.f1 = some ((l.drop i).any fun x => decide (x.f0 ≤ r.f0) && decide (r.f1 ≤ x.f1))
  | 0, i, h => by
    rw [binnacleref07_Covers.l0, if_neg (by rw [List.length_map]; omega), List.drop_eq_nil_of_le (by omega)]; rfl
  | m + 1, i, h => by
    have hil : i < l.length := by omega
    rw [binnacleref07_Covers.l0, if_pos (by rw [List.length_map]; omega), if_pos (by omega), rd_map l i hil, w64 l i hl hil, cov_loop l hl r m (i + 1) (by omega), drop_rd l i hil]
    generalize rd_T28 l i = x
    simp only [List.any_cons]
    by_cases h1 : r.f0 ≥ x.f0
    · by_cases h2 : r.f1 ≤ x.f1
      · rw [if_pos (show r.f0 ≥ (toS x).f0 from h1), if_pos (show r.f1 ≤ (toS x).f1 from h2), decide_eq_true (show x.f0 ≤ r.f0 from h1), decide_eq_true h2]; rfl
      · rw [if_pos (show r.f0 ≥ (toS x).f0 from h1), if_neg (show ¬ r.f1 ≤ (toS x).f1 from h2), decide_eq_true (show x.f0 ≤ r.f0 from h1), decide_eq_false h2]; rfl
    · rw [if_neg (show ¬ r.f0 ≥ (toS x).f0 from h1), decide_eq_false (show ¬ x.f0 ≤ r.f0 from h1)]; rfl
theorem cov_f (l : List S28) (hl : l.length ≤ 1000) (r : S28) : binnacleref07_Covers.f (l.length + 1) (l.map toS) r.f0 r.f1 = some (covB l r) := by
  unfold binnacleref07_Covers.f covB
  by_cases h : r.f0 ≥ r.f1
  · rw [if_pos h, decide_eq_true h]; rfl
  · rw [if_neg h, decide_eq_false h]
    exact cov_loop l hl r l.length 0 (by omega)
theorem cov_B {l : List S28} (h : NF l) {r : S28} (hr : r.f0 < r.f1) {i : Nat} (hi : Fst l r.f0 i) : (decide (i < l.length) && decide ((rd_T28 l i).f0 ≤ r.f0) && decide ((rd_T28 l i).f1 ≥ r.f1)) = covB l r := by
  rw [Bool.eq_iff_iff, covers_iff h hr hi]
  unfold covB
  rw [decide_eq_false (show ¬ r.f0 ≥ r.f1 by omega), Bool.false_or, List.any_eq_true]
  simp
theorem cov_calls {w : World} {base g : Nat} {A : Option Addr} {c : Nat} {l : List S28} {lim : Int} (h : St w base g A c l lim) (r : S28) (hn : NF l) (hl : l.length ≤ 1000) :
    Calls Try.prog 20 #[.pointer (some ⟨g, 0, none⟩), .agg #[.int .u64 r.f0, .int .u64 r.f1]] w fun e w' => e = .returned (.bool (covB l r)) ∧ Below w.heap.size w w' := by
  refine (covers_calls h r (up_of_nf hn) hl).mono ?_
  rintro e w' ⟨hb, ⟨hr, rfl⟩ | ⟨hr, i, hi, rfl⟩⟩
  · exact ⟨by unfold covB; rw [decide_eq_true hr]; rfl, hb⟩
  · exact ⟨by rw [cov_B hn hr hi], hb⟩
theorem hasb_calls {w : World} {base g : Nat} {A : Option Addr} {c : Nat} {l : List S28} {lim : Int} (h : St w base g A c l lim) (n : Int) (hn : NF l) (hl : l.length ≤ 1000) :
    Calls Try.prog 22 #[.pointer (some ⟨g, 0, none⟩), .int .u64 n] w fun e w' => e = .returned (.bool (hasB l n)) ∧ Below w.heap.size w w' := by
  refine (has_calls h n (up_of_nf hn) hl).mono ?_
  rintro e w' ⟨i, hi, rfl, hb⟩
  refine ⟨?_, hb⟩
  have : (decide (i < l.length) && decide ((rd_T28 l i).f0 ≤ n)) = hasB l n := by rw [Bool.eq_iff_iff, has_iff hn hi, has_B]
  rw [this]
/-- What First answers: the first range that ends behind n, cut. -/
def firstR : List S28 → Int → Option S28
  | [], _ => none
  | x :: l, n => if x.f1 > n then some ⟨mx x.f0 n, x.f1⟩ else firstR l n
theorem first_rd : ∀ (l : List S28) (n : Int) (i : Nat), Fst l n i → firstR l n = if i < l.length then some ⟨mx (rd_T28 l i).f0 n, (rd_T28 l i).f1⟩ else none
  | [], n, i, h => by rw [if_neg (by simp)]; rfl
  | x :: l, n, 0, h => by
    have h1 := h.2.2 0 (Nat.le_refl _) (by simp)
    rw [rd_zero] at h1
    rw [if_pos (by simp), rd_zero]
    unfold firstR
    rw [if_pos (by omega)]
  | x :: l, n, i + 1, h => by
    have h1 := h.2.1 0 (by omega)
    rw [rd_zero] at h1
    have h2 : Fst l n i := ⟨by have := h.1; simp at this; omega, fun j hj => by have := h.2.1 (j + 1) (by omega); rwa [rd_succ] at this, fun j hj hl => by have := h.2.2 (j + 1) (by omega) (by simpa using hl); rwa [rd_succ] at this⟩
    unfold firstR
    rw [if_neg (by omega), first_rd l n i h2, rd_succ]
    simp
theorem cuts_more : ∀ (l : List S28) (r : S28), NF l → r.f0 < r.f1 → (cuts r l).length ≤ l.length + 1
  | [], _, _, _ => by simp [cuts]
  | x :: l, r, h, hr => by
    have e : cuts r (x :: l) = cut1 r x ++ cuts r l := by simp [cuts]
    rw [e, List.length_append, List.length_cons]
    by_cases c : x.f1 > r.f1
    · have h1 : ∀ l' : List S28, (∀ y ∈ l', r.f1 < y.f0) → (cuts r l').length ≤ l'.length := by
        intro l'
        induction l' with
        | nil => intro _; simp [cuts]
        | cons y l' ih =>
          intro hy
          have hy0 := hy y List.mem_cons_self
          have e : cuts r (y :: l') = cut1 r y ++ cuts r l' := by simp [cuts]
          rw [e, List.length_append, List.length_cons]
          have := ih (fun z hz => hy z (List.mem_cons_of_mem _ hz))
          have h2 : (cut1 r y).length ≤ 1 := by
            unfold cut1
            rw [if_neg (by omega)]
            split <;> simp
          omega
      have h2 := h1 l (fun y hy => by have := h.2.1 y hy; omega)
      have h3 : (cut1 r x).length ≤ 2 := by unfold cut1; rw [if_pos c]; split <;> simp
      omega
    · have ih := cuts_more l r h.2.2 hr
      have h3 : (cut1 r x).length ≤ 1 := by unfold cut1; rw [if_neg c]; split <;> simp
      omega
theorem add_nf (l : List S28) (r : S28) (h : NF l) : NF (addR l r) := by
  unfold addR; split
  · exact h
  · exact adds_nf l r h (by omega)
theorem add_bd (l : List S28) (r : S28) (h : Bd l) (h0 : 0 ≤ r.f0) (h1 : r.f1 ≤ 18446744073709551615) : Bd (addR l r) := by
  unfold addR; split
  · exact h
  · exact adds_bd l false r h h0 h1
theorem add_len (l : List S28) (r : S28) : (addR l r).length ≤ l.length + 1 := by
  unfold addR; split
  · omega
  · exact adds_len l false r
theorem cut_nf (l : List S28) (r : S28) (h : NF l) : NF (cutR l r) := by
  unfold cutR; split
  · exact h
  · exact cuts_nf r (by omega) l h
theorem cut_len (l : List S28) (r : S28) (h : NF l) : (cutR l r).length ≤ l.length + 1 := by
  unfold cutR; split
  · omega
  · exact cuts_more l r h (by omega)
theorem cut_bd (l : List S28) (r : S28) (h : Bd l) (hn : NF l) : Bd (cutR l r) := by
  unfold cutR; split
  · exact h
  · rename_i hr
    intro x hx
    obtain ⟨y, hy, hx⟩ := List.mem_flatMap.1 hx
    have h1 := cut1_in (nf_pos hn y hy) hx
    have := h y hy
    omega
theorem drop_nf : ∀ (k : Nat) {l : List S28}, NF l → NF (l.drop k)
  | 0, _, h => h
  | _ + 1, [], h => h
  | k + 1, _ :: _, h => drop_nf k h.2.2
theorem drop_bd (k : Nat) {l : List S28} (h : Bd l) : Bd (l.drop k) := fun x hx => h x (List.mem_of_mem_drop hx)
end Go.Proofs.Ytiohjnhbapbglaa.PlaysPure
