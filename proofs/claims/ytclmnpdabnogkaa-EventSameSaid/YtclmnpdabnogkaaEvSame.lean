/- When two events are the same, and the call of Same. -/
import Derived.Test.YtclmnpdabnogkaaPEventSamex2
namespace Go.Proofs.Ytclmnpdabnogkaa.EvSame
open Go.RowKit Go.Proofs.Ytclmnpdabnogkaa.PEventSame Go.Proofs.YtclmnpdabnogkaaW.PrintWords Go.Proofs.YtclmnpdabnogkaaW.PrintLast Go.Proofs.YtclmnpdabnogkaaW.PrintMore

/-- The first j numbers of two lists are the same. -/
def pre (l m : List Int) (j : Nat) : Bool := (List.range j).all fun i => decide (rd l i = rd m i)
theorem pre_zero (l m : List Int) : pre l m 0 = true := rfl
theorem pre_succ (l m : List Int) (j : Nat) : pre l m (j + 1) = (pre l m j && decide (rd l j = rd m j)) := by simp [pre, List.range_succ]
theorem pre_mono (l m : List Int) {j k : Nat} (h : pre l m k = true) (hj : j ≤ k) : pre l m j = true := by
  simp only [pre, List.all_eq_true, List.mem_range] at h ⊢
  exact fun i hi => h i (by omega)
/-- All but the numbers. -/
def hd (k a : Int) (l2 l3 : List Int) (k' a' : Int) (m2 m3 : List Int) : Bool := decide (k = k') && (decide (a = a') && (decide (l2.length = m2.length) && ((strOfNums l3).toList == (strOfNums m3).toList)))
def sm (k a : Int) (l2 l3 : List Int) (k' a' : Int) (m2 m3 : List Int) : Bool := hd k a l2 l3 k' a' m2 m3 && pre l2 m2 l2.length
theorem loop (l m : List Int) (hl : l.length = m.length) (h : l.length ≤ 1000000) (x y : Int) (z : List Int) : ∀ n j, n + j = l.length → pre l m j = true → event_Same.l0 (n + 1) l l.length j x y m z = some (pre l m l.length)
  | 0, j, hj, hp => by
    rw [event_Same.l0, if_neg (by omega), ← hp]; congr 2; omega
  | n + 1, j, hj, hp => by
    rw [event_Same.l0, if_pos (by omega), if_pos (by omega), if_pos (by omega), if_pos (by omega)]
    by_cases he : rd l j = rd m j
    · rw [if_pos he]
      have hp1 : pre l m (j + 1) = true := by rw [pre_succ, hp]; simp [he]
      have := loop l m hl h x y z n (j + 1) (by omega) hp1
      rw [← this]
      congr 1
      unfold wrap64; omega
    · rw [if_neg he]
      congr 1
      cases hq : pre l m l.length with
      | false => rfl
      | true =>
        have := pre_mono l m (j := j + 1) hq (by omega)
        rw [pre_succ] at this
        simp [he] at this
theorem same_f (k a : Int) (l2 l3 : List Int) (k' a' : Int) (m2 m3 : List Int) (h : l2.length ≤ 1000000) : event_Same.f (l2.length + 2) k a l2 l3 k' a' m2 m3 = some (sm k a l2 l3 k' a' m2 m3) := by
  unfold event_Same.f sm hd
  by_cases h1 : k = k'
  · rw [if_pos h1]
    by_cases h2 : a = a'
    · rw [if_pos h2]
      by_cases h3 : l2.length = m2.length
      · rw [if_pos (by omega), event_Same.j0]
        by_cases h4 : (strOfNums l3).toList = (strOfNums m3).toList
        · rw [if_neg (by simp [h4])]
          have := loop l2 m2 h3 h k' a' m3 l2.length 0 (by omega) rfl
          rw [Int.natCast_zero] at this
          rw [this]
          simp [h1, h2, h3, h4]
        · rw [if_pos (by simpa using h4)]
          simp [h4]
      · rw [if_neg (by omega), event_Same.j0, if_pos rfl]
        simp [h3]
    · rw [if_neg h2, event_Same.j0, if_pos rfl]
      simp [h2]
  · rw [if_neg h1, event_Same.j0, if_pos rfl]
    simp [h1]
theorem pre_self (l : List Int) (j : Nat) : pre l l j = true := by simp [pre]
theorem sm_self (k a : Int) (l2 l3 : List Int) : sm k a l2 l3 k a l2 l3 = true := by simp [sm, hd, pre_self]
theorem sm_at {k a : Int} {l2 l3 : List Int} {a' : Int} (h : a ≠ a') : sm k a l2 l3 k a' l2 l3 = false := by simp [sm, hd, h]
theorem sm_kind {k a : Int} {l2 l3 : List Int} {k' : Int} (h : k ≠ k') : sm k a l2 l3 k' a l2 l3 = false := by simp [sm, hd, h]
theorem sm_more {k a : Int} {l2 l3 : List Int} (x : Int) : sm k a l2 l3 k a (l2 ++ [x]) l3 = false := by simp [sm, hd]
theorem sm_data {k a : Int} {l2 l3 : List Int} (x : Int) : sm k a l2 l3 k a l2 (l3 ++ [x]) = false := by
  have : (strOfNums l3).toList ≠ (strOfNums (l3 ++ [x])).toList := by
    intro h
    have := congrArg List.length h
    rw [ByteArray.toList_eq, ByteArray.toList_eq, strOfNums_data, strOfNums_data] at this
    simp at this
  simp [sm, hd, this]
theorem sm_first {k a : Int} {l2 l3 m2 : List Int} (h0 : 0 < l2.length) (h : rd l2 0 ≠ rd m2 0) : sm k a l2 l3 k a m2 l3 = false := by
  have : pre l2 m2 l2.length = false := by
    cases hq : pre l2 m2 l2.length with
    | false => rfl
    | true =>
      have := pre_mono l2 m2 (j := 1) hq (by omega)
      rw [pre_succ, pre_zero] at this
      simp [h] at this
  simp [sm, this]
theorem same_calls (k a : Int) (A2 A3 : Option Addr) (c2 c3 : Nat) (l2 l3 : List Int) (k' a' : Int) (B2 B3 : Option Addr) (d2 d3 : Nat) (m2 m3 : List Int) (w : World)
    (h : l2.length ≤ 1000000) (h2 : (Kd.int .u64).C w A2 l2.length l2) (hc2 : l2.length ≤ c2) (h3 : (Kd.int .u8).C w A3 l3.length l3) (hc3 : l3.length ≤ c3)
    (g2 : (Kd.int .u64).C w B2 m2.length m2) (hd2 : m2.length ≤ d2) (g3 : (Kd.int .u8).C w B3 m3.length m3) (hd3 : m3.length ≤ d3) :
    Calls Try.prog 15 #[.agg #[.int .u8 k, .int .u64 a, .slice A2 l2.length c2, .slice A3 l3.length c3], .agg #[.int .u8 k', .int .u64 a', .slice B2 m2.length d2, .slice B3 m3.length d3]] w fun e w' => e = .returned (.bool (sm k a l2 l3 k' a' m2 m3)) ∧ Below w.heap.size w w' :=
  event_Same.calls _ k a A2 c2 l2 A3 c3 l3 k' a' B2 d2 m2 B3 d3 m3 _ w h2 hc2 h3 hc3 g2 hd2 g3 hd3 (same_f k a l2 l3 k' a' m2 m3 h)
/-- What Num answers. -/
def nu (l : List Int) (i : Int) : Int := if 0 ≤ i ∧ i < l.length then rd l i else 0
theorem num_calls (k a : Int) (A2 A3 : Option Addr) (c2 c3 : Nat) (l2 l3 : List Int) (i : Int) (w : World)
    (h2 : (Kd.int .u64).C w A2 l2.length l2) (hc2 : l2.length ≤ c2) (h3 : (Kd.int .u8).C w A3 l3.length l3) (hc3 : l3.length ≤ c3) :
    Calls Try.prog 16 #[.agg #[.int .u8 k, .int .u64 a, .slice A2 l2.length c2, .slice A3 l3.length c3], .int .i64 i] w fun e w' => e = .returned (.int .u64 (nu l2 i)) ∧ Below w.heap.size w w' := by
  refine event_Event_Num.calls k a A2 c2 l2 A3 c3 l3 i _ w h2 hc2 h3 hc3 ?_
  unfold event_Event_Num.f nu
  by_cases h0 : i < 0
  · rw [if_pos h0, if_neg (by omega)]
  · rw [if_neg h0]
    by_cases h1 : i ≥ (l2.length : Int)
    · rw [if_pos h1, if_neg (by omega)]
    · rw [if_neg h1, if_pos (by omega), if_pos (by omega), if_pos (by omega)]
end Go.Proofs.Ytclmnpdabnogkaa.EvSame
