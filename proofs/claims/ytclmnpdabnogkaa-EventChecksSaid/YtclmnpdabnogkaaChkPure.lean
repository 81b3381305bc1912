/- What Check answers, told by the kinds' tables. No condition. -/
import Derived.Test.YtclmnpdabnogkaaEvChk
import Derived.Test.YtclmnpdabnogkaaEvCalls
namespace Go.Proofs.Ytclmnpdabnogkaa.ChkPure
open Go.RowKit Go.Proofs.Ytclmnpdabnogkaa.PEventChecks Go.Proofs.Ytclmnpdabnogkaa.EvPure Go.Proofs.Ytclmnpdabnogkaa.EvCalls Go.Proofs.YtclmnpdabnogkaaW.PrintWords Go.Proofs.YtclmnpdabnogkaaW.PrintLast Go.Proofs.YtclmnpdabnogkaaW.PrintMore

/-- Is one of the first j numbers too great? -/
def gt (l : List Int) (j : Nat) : Bool := (l.take j).any fun n => decide (4611686018427387903 < n)
theorem gt_succ (l : List Int) (j : Nat) (h : j < l.length) : gt l (j + 1) = (gt l j || decide (4611686018427387903 < rd l j)) := by
  unfold gt rd
  rw [List.take_add_one, List.any_append, List.getElem?_eq_getElem h, List.getD_eq_getElem?_getD, Int.toNat_natCast, List.getElem?_eq_getElem h]
  simp
/-- What is wanted of an event of a kind with m numbers (below 0: no such kind), d: whether bytes. -/
def wt (m : Int) (d : Bool) (a : Int) (l2 l3 : List Int) : Int :=
  if m < 0 then 5 else if a > 1125899906842624 then 21 else if (l2.length : Int) ≠ m then 6 else if (l3.length : Int) > 20 ∨ (d = false ∧ (l3.length : Int) > 0) then 4 else if gt l2 l2.length = true then 2 else 0

theorem loop (l : List Int) (hl : l.length ≤ 1000) : ∀ n j, n + j = l.length → gt l j = false → event_Event_Check.l0 (n + 1) l l.length j = some (if gt l l.length = true then 2 else 0)
  | 0, j, hj, hg => by
    obtain rfl : j = l.length := by omega
    rw [event_Event_Check.l0, if_neg (by omega), hg]
    rfl
  | n + 1, j, hj, hg => by
    rw [event_Event_Check.l0, if_pos (by omega), if_pos (by omega), if_pos (by omega)]
    have hs := gt_succ l j (by omega)
    rw [hg, Bool.false_or] at hs
    by_cases h : rd l j > 4611686018427387903
    · rw [if_pos h]
      have h1 : gt l (j + 1) = true := by rw [hs]; simpa using h
      have h2 : gt l l.length = true := by
        unfold gt at h1 ⊢
        rw [List.take_length]
        obtain ⟨x, hx, hp⟩ := List.any_eq_true.1 h1
        exact List.any_eq_true.2 ⟨x, List.mem_of_mem_take hx, hp⟩
      rw [if_pos h2]
    · rw [if_neg h]
      have h1 : gt l (j + 1) = false := by rw [hs]; simpa using h
      rw [show wrap64 ((j : Int) + 1) = ((j + 1 : Nat) : Int) by unfold wrap64; omega]
      exact loop l hl n (j + 1) (by omega) h1
theorem j0 (k a : Int) (l2 l3 : List Int) (hl : l2.length ≤ 1000) : event_Event_Check.j0 (l2.length + 2) k a l2 l3 = some (if gt l2 l2.length = true then 2 else 0) := by
  rw [event_Event_Check.j0]
  exact loop l2 hl l2.length 0 (by omega) (by simp [gt])
theorem chk_in (t : Nat) (ht : t < 19) (a : Int) (l2 l3 : List Int) (hl : l2.length ≤ 1000) : event_Event_Check.f (l2.length + 2) (t + 1) a l2 l3 = some (wt (EvPure.mn t) (dt t) a l2 l3) := by
  unfold event_Event_Check.f wt
  rw [of_in _ (by omega) (by omega), Option.bind_some]
  have h0 : ¬ EvPure.mn t < 0 := by unfold EvPure.mn; omega
  rw [if_neg h0]
  simp only [if_true]
  split
  · rfl
  have e : ((rd_T27 SH ((t : Int) + 1)).f1.length : Int) = EvPure.mn t := rfl
  have e2 : (rd_T27 SH ((t : Int) + 1)).f2 = dt t := rfl
  simp only [e, e2, j0 _ _ _ _ hl]
  generalize (if gt l2 l2.length = true then (2 : Int) else 0) = r
  generalize (l2.length : Int) = p
  generalize (l3.length : Int) = q
  generalize EvPure.mn t = m
  by_cases h1 : p = m <;> by_cases h2 : q > 20 <;> by_cases h3 : q > 0 <;> cases dt t <;> simp [h1, h2, h3]
theorem chk_out (k : Int) (h : ¬ (1 ≤ k ∧ k ≤ 19)) (a : Int) (l2 l3 : List Int) : event_Event_Check.f (l2.length + 2) k a l2 l3 = some (wt (-1) false a l2 l3) := by
  unfold event_Event_Check.f wt
  rw [of_out _ h, Option.bind_some]
  simp
/-- How many numbers a kind has, and whether bytes. -/
def MC (k m : Int) (d : Bool) : Prop := (∃ t : Nat, t < 19 ∧ k = t + 1 ∧ m = EvPure.mn t ∧ d = dt t) ∨ (¬ (1 ≤ k ∧ k ≤ 19) ∧ m = -1 ∧ d = false)
theorem many_all (k : Int) (h0 : 0 ≤ k) (h9 : k ≤ 255) (w : World) : Calls Try.prog 12 #[.int .u8 k] w fun e w' => ∃ m d, e = .returned (.tuple #[.int .i64 m, .bool d]) ∧ MC k m d ∧ Below w.heap.size w w' := by
  by_cases h : 1 ≤ k ∧ k ≤ 19
  · obtain ⟨t, rfl⟩ : ∃ t : Nat, k = t + 1 := ⟨(k - 1).toNat, by omega⟩
    refine (many_calls t (by omega) w).mono ?_
    rintro e w' ⟨rfl, hb⟩
    exact ⟨_, _, rfl, .inl ⟨t, by omega, rfl, rfl, rfl⟩, hb⟩
  · refine (many_none k h0 h9 h w).mono ?_
    rintro e w' ⟨rfl, hb⟩
    exact ⟨_, _, rfl, .inr ⟨h, rfl, rfl⟩, hb⟩
theorem check_calls (k a : Int) (A2 A3 : Option Addr) (c2 c3 : Nat) (l2 l3 : List Int) (m : Int) (d : Bool) (w : World) (h2 : (Kd.int .u64).C w A2 l2.length l2) (hc2 : l2.length ≤ c2) (h3 : (Kd.int .u8).C w A3 l3.length l3) (hc3 : l3.length ≤ c3) (hl : l2.length ≤ 1000) (hm : MC k m d) :
    Calls Try.prog 17 #[.agg #[.int .u8 k, .int .u64 a, .slice A2 l2.length c2, .slice A3 l3.length c3]] w fun e w' => e = .returned (.int .i64 (wt m d a l2 l3)) ∧ Below w.heap.size w w' := by
  rcases hm with ⟨t, ht, rfl, rfl, rfl⟩ | ⟨h, rfl, rfl⟩
  · exact event_Event_Check.calls _ _ _ _ _ _ _ _ _ _ w h2 hc2 h3 hc3 (chk_in t ht a l2 l3 hl)
  · exact event_Event_Check.calls _ _ _ _ _ _ _ _ _ _ w h2 hc2 h3 hc3 (chk_out k h a l2 l3)
end Go.Proofs.Ytclmnpdabnogkaa.ChkPure
