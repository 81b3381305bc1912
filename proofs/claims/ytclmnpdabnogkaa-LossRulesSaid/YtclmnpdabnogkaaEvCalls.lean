/- The calls of the tables of kinds, as the walks use them. No condition but those written. -/
import Derived.Test.YtclmnpdabnogkaaEvPure
namespace Go.Proofs.Ytclmnpdabnogkaa.EvCalls
open Go.RowKit Go.Proofs.Ytclmnpdabnogkaa.PEventChecks Go.Proofs.Ytclmnpdabnogkaa.EvPure Go.Proofs.YtclmnpdabnogkaaW.PrintWords Go.Proofs.YtclmnpdabnogkaaW.PrintLast Go.Proofs.YtclmnpdabnogkaaW.PrintMore

theorem awake_calls (w : World) : Calls Try.prog 8 #[] w fun e w' => e = .returned (.bool true) ∧ Below w.heap.size w w' :=
  binnaclelaw24_Awake.calls 21 true w awake
theorem names_calls (w : World) : Calls Try.prog 9 #[] w fun e w' => ∃ A c, e = .returned (.slice A 19 c) ∧ 19 ≤ c ∧ Kd.C (Kd.slice 9 Kd.string) w' A 19 NS ∧ Below w.heap.size w w' := by
  refine (binnaclelaw24_names.calls NS w NS_eq).mono ?_
  rintro e w1 ⟨v, rfl, hv, hb⟩
  obtain ⟨A, c, rfl, h1, h2⟩ := Kd.N_reads hv
  rw [NS_len] at h1 h2 ⊢
  exact ⟨A, c, rfl, h1, h2, hb⟩
theorem of_calls (a : Int) (h1 : 1 ≤ a) (h2 : a ≤ 19) (w : World) : Calls Try.prog 10 #[.int .u8 a] w fun e w' => ∃ A c, e = .returned (.tuple #[.agg #[.string (rd_T27 SH a).f0, .slice A (rd_T27 SH a).f1.length c, .bool (rd_T27 SH a).f2], .bool true]) ∧ (rd_T27 SH a).f1.length ≤ c ∧ Kd.string.C w' A (rd_T27 SH a).f1.length (rd_T27 SH a).f1 ∧ Below w.heap.size w w' := by
  refine (event_Of.calls a _ _ _ _ w (of_in a h1 h2)).mono ?_
  rintro e w1 ⟨v, rfl, hv, hb⟩
  obtain ⟨A, c, rfl, h3, h4⟩ := hv
  exact ⟨A, c, rfl, h3, Kd.F_now h4, hb⟩
theorem of_none (a : Int) (h : ¬ (1 ≤ a ∧ a ≤ 19)) (w : World) : Calls Try.prog 10 #[.int .u8 a] w fun e w' => ∃ A c, e = .returned (.tuple #[.agg #[.string ⟨#[]⟩, .slice A 0 c, .bool false], .bool false]) ∧ Below w.heap.size w w' := by
  refine (event_Of.calls a _ _ _ _ w (of_out a h)).mono ?_
  rintro e w1 ⟨v, rfl, hv, hb⟩
  obtain ⟨A, c, rfl, h3, h4⟩ := hv
  exact ⟨A, c, rfl, hb⟩
theorem of_any (a : Int) (w : World) : Calls Try.prog 10 #[.int .u8 a] w fun e w' => ∃ A c f0 n f2 ok, e = .returned (.tuple #[.agg #[.string f0, .slice A n c, .bool f2], .bool ok]) ∧ (ok = true ↔ 1 ≤ a ∧ a ≤ 19) ∧ (ok = false → f0 = ⟨#[]⟩ ∧ n = 0) ∧ Below w.heap.size w w' := by
  by_cases h : 1 ≤ a ∧ a ≤ 19
  · refine (of_calls a h.1 h.2 w).mono ?_
    rintro e w1 ⟨A, c, rfl, _, _, hb⟩
    exact ⟨A, c, _, _, _, true, rfl, by simp [h], by simp, hb⟩
  · refine (of_none a h w).mono ?_
    rintro e w1 ⟨A, c, rfl, hb⟩
    exact ⟨A, c, _, _, _, false, rfl, by simp [h], by simp, hb⟩
theorem named_calls (s : ByteArray) (w : World) : Calls Try.prog 11 #[.string s] w fun e w' => e = .returned (.tuple #[.int .u8 (fnd s 19 0).1, .bool (fnd s 19 0).2]) ∧ Below w.heap.size w w' :=
  event_Named.calls 21 s _ _ w (named s)
theorem named_any (s : ByteArray) (w : World) : Calls Try.prog 11 #[.string s] w fun e w' => ∃ n, e = .returned (.tuple #[.int .u8 n, .bool (knw s 19)]) ∧ (knw s 19 = false → n = 0) ∧ Below w.heap.size w w' := by
  refine (named_calls s w).mono ?_
  rintro e w1 ⟨rfl, hb⟩
  rw [named_known]
  exact ⟨_, rfl, fun h => fnd_no s 19 0 (by rw [named_known]; exact h), hb⟩
theorem named_own_calls (i : Nat) (hi : i < 19) (w : World) : Calls Try.prog 11 #[.string (nm i)] w fun e w' => e = .returned (.tuple #[.int .u8 ((i : Int) + 1), .bool true]) ∧ Below w.heap.size w w' := by
  have h := named_calls (nm i) w
  rw [named_own i hi] at h
  exact h
theorem many_calls (i : Nat) (hi : i < 19) (w : World) : Calls Try.prog 12 #[.int .u8 ((i : Int) + 1)] w fun e w' => e = .returned (.tuple #[.int .i64 (mn i), .bool (dt i)]) ∧ Below w.heap.size w w' :=
  binnaclelaw24_Many.calls 1 _ _ _ w (many_in i hi)
theorem many_none (a : Int) (h0 : 0 ≤ a) (h9 : a ≤ 255) (h : ¬ (1 ≤ a ∧ a ≤ 19)) (w : World) : Calls Try.prog 12 #[.int .u8 a] w fun e w' => e = .returned (.tuple #[.int .i64 (-1), .bool false]) ∧ Below w.heap.size w w' :=
  binnaclelaw24_Many.calls 1 _ _ _ w (many_out a h0 h9 h)
end Go.Proofs.Ytclmnpdabnogkaa.EvCalls
