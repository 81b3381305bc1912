/- Plain laws of the tables of kinds. No program in sight. -/
import Derived.Test.YtclmnpdabnogkaaEvTab
import Derived.Test.YtclmnpdabnogkaaPEventChecksx2
namespace Go.Proofs.Ytclmnpdabnogkaa.EvPure
open Go.RowKit Go.Proofs.Ytclmnpdabnogkaa.PEventChecks Go.Proofs.YtclmnpdabnogkaaW.PrintWords Go.Proofs.YtclmnpdabnogkaaW.PrintLast Go.Proofs.YtclmnpdabnogkaaW.PrintMore
set_option maxRecDepth 20000

def NS : List (List ByteArray) := (binnaclelaw24_names.f).getD []
def SH : List S27 := (event_shapes.f).getD []
theorem NS_eq : binnaclelaw24_names.f = some NS := rfl
theorem SH_eq : event_shapes.f = some SH := rfl
theorem NS_len : NS.length = 19 := rfl
theorem SH_len : SH.length = 20 := rfl
/-- Bytes' order of a string: its own equality. -/
theorem bytes_eq (a b : ByteArray) : (a.toList = b.toList) ↔ a = b := by
  constructor
  · intro h
    have : a.data.toList = b.data.toList := by
      simpa [ByteArray.toList_eq] using h
    cases a; cases b; simp_all
  · rintro rfl; rfl

theorem of_in (a : Int) (h1 : 1 ≤ a) (h2 : a ≤ 19) : event_Of.f a = some ((rd_T27 SH a).f0, (rd_T27 SH a).f1, (rd_T27 SH a).f2, true) := by
  unfold event_Of.f
  rw [if_neg (by omega), if_neg (by omega), SH_eq, Option.bind_some, if_pos (by omega), if_pos (by rw [SH_len]; omega)]
theorem of_out (a : Int) (h : ¬ (1 ≤ a ∧ a ≤ 19)) : event_Of.f a = some (⟨#[]⟩, [], false, false) := by
  unfold event_Of.f
  by_cases h1 : a < 1
  · rw [if_pos h1]
  · rw [if_neg h1, if_pos (by omega)]
/-- The name of a kind (by the law's own list), how many numbers, whether bytes. -/
def nm (i : Nat) : ByteArray := rdOf ByteArray.empty (rd_L1 NS i) 0
def mn (i : Nat) : Int := ((rd_T27 SH ((i : Int) + 1)).f1.length : Int)
def dt (i : Nat) : Bool := (rd_T27 SH ((i : Int) + 1)).f2
theorem nm_fact : ∀ i : Nat, i < 19 → (rd_T27 SH ((i : Int) + 1)).f0 = nm i := by decide
theorem row_long : ∀ i : Nat, i < 19 → mn i < ((rd_L1 NS (i : Int)).length : Int) := by decide
theorem row_short : ∀ i : Nat, i < 19 → mn i ≤ 7 ∨ mn i = 8 := by decide
theorem row_word : ∀ i : Nat, i < 19 → ∀ j, j < (rd_T27 SH ((i : Int) + 1)).f1.length → rdOf ByteArray.empty (rd_T27 SH ((i : Int) + 1)).f1 (j : Int) = rdOf ByteArray.empty (rd_L1 NS (i : Int)) ((j : Int) + 1) := by decide
theorem row_end : ∀ i : Nat, i < 19 → (if (rdOf ByteArray.empty (rd_L1 NS (i : Int)) (((rd_L1 NS (i : Int)).length : Int) - 1)).data.toList = [43] then ((((rd_L1 NS (i : Int)).length : Int) - 2), true) else ((((rd_L1 NS (i : Int)).length : Int) - 1), false)) = (mn i, dt i) := by decide
theorem row_len : ∀ i : Nat, i < 19 → 1 ≤ (rd_L1 NS (i : Int)).length ∧ (rd_L1 NS (i : Int)).length ≤ 9 := by decide
theorem many_in (i : Nat) (hi : i < 19) : binnaclelaw24_Many.f 1 ((i : Int) + 1) = some (mn i, dt i) := by
  unfold binnaclelaw24_Many.f
  rw [NS_eq, Option.bind_some, binnaclelaw24_Many.j0, binnaclelaw24_Many.j0]
  simp only [ByteArray.toList_eq]
  have hl := row_len i hi
  have w1 : wrap64 (((rd_L1 NS (i : Int)).length : Int) - 1) = ((rd_L1 NS (i : Int)).length : Int) - 1 := by unfold wrap64; omega
  have w2 : wrap64 (((rd_L1 NS (i : Int)).length : Int) - 2) = ((rd_L1 NS (i : Int)).length : Int) - 2 := by unfold wrap64; omega
  rw [if_neg (by omega), if_neg (by rw [NS_len]; simp only [decide_eq_true_eq, wrap64]; omega), show ((i : Int) + 1 - 1) % 256 = i by omega, if_pos (by omega), if_pos (by rw [NS_len]; omega), w1, w2, if_pos (by omega), if_pos (by omega), ← row_end i hi]
  split <;> rfl
theorem many_out (a : Int) (h0 : 0 ≤ a) (h9 : a ≤ 255) (h : ¬ (1 ≤ a ∧ a ≤ 19)) : binnaclelaw24_Many.f 1 a = some (-1, false) := by
  simp only [binnaclelaw24_Many.f, binnaclelaw24_Many.j0, NS_eq, Option.bind_some, ByteArray.toList_eq]
  by_cases h1 : a < 1
  · rw [if_pos h1, if_pos trivial]
  · rw [if_neg h1, if_pos]
    rw [NS_len]; simp only [decide_eq_true_eq, wrap64]; omega
/-- What Named finds, from a kind on. -/
def fnd (s : ByteArray) : Nat → Nat → Int × Bool
  | 0, _ => (0, false)
  | m + 1, i => if nm i = s then (((i : Int) + 1), true) else fnd s m (i + 1)
theorem named_from (s : ByteArray) : ∀ (m i : Nat), m + i = 19 → event_Named.l0 (m + 1) s SH 20 ((i : Int) + 1) = some (fnd s m i) := by
  intro m
  induction m with
  | zero =>
    intro i h
    have : i = 19 := by omega
    subst this
    rfl
  | succ m ih =>
    intro i h
    rw [event_Named.l0, if_pos (by omega), if_pos (by omega), if_pos (by rw [SH_len]; omega), if_pos (by omega), nm_fact i (by omega)]
    by_cases hs : nm i = s
    · rw [if_pos (by rw [hs]), fnd, if_pos hs]
      congr 2; omega
    · rw [if_neg (by rw [bytes_eq]; exact hs), fnd, if_neg hs]
      have := ih (i + 1) (by omega)
      rw [← this]
      congr 1
      unfold wrap64; push_cast; omega
theorem named (s : ByteArray) : event_Named.f 21 s = some (fnd s 19 0) := by
  unfold event_Named.f
  rw [SH_eq, Option.bind_some, event_Named.l0, if_pos (by rw [SH_len]; omega), if_pos (by omega), if_pos (by rw [SH_len]; omega), if_neg (by omega)]
  rw [SH_len, show wrap64 (0 + 1) = ((0 : Nat) : Int) + 1 from by unfold wrap64; omega]
  exact named_from s 19 0 rfl
theorem fnd_no (s : ByteArray) : ∀ (m i : Nat), (fnd s m i).2 = false → (fnd s m i).1 = 0
  | 0, _, _ => rfl
  | m + 1, i, h => by
    unfold fnd at h ⊢
    by_cases hs : nm i = s
    · rw [if_pos hs] at h; cases h
    · rw [if_neg hs] at h ⊢; exact fnd_no s m (i + 1) h
/-- Whether one of the first names is this one. -/
def knw (s : ByteArray) (i : Nat) : Bool := (List.range i).any fun j => decide (nm j = s)
theorem knw_succ (s : ByteArray) (i : Nat) : knw s (i + 1) = (knw s i || decide (nm i = s)) := by simp [knw, List.range_succ]
theorem fnd_knw (s : ByteArray) : ∀ (m i : Nat), knw s i = false → (fnd s m i).2 = knw s (i + m)
  | 0, i, h => by simp [fnd, h]
  | m + 1, i, h => by
    unfold fnd
    by_cases hs : nm i = s
    · rw [if_pos hs]
      have h1 : knw s (i + 1) = true := by simp [knw_succ, hs]
      have : ∀ k, knw s (i + 1 + k) = true := by
        intro k
        induction k with
        | zero => exact h1
        | succ k ih => rw [← Nat.add_assoc, knw_succ, ih]; rfl
      have := this m
      rw [show i + (m + 1) = i + 1 + m by omega, this]
    · rw [if_neg hs, fnd_knw s m (i + 1) (by simp [knw_succ, h, hs])]
      congr 1; omega
theorem named_known (s : ByteArray) : (fnd s 19 0).2 = knw s 19 := by
  rw [fnd_knw s 19 0 rfl]
/-- Each name is its own kind's. -/
theorem named_own : ∀ i : Nat, i < 19 → fnd (nm i) 19 0 = ((i : Int) + 1, true) := by decide
theorem awake : binnaclelaw24_Awake.f 21 = some true := by
  unfold binnaclelaw24_Awake.f
  rw [of_in 1 (by omega) (by omega), Option.bind_some, named]
  rw [show (⟨#[108, 111, 103, 95, 116, 114, 117, 110, 99, 97, 116, 101, 100]⟩ : ByteArray) = nm 18 from rfl, named_own 18 (by omega)]
  simp only [ByteArray.toList_eq]
  rfl
end Go.Proofs.Ytclmnpdabnogkaa.EvPure
