/- Light of one or two events. -/
import Derived.Test.YtclmnpdabnogkaaPEventChecksx2
import Derived.Test.YtclmnpdabnogkaaWRepsOne
namespace Go.Proofs.Ytclmnpdabnogkaa.EvLight
open Go.RowKit Go.Proofs.Ytclmnpdabnogkaa.PEventChecks Go.Proofs.YtclmnpdabnogkaaW.PrintWords Go.Proofs.YtclmnpdabnogkaaW.PrintLast Go.Proofs.YtclmnpdabnogkaaW.PrintMore

def sh (x : S40) : Bool := decide (x.f2.length ≤ 30) && decide (x.f3.length ≤ 100)
theorem loop (l : List S40) (h : l.length ≤ 60) : ∀ n j, n + j = l.length → binnaclelaw24_Light.l0 (n + 1) l l l.length j = some ((l.drop j).all sh)
  | 0, j, hj => by
    rw [binnaclelaw24_Light.l0, if_neg (by omega), List.drop_eq_nil_of_le (by omega)]
    simp; omega
  | n + 1, j, hj => by
    rw [binnaclelaw24_Light.l0, if_pos (by omega), if_pos (by omega), if_pos (by omega)]
    have hd : l.drop j = rd_T40 l j :: l.drop (j + 1) := by
      rw [List.drop_eq_getElem_cons (by omega)]
      congr 1
      unfold rd_T40
      rw [Int.toNat_natCast, List.getD_eq_getElem?_getD, List.getElem?_eq_getElem (by omega)]
      rfl
    rw [hd, List.all_cons]
    by_cases h1 : (rd_T40 l j).f2.length ≤ 30
    · rw [if_neg (by omega)]
      by_cases h2 : (rd_T40 l j).f3.length ≤ 100
      · rw [if_neg (by omega)]
        have : sh (rd_T40 l j) = true := by simp [sh, h1, h2]
        rw [this, Bool.true_and, ← loop l h n (j + 1) (by omega)]
        congr 1
        unfold wrap64; omega
      · rw [if_pos (by omega)]
        have : sh (rd_T40 l j) = false := by simp [sh, h2]
        rw [this]; rfl
    · rw [if_pos (by omega)]
      have : sh (rd_T40 l j) = false := by simp [sh, h1]
      rw [this]; rfl
theorem light_f (l : List S40) (h : l.length ≤ 60) : binnaclelaw24_Light.f (l.length + 1) l = some (l.all sh) := by
  have := loop l h l.length 0 (by omega)
  rw [Int.natCast_zero] at this
  unfold binnaclelaw24_Light.f
  rw [this]; rfl
theorem light_calls (A : Option Addr) (c : Nat) (l : List S40) (w : World) (hC : Kd.C k40 w A l.length l) (hc : l.length ≤ c) (h : l.length ≤ 60) :
    Calls Try.prog 13 #[.slice A l.length c] w fun e w' => e = .returned (.bool (l.all sh)) ∧ Below w.heap.size w w' :=
  binnaclelaw24_Light.calls _ A c l _ w hC hc (light_f l h)
theorem add_at (g n : Nat) : (⟨g, 0, none⟩ : Addr).add n = ⟨g, n, none⟩ := by unfold Addr.add; split <;> simp_all
/-- A row that lies in a block of its own, from its start. -/
theorem row_lit {α : Type} {d : Kd α} {w : World} {g t : Nat} {cells : List Value} {ps : List α} (hb : w.heap[g]? = some (.cells cells.toArray t (0, 0))) (hr : Reps (d.K w) d.sz ps cells) (hn : ps.length ≤ 9223372036854775807) :
    d.C w (some ⟨g, 0, none⟩) ps.length ps := by
  refine ⟨rfl, hn, fun _ => ⟨_, rfl, fun j p hj => ⟨(cells.drop (j * d.sz)).take d.sz, ?_, hr.2 j p hj, fun i u hi => ?_⟩⟩⟩
  · obtain ⟨hjl, _⟩ := List.getElem?_eq_some_iff.1 hj
    have h1 := hr.1
    have h2 : (j + 1) * d.sz ≤ ps.length * d.sz := Nat.mul_le_mul_right _ hjl
    rw [Nat.add_mul, Nat.one_mul] at h2
    rw [List.length_take, List.length_drop]
    omega
  · rw [add_at, blk_cell hb]
    rw [List.getElem?_take] at hi
    split at hi
    · rw [List.getElem?_drop] at hi
      simpa using hi
    · cases hi
theorem light_two (ka aa : Int) (A2 A3 : Option Addr) (c2 c3 : Nat) (l2 l3 : List Int) (kb ab : Int) (B2 B3 : Option Addr) (d2 d3 : Nat) (m2 m3 : List Int) (w : World) (g : Nat)
    (hb : w.heap[g]? = some (.cells #[.int .u8 ka, .int .u64 aa, .slice A2 l2.length c2, .slice A3 l3.length c3, .int .u8 kb, .int .u64 ab, .slice B2 m2.length d2, .slice B3 m3.length d3] 40 (0, 0)))
    (hA2 : (Kd.int .u64).C w A2 l2.length l2) (hc2 : l2.length ≤ c2) (hA3 : (Kd.int .u8).C w A3 l3.length l3) (hc3 : l3.length ≤ c3)
    (hB2 : (Kd.int .u64).C w B2 m2.length m2) (hd2 : m2.length ≤ d2) (hB3 : (Kd.int .u8).C w B3 m3.length m3) (hd3 : m3.length ≤ d3) :
    Calls Try.prog 13 #[.slice (some ⟨g, 0, none⟩) 2 2] w fun e w' => e = .returned (.bool (sh ⟨ka, aa, l2, l3⟩ && sh ⟨kb, ab, m2, m3⟩)) ∧ Below w.heap.size w w' := by
  have h := light_calls (some ⟨g, 0, none⟩) 2 [⟨ka, aa, l2, l3⟩, ⟨kb, ab, m2, m3⟩] w (row_lit (d := k40) hb
    (((Reps.none (k40.K w) k40.sz).snoc (k40_mk w ⟨ka, aa, l2, l3⟩ hc2 hA2 hc3 hA3) rfl).snoc (k40_mk w ⟨kb, ab, m2, m3⟩ hd2 hB2 hd3 hB3) rfl) (by simp)) (by simp) (by simp)
  simpa using h
theorem light_one (ka aa : Int) (A2 A3 : Option Addr) (c2 c3 : Nat) (l2 l3 : List Int) (w : World) (g : Nat)
    (hb : w.heap[g]? = some (.cells #[.int .u8 ka, .int .u64 aa, .slice A2 l2.length c2, .slice A3 l3.length c3] 40 (0, 0)))
    (hA2 : (Kd.int .u64).C w A2 l2.length l2) (hc2 : l2.length ≤ c2) (hA3 : (Kd.int .u8).C w A3 l3.length l3) (hc3 : l3.length ≤ c3) :
    Calls Try.prog 13 #[.slice (some ⟨g, 0, none⟩) 1 1] w fun e w' => e = .returned (.bool (sh ⟨ka, aa, l2, l3⟩)) ∧ Below w.heap.size w w' := by
  have h := light_calls (some ⟨g, 0, none⟩) 1 [⟨ka, aa, l2, l3⟩] w (row_lit (d := k40) hb
    ((Reps.none (k40.K w) k40.sz).snoc (k40_mk w ⟨ka, aa, l2, l3⟩ hc2 hA2 hc3 hA3) rfl) (by simp)) (by simp) (by simp)
  simpa using h
end Go.Proofs.Ytclmnpdabnogkaa.EvLight
