/- The law RttSame answers true for every uint32 and every uint8: a time that is measured again and again is the smooth time, and the variation never grows. No condition. -/
import Derived.Test.YtloiihbhpmmaiaaPRttSamex1
import Derived.OpenShut
namespace Go.Proofs.Ytloiihbhpmmaiaa.Pure
open Go.RowKit Go.Proofs.Ytloiihbhpmmaiaa.PRttSame Go.Proofs.YtloiihbhpmmaiaaW.PrintWords Go.Proofs.YtloiihbhpmmaiaaW.PrintLast Go.Proofs.YtloiihbhpmmaiaaW.PrintMore

theorem u64_id {n : Int} (h0 : 0 ≤ n) (h1 : n < 18446744073709551616) : IntKind.u64.wrap n = n := by rw [IntKind.wrap_u64]; omega

theorem measure_first (k : Nat) (a b c d n : Int) (h0 : 0 ≤ n) (h1 : n < 4294967296) :
    rtt_Rtt_Measure.f k a b c d false n 0 0 = some (n, n, n, n / 2, true) := by
  have e : mn n 1125899906842624 = n := by unfold mn; split <;> omega
  unfold rtt_Rtt_Measure.f
  rw [if_neg (by decide), e, Int.tdiv_eq_ediv_of_nonneg h0, u64_id (by omega) (by omega)]

theorem measure_next (k : Nat) (a b s v n : Int) (h0 : 0 ≤ n) (h1 : n < 4294967296) (hs : 0 ≤ s ∧ s < 1125899906842625) (hv : 0 ≤ v ∧ v < 1125899906842625) :
    rtt_Rtt_Measure.f (k + 1) a b s v true n 0 0 = some (n, mn b n, (7 * s + n) / 8, (3 * v + (if n > s then n - s else s - n)) / 4, true) := by
  have e : mn n 1125899906842624 = n := by unfold mn; split <;> omega
  have e0 : mn 0 0 = 0 := rfl
  have hm : mn b n ≤ n := by unfold mn; split <;> omega
  unfold rtt_Rtt_Measure.f
  rw [if_pos rfl, e, e0, if_pos (by omega)]
  have e1 : IntKind.u64.wrap (n - 0) = n := by rw [u64_id] <;> omega
  rw [e1]
  have e2 : decide (n ≥ mn b n) = true := by simp; omega
  rw [e2]
  simp only [rtt_Rtt_Measure.j0, if_true]
  rw [e1]
  have w1 : IntKind.u64.wrap (7 * s) = 7 * s := u64_id (by omega) (by omega)
  have w2 : IntKind.u64.wrap (3 * v) = 3 * v := u64_id (by omega) (by omega)
  have w3 : IntKind.u64.wrap (7 * s + n) = 7 * s + n := u64_id (by omega) (by omega)
  have w4 : Int.tdiv (7 * s + n) 8 = (7 * s + n) / 8 := Int.tdiv_eq_ediv_of_nonneg (by omega)
  have w5 : IntKind.u64.wrap ((7 * s + n) / 8) = (7 * s + n) / 8 := u64_id (by omega) (by omega)
  rw [w1, w2, w3, w4, w5]
  by_cases hc : n > s
  · rw [if_pos hc, if_pos hc]
    have x1 : IntKind.u64.wrap (n - s) = n - s := u64_id (by omega) (by omega)
    have x2 : IntKind.u64.wrap (3 * v + (n - s)) = 3 * v + (n - s) := u64_id (by omega) (by omega)
    have x3 : Int.tdiv (3 * v + (n - s)) 4 = (3 * v + (n - s)) / 4 := Int.tdiv_eq_ediv_of_nonneg (by omega)
    rw [x1, x2, x3, u64_id (n := (3 * v + (n - s)) / 4) (by omega) (by omega)]
  · rw [if_neg hc, if_neg hc]
    have x1 : IntKind.u64.wrap (s - n) = s - n := u64_id (by omega) (by omega)
    have x2 : IntKind.u64.wrap (3 * v + (s - n)) = 3 * v + (s - n) := u64_id (by omega) (by omega)
    have x3 : Int.tdiv (3 * v + (s - n)) 4 = (3 * v + (s - n)) / 4 := Int.tdiv_eq_ediv_of_nonneg (by omega)
    rw [x1, x2, x3, u64_id (n := (3 * v + (s - n)) / 4) (by omega) (by omega)]

theorem awake (k : Nat) : binnaclelaw17_Awake.f k = some true := by
  unfold binnaclelaw17_Awake.f rtt_New.f
  simp only [Option.bind_some]
  rw [measure_first k 0 0 333000 166500 800 (by omega) (by omega)]
  rfl

theorem same_loop (n : Int) (h0 : 0 ≤ n) (h1 : n < 4294967296) (m : Int) (hm : m ≤ 60) (d : Nat) : ∀ (k : Nat) (i was v : Int), 0 ≤ i → i ≤ m → m - i = d → d + 1 < k → 0 ≤ v → v < 1125899906842625 → v ≤ was →
    binnaclelaw17_RttSame.l0 k n was m i n n n v true = some true := by
  have hu : IntKind.u64.wrap n = n := u64_id (by omega) (by omega)
  induction d with
  | zero =>
    intro k i was v hi him hd hk hv0 hv1 hw
    obtain ⟨k, rfl⟩ : ∃ j, k = j + 1 := ⟨k - 1, by omega⟩
    simp only [binnaclelaw17_RttSame.l0]
    rw [if_neg (by omega), hu]
    simp
  | succ d ih =>
    intro k i was v hi him hd hk hv0 hv1 hw
    obtain ⟨k, rfl⟩ : ∃ j, k = j + 1 := ⟨k - 1, by omega⟩
    obtain ⟨k, rfl⟩ : ∃ j, k = j + 1 := ⟨k - 1, by omega⟩
    rw [binnaclelaw17_RttSame.l0, if_pos (by omega), hu, measure_next k n n n v n h0 h1 ⟨by omega, by omega⟩ ⟨by omega, by omega⟩]
    have e1 : mn n n = n := by unfold mn; split <;> omega
    have e2 : (7 * n + n) / 8 = n := by omega
    have e3 : (3 * v + (if n > n then n - n else n - n)) / 4 = 3 * v / 4 := by rw [if_neg (by omega)]; congr 1; omega
    rw [e1, e2, e3]
    simp only [Option.bind_some]
    have e4 : wrap64 (i + 1) = i + 1 := by unfold wrap64; omega
    rw [if_neg (by omega), if_neg (by omega), if_true, e4]
    exact ih (k + 1) (i + 1) (3 * v / 4) (3 * v / 4) (by omega) (by omega) (by omega) (by omega) (by omega) (by omega) (by omega)

theorem RttSame : binnaclelaw17_RttSame.Pure := by
  intro n m wn wm
  have hn : 0 ≤ n ∧ n ≤ 4294967295 := bounds_u32 wn
  have hm : 0 ≤ m ∧ m ≤ 255 := bounds_u8 wm
  refine ⟨70, ?_⟩
  unfold binnaclelaw17_RttSame.f rtt_New.f
  rw [awake]
  simp only [Option.bind_some, if_true]
  have ht : Int.tmod m 60 = m % 60 := Int.tmod_eq_emod_of_nonneg hm.1
  have e1 : wrap64 (m % 60) = m % 60 := by unfold wrap64; omega
  have e2 : wrap64 (1 + m % 60) = 1 + m % 60 := by unfold wrap64; omega
  rw [ht, e1, e2]
  have hu : IntKind.u64.wrap n = n := u64_id (by omega) (by omega)
  have e4 : wrap64 (0 + 1) = 1 := by unfold wrap64; omega
  rw [binnaclelaw17_RttSame.l0, if_pos (by omega), hu, measure_first _ _ _ _ _ n hn.1 (by omega)]
  simp only [Option.bind_some]
  rw [if_neg (by omega), if_neg (by omega), if_true, e4]
  exact same_loop n hn.1 (by omega) (1 + m % 60) (by omega) (m % 60).toNat 69 1 (n / 2) (n / 2) (by omega) (by omega) (by omega) (by omega) (by omega) (by omega) (by omega)

end Go.Proofs.Ytloiihbhpmmaiaa.Pure
