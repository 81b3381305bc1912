/- The law CongGrows answers true for every uint8 and every uint16: with nothing lost and a full window, each window that comes makes it twice as great. No condition. -/
import Derived.Test.YtloiihbhpmmaiaaPCongGrowsx2
import Derived.OpenShut
namespace Go.Proofs.Ytloiihbhpmmaiaa.Pure
open Go.RowKit Go.Proofs.Ytloiihbhpmmaiaa.PCongGrows Go.Proofs.YtloiihbhpmmaiaaW.PrintWords Go.Proofs.YtloiihbhpmmaiaaW.PrintLast Go.Proofs.YtloiihbhpmmaiaaW.PrintMore

theorem u64_id {n : Int} (h0 : 0 ≤ n) (h1 : n < 18446744073709551616) : IntKind.u64.wrap n = n := by rw [IntKind.wrap_u64]; omega

/-- More rounds: if from some number on the loop's next step answers, so does the loop. -/
theorem ev_step {α : Type} {g f : Nat → Option α} {r : α} (h : ∀ k, g (k + 1) = f k) (e : ∃ K, ∀ k, K ≤ k → f k = some r) : ∃ K, ∀ k, K ≤ k → g k = some r := by
  obtain ⟨K, hK⟩ := e
  refine ⟨K + 1, fun k hk => ?_⟩
  obtain ⟨j, rfl⟩ : ∃ j, k = j + 1 := ⟨k - 1, by omega⟩
  rw [h]; exact hK j (by omega)

theorem room (s f a b : Int) (c : Bool) (hs : 0 ≤ s) (hs1 : s < 33554432) (hf : 0 ≤ f) : cong_Window_Room.f s f a b c = some (if f < s then s - f else 0) := by
  unfold cong_Window_Room.f
  by_cases h : f < s
  · rw [if_pos h]
    have e : mn f s = f := by unfold mn; rw [if_neg (by omega)]
    rw [e, u64_id (by omega) (by omega)]
  · rw [if_neg h]
    have e : mn f s = s := by unfold mn; split <;> omega
    rw [e, u64_id (by omega) (by omega)]; congr 1; omega
theorem sent (s f a b n : Int) (c : Bool) (hf : 0 ≤ f) (hf1 : f < 33554432) (hn : 0 ≤ n) (hn1 : n ≤ 2000) : cong_Window_Sent.f s f a b c n = some (s, f + n, a, b, c) := by
  unfold cong_Window_Sent.f
  have e : mn n 16777216 = n := by unfold mn; rw [if_neg (by omega)]
  rw [e, u64_id (by omega) (by omega)]
theorem came (k : Nat) (s f b n t : Int) (hs : 0 ≤ s) (hs1 : s + n ≤ 16777216) (hf : s ≤ f) (hf1 : f < 33554432) (hn : 1 ≤ n) (hn1 : n ≤ f) :
    cong_Window_Came.f (k + 1) s f 16777216 b false n t = some (s + n, f - n, 16777216, b, false) := by
  unfold cong_Window_Came.f cong_Window_gone.f
  have e : mn f n = n := by unfold mn; split <;> omega
  simp only [Option.bind_some]
  rw [e, if_neg (by decide), show decide (f ≥ s) = true from by simpa using hf]
  simp only [cong_Window_Came.j0]
  rw [if_neg (by decide), if_pos (by omega), u64_id (n := s + n) (by omega) (by omega), u64_id (n := f - n) (by omega) (by omega)]
  have e2 : mn (s + n) 16777216 = s + n := by unfold mn; rw [if_neg (by omega)]
  rw [e2]

theorem fill1 (p i was m s : Int) (hp : 100 ≤ p) (hp1 : p < 1200) (hs : 0 ≤ s) (hs1 : s < 16777216)
    (H : ∀ f, s ≤ f → f < s + p → ∃ K, ∀ k, K ≤ k → binnaclelaw18_CongGrows.l2 k p i was m i (IntKind.u64.wrap (Int.tdiv (IntKind.u64.wrap ((IntKind.u64.wrap (was + p)) - 1)) p)) 0 s f 16777216 0 false = some true) (d : Nat) :
    ∀ f, 0 ≤ f → f < s + p → s + p - f ≤ d → ∃ K, ∀ k, K ≤ k → binnaclelaw18_CongGrows.l1 k p i was m i s f 16777216 0 false = some true := by
  induction d with
  | zero => intro f h0 h1 hd; omega
  | succ d ih =>
    intro f h0 h1 hd
    by_cases hlt : f < s
    · refine ev_step (f := fun k => binnaclelaw18_CongGrows.l1 k p i was m i s (f + p) 16777216 0 false) (fun k => ?_) (ih (f + p) (by omega) (by omega) (by omega))
      rw [binnaclelaw18_CongGrows.l1, room s f _ _ _ hs (by omega) h0, if_pos hlt]
      simp only [Option.bind_some]
      rw [if_pos (by omega), sent s f _ _ p _ h0 (by omega) (by omega) (by omega)]
      simp only [Option.bind_some]
    · refine ev_step (f := fun k => binnaclelaw18_CongGrows.l2 k p i was m i (IntKind.u64.wrap (Int.tdiv (IntKind.u64.wrap ((IntKind.u64.wrap (was + p)) - 1)) p)) 0 s f 16777216 0 false) (fun k => ?_) (H f (by omega) h1)
      rw [binnaclelaw18_CongGrows.l1, room s f _ _ _ hs (by omega) h0, if_neg hlt]
      simp only [Option.bind_some]
      rw [if_neg (by omega), if_neg (by omega)]

theorem fill3 (p i was m n j s : Int) (hp : 100 ≤ p) (hp1 : p < 1200) (hs : 0 ≤ s) (hs1 : s < 16777216) (hj : 0 ≤ j) (hj1 : j < 20000000)
    (H : ∀ f, s ≤ f → f < s + p → ∃ K, ∀ k, K ≤ k → binnaclelaw18_CongGrows.l2 k p i was m i n (j + 1) s f 16777216 0 false = some true) (d : Nat) :
    ∀ f, 0 ≤ f → f < s + p → s + p - f ≤ d → ∃ K, ∀ k, K ≤ k → binnaclelaw18_CongGrows.l3 k p i was m i n j s f 16777216 0 false = some true := by
  induction d with
  | zero => intro f h0 h1 hd; omega
  | succ d ih =>
    intro f h0 h1 hd
    by_cases hlt : f < s
    · refine ev_step (f := fun k => binnaclelaw18_CongGrows.l3 k p i was m i n j s (f + p) 16777216 0 false) (fun k => ?_) (ih (f + p) (by omega) (by omega) (by omega))
      rw [binnaclelaw18_CongGrows.l3, room s f _ _ _ hs (by omega) h0, if_pos hlt]
      simp only [Option.bind_some]
      rw [if_pos (by omega), sent s f _ _ p _ h0 (by omega) (by omega) (by omega)]
      simp only [Option.bind_some]
    · refine ev_step (f := fun k => binnaclelaw18_CongGrows.l2 k p i was m i n (j + 1) s f 16777216 0 false) (fun k => ?_) (H f (by omega) h1)
      rw [binnaclelaw18_CongGrows.l3, room s f _ _ _ hs (by omega) h0, if_neg hlt]
      simp only [Option.bind_some]
      rw [if_neg (by omega), u64_id (n := j + 1) (by omega) (by omega)]

/-- What comes, packet for packet: the window grows by each. -/
theorem comes (p i was m n : Int) (hp : 100 ≤ p) (hp1 : p < 1200) (hw : 12000 ≤ was) (hw1 : was ≤ 4000000) (hn0 : was ≤ n * p) (hn1 : n * p < was + p) (hn : n < 20000000) (hi : 0 ≤ i) (hi1 : i < 8)
    (H : ∀ s f, 2 * was ≤ s → s < 2 * was + p → s ≤ f → f < s + p → ∃ K, ∀ k, K ≤ k → binnaclelaw18_CongGrows.l0 k p m (i + 1) s f 16777216 0 false = some true) (d : Nat) :
    ∀ j s f, 0 ≤ j → j ≤ n → n - j = d → s = was + j * p → s ≤ f → f < s + p → ∃ K, ∀ k, K ≤ k → binnaclelaw18_CongGrows.l2 k p i was m i n j s f 16777216 0 false = some true := by
  induction d with
  | zero =>
    intro j s f hj hjn hd hs hf hf1
    have e : j = n := by omega
    subst e
    refine ev_step (f := fun k => binnaclelaw18_CongGrows.l0 k p m (i + 1) s f 16777216 0 false) (fun k => ?_) (H s f (by omega) (by omega) hf hf1)
    have hi2 : wrap64 (i + 1) = i + 1 := by unfold wrap64; omega
    rw [binnaclelaw18_CongGrows.l2, if_neg (by omega), u64_id (n := 2 * was) (by omega) (by omega), u64_id (n := 2 * was + p) (by omega) (by omega), if_neg (by omega), if_neg (by omega), hi2]
  | succ d ih =>
    intro j s f hj hjn hd hs hf hf1
    have hjp : (j + 1) * p ≤ n * p := Int.mul_le_mul_of_nonneg_right (by omega) (by omega)
    have hjp1 : (j + 1) * p = j * p + p := by rw [Int.add_mul, Int.one_mul]
    have hjp0 : 0 ≤ j * p := Int.mul_nonneg hj (by omega)
    have hu : IntKind.u64.wrap (IntKind.u64.wrap i + 1) = i + 1 := by rw [u64_id (n := i) (by omega) (by omega), u64_id (by omega) (by omega)]
    have F := fill3 p i was m n j (s + p) hp hp1 (by omega) (by omega) hj (by omega)
      (fun g hg hg1 => ih (j + 1) (s + p) g (by omega) (by omega) (by omega) (by omega) hg hg1) (s + p + p - (f - p)).toNat (f - p) (by omega) (by omega) (by omega)
    obtain ⟨K, hK⟩ := F
    refine ⟨K + 2, fun k hk => ?_⟩
    obtain ⟨k, rfl⟩ : ∃ q, k = q + 2 := ⟨k - 2, by omega⟩
    rw [binnaclelaw18_CongGrows.l2, if_pos (by omega), hu, came k s f 0 p (i + 1) (by omega) (by omega) hf (by omega) (by omega) (by omega)]
    simp only [Option.bind_some]
    exact hK _ (by omega)

theorem rounds (p m : Int) (hp : 100 ≤ p) (hp1 : p < 1200) (hm : m < 8) (d : Nat) : ∀ i s f, 0 ≤ i → i ≤ m ∨ (i = 0 ∧ d = 0) → m - i ≤ d → 12000 ≤ s → s + 2000 ≤ (12000 + 2000) * 2 ^ i.toNat → 0 ≤ f → f < s + p →
    ∃ K, ∀ k, K ≤ k → binnaclelaw18_CongGrows.l0 k p m i s f 16777216 0 false = some true := by
  induction d with
  | zero =>
    intro i s f hi him hd hs hs1 hf hf1
    refine ⟨1, fun k hk => ?_⟩
    obtain ⟨k, rfl⟩ : ∃ j, k = j + 1 := ⟨k - 1, by omega⟩
    rw [binnaclelaw18_CongGrows.l0, if_neg (by omega)]
  | succ d ih =>
    intro i s f hi him hd hs hs1 hf hf1
    by_cases hlt : i < m
    · have hpow : (12000 + 2000) * (2 : Int) ^ i.toNat ≤ 14000 * 128 := by
        have : i = 0 ∨ i = 1 ∨ i = 2 ∨ i = 3 ∨ i = 4 ∨ i = 5 ∨ i = 6 := by omega
        rcases this with rfl | rfl | rfl | rfl | rfl | rfl | rfl <;> decide
      have hsuc : (2 : Int) ^ (i + 1).toNat = 2 * 2 ^ i.toNat := by
        rw [show (i + 1).toNat = i.toNat + 1 from by omega, Int.pow_succ]; omega
      have hq : Int.tdiv (s + p - 1) p = (s + p - 1) / p := Int.tdiv_eq_ediv_of_nonneg (by omega)
      have hmod := Int.emod_nonneg (s + p - 1) (show p ≠ 0 by omega)
      have hmod1 := Int.emod_lt_of_pos (s + p - 1) (show 0 < p by omega)
      have hdm := Int.mul_ediv_add_emod (s + p - 1) p
      rw [Int.mul_comm] at hdm
      have hq0 : 0 ≤ (s + p - 1) / p := Int.ediv_nonneg (by omega) (by omega)
      have hq1 : (s + p - 1) / p ≤ s + p - 1 := Int.ediv_le_self _ (by omega)
      refine ev_step (f := fun k => binnaclelaw18_CongGrows.l1 k p i s m i s f 16777216 0 false) (fun k => by rw [binnaclelaw18_CongGrows.l0, if_pos hlt]) ?_
      refine fill1 p i s m s hp hp1 (by omega) (by omega) (fun g hg hg1 => ?_) (s + p - f).toNat f hf hf1 (by omega)
      rw [u64_id (n := s + p) (by omega) (by omega), u64_id (n := s + p - 1) (by omega) (by omega), hq, u64_id hq0 (by omega)]
      exact comes p i s m ((s + p - 1) / p) hp hp1 hs (by omega) (by omega) (by omega) (by omega) hi (by omega)
        (fun s' f' h1 h2 h3 h4 => ih (i + 1) s' f' (by omega) (by omega) (by omega) (by omega) (by rw [hsuc]; omega) (by omega) h4) ((s + p - 1) / p).toNat 0 s g (by omega) hq0 (by omega) (by omega) hg hg1
    · refine ⟨1, fun k hk => ?_⟩
      obtain ⟨k, rfl⟩ : ∃ j, k = j + 1 := ⟨k - 1, by omega⟩
      rw [binnaclelaw18_CongGrows.l0, if_neg hlt]

theorem CongGrows : binnaclelaw18_CongGrows.Pure := by
  intro r q wr wq
  have hr : 0 ≤ r ∧ r ≤ 255 := bounds_u8 wr
  have hq : 0 ≤ q ∧ q ≤ 65535 := bounds_u16 wq
  have ht : Int.tmod q 1100 = q % 1100 := Int.tmod_eq_emod_of_nonneg hq.1
  have ht8 : Int.tmod r 8 = r % 8 := Int.tmod_eq_emod_of_nonneg hr.1
  have e8 : wrap64 (r % 8) = r % 8 := by unfold wrap64; omega
  obtain ⟨K, hK⟩ := rounds (100 + q % 1100) (r % 8) (by omega) (by omega) (by omega) 8 0 12000 0 (by omega) (by omega) (by omega) (by omega) (by decide) (by omega) (by omega)
  refine ⟨K, ?_⟩
  unfold binnaclelaw18_CongGrows.f binnaclelaw18_Awake.f cong_New.f
  simp only [Option.bind_some]
  rw [room 12000 0 _ _ _ (by omega) (by omega) (by omega)]
  simp only [Option.bind_some]
  rw [if_pos (by omega), Option.bind_some, if_pos rfl, ht, ht8, e8, u64_id (n := q % 1100) (by omega) (by omega), u64_id (n := 100 + q % 1100) (by omega) (by omega)]
  exact hK K (Nat.le_refl _)

end Go.Proofs.Ytloiihbhpmmaiaa.Pure
