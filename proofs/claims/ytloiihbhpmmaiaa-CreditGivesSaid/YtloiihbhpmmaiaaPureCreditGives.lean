/- What the law CreditGives computes is true for every first limit and every list of calls. No condition. -/
import Derived.Test.YtloiihbhpmmaiaaPCreditGivesx3
import Derived.OpenShut
namespace Go.Proofs.Ytloiihbhpmmaiaa.PureCreditGives
open Go.RowKit Go.Proofs.Ytloiihbhpmmaiaa.PCreditGives Go.Proofs.YtloiihbhpmmaiaaW.PrintWords Go.Proofs.YtloiihbhpmmaiaaW.PrintLast Go.Proofs.YtloiihbhpmmaiaaW.PrintMore

theorem u64_id {n : Int} (h0 : 0 ≤ n) (h1 : n < 18446744073709551616) : IntKind.u64.wrap n = n := by rw [IntKind.wrap_u64]; omega

/-- What an act's fields may be. -/
def Fit (x : S54) : Prop := (0 ≤ x.f0 ∧ x.f0 ≤ 255) ∧ (0 ≤ x.f1 ∧ x.f1 ≤ 65535) ∧ (0 ≤ x.f2 ∧ x.f2 ≤ 18446744073709551615)
theorem rd_fit {l : List S54} (h : ∀ x ∈ l, Fit x) (i : Int) (h0 : 0 ≤ i) (h1 : i < (l.length : Int)) : Fit (rd_T54 l i) := by
  unfold rd_T54
  have hi : i.toNat < l.length := by omega
  rw [List.getD_eq_getElem?_getD, List.getElem?_eq_getElem hi]
  exact h _ (List.getElem_mem hi)

/-- The limit, what is used, what was taken, what is kept ahead, what was told. -/
structure Inv (L U T n D : Int) : Prop where
  t : 0 ≤ T
  tu : T ≤ U
  ul : U ≤ L
  l : L ≤ 4611686018427387903
  n0 : 0 ≤ n
  n1 : n ≤ 4611686018427387903
  d0 : 0 ≤ D
  dl : D ≤ L

theorem awake : binnaclelaw20_Awake.f = some true := by
  have e1 : mn 10 4611686018427387903 = 10 := rfl
  have e2 : mn 0 10 = 0 := rfl
  have e3 : mn 0 6 = 0 := rfl
  have e4 : mn 6 6 = 6 := rfl
  have e5 : mn 16 4611686018427387903 = 16 := rfl
  have e6 : mx 10 16 = 16 := rfl
  have e7 : mn 10 16 = 10 := rfl
  have e8 : Int.tdiv 10 2 = 5 := rfl
  unfold binnaclelaw20_Awake.f credit_New.f
  simp only [Option.bind_some, credit_Given_Use.f, e1, e2]
  rw [u64_id (n := 10 - 0) (by omega) (by omega), if_neg (by omega), u64_id (n := 0 + 6) (by omega) (by omega)]
  simp only [Option.bind_some, credit_Given_Take.f, if_true, Int.zero_add, e3]
  rw [u64_id (n := 6 - 0) (by omega) (by omega)]
  simp only [Int.sub_zero, e4]
  rw [u64_id (n := 6) (by omega) (by omega), u64_id (n := 6 + 10) (by omega) (by omega)]
  have e9 : mx 10 (mn (6 + 10) 4611686018427387903) = 16 := rfl
  simp only [e9, if_true, credit_Given_Wants.f, Option.bind_some, e7, e8]
  rw [u64_id (n := 16 - 10) (by omega) (by omega), u64_id (n := 5) (by omega) (by omega)]
  rfl

section
variable (l : List S54) (y : List Int) (m : Int) (x34 : List S54) (len : Int)

theorem wants {L U T n D : Int} (h : Inv L U T n D) : credit_Given_Wants.f L U T n D = some (decide (L - D > n / 2)) := by
  obtain ⟨h1, h2, h3, h4, h5, h6, h7, h8⟩ := h
  unfold credit_Given_Wants.f
  have e : mn D L = D := by unfold mn; split <;> omega
  rw [e, u64_id (n := L - D) (by omega) (by omega), Int.tdiv_eq_ediv_of_nonneg h5, u64_id (n := n / 2) (by omega) (by omega)]

theorem at_end {L U T n D : Int} (i j : Int) (h : Inv L U T n D)
    (H : ∃ K, ∀ k, K ≤ k → binnaclelaw20_CreditGives.l1 k l n L U T D y m i x34 len (wrap64 (j + 1)) L U T n D = some true) :
    ∃ K, ∀ k, K ≤ k → binnaclelaw20_CreditGives.j5 k l n L U T D y m i x34 len j L U T n D = some true := by
  refine Ev.step (f := fun k => binnaclelaw20_CreditGives.l1 k l n L U T D y m i x34 len (wrap64 (j + 1)) L U T n D) (fun k => ?_) H
  rw [binnaclelaw20_CreditGives.j5, if_pos rfl, if_pos rfl, if_pos rfl, if_pos rfl]
  simp only [credit_Given_Last.f, Option.bind_some, if_true, wants h]
  obtain ⟨h1, h2, h3, h4, h5, h6, h7, h8⟩ := h
  rw [u64_id (n := L - D) (by omega) (by omega), Int.tdiv_eq_ediv_of_nonneg h5, u64_id (n := n / 2) (by omega) (by omega)]
  rw [if_neg (by simp), if_neg (by omega), if_neg (by omega)]

theorem step_use {L U T n D : Int} (i j a z : Int) (hz0 : 0 ≤ z) (h : Inv L U T n D)
    (H : ∀ U', Inv L U' T n D → ∃ K, ∀ k, K ≤ k → binnaclelaw20_CreditGives.l1 k l n L U' T D y m i x34 len (wrap64 (j + 1)) L U' T n D = some true) :
    ∃ K, ∀ k, K ≤ k → binnaclelaw20_CreditGives.j2 k l n L U T D z y m i x34 len j a true L U T n D = some true := by
  have ho := h
  obtain ⟨h1, h2, h3, h4, h5, h6, h7, h8⟩ := h
  have e : mn U L = U := by unfold mn; split <;> omega
  by_cases hc : z > L - U
  · refine Ev.step (f := fun k => binnaclelaw20_CreditGives.j3 k l n L U T D y m i x34 len j false L U T n D) (fun k => ?_) ?_
    · rw [binnaclelaw20_CreditGives.j2, if_pos rfl]
      simp only [credit_Given_Use.f]
      rw [e, u64_id (n := L - U) (by omega) (by omega), if_pos hc]
      simp only [Option.bind_some]
      rw [if_pos hc]
      simp
    · refine Ev.step (f := fun k => binnaclelaw20_CreditGives.j5 k l n L U T D y m i x34 len j L U T n D) (fun k => ?_) (at_end l y m x34 len i j ho (H U ho))
      rw [binnaclelaw20_CreditGives.j3, if_neg (by decide)]
  · have ho' : Inv L (U + z) T n D := ⟨h1, by omega, by omega, h4, h5, h6, h7, h8⟩
    refine Ev.step (f := fun k => binnaclelaw20_CreditGives.j5 k l n L (U + z) T D y m i x34 len j L (U + z) T n D) (fun k => ?_) (at_end l y m x34 len i j ho' (H _ ho'))
    rw [binnaclelaw20_CreditGives.j2, if_pos rfl]
    simp only [credit_Given_Use.f]
    rw [e, u64_id (n := L - U) (by omega) (by omega), if_neg hc]
    simp only [Option.bind_some]
    rw [if_neg hc, u64_id (n := U + z) (by omega) (by omega)]
    simp

theorem step_take {L U T n D : Int} (i j a z : Int) (hz0 : 0 ≤ z) (h : Inv L U T n D)
    (H : ∀ L' T', Inv L' U T' n D → ∃ K, ∀ k, K ≤ k → binnaclelaw20_CreditGives.l1 k l n L' U T' D y m i x34 len (wrap64 (j + 1)) L' U T' n D = some true) :
    ∃ K, ∀ k, K ≤ k → binnaclelaw20_CreditGives.j4 k l n L U T D z y m i x34 len j a true L U T n D = some true := by
  obtain ⟨h1, h2, h3, h4, h5, h6, h7, h8⟩ := h
  have e : mn T U = T := by unfold mn; split <;> omega
  have b0 : 0 ≤ mn z (U - T) ∧ mn z (U - T) ≤ U - T := by unfold mn; split <;> omega
  have b1 : mn (T + mn z (U - T) + n) 4611686018427387903 ≤ 4611686018427387903 := by unfold mn; split <;> omega
  have b2 : L ≤ mx L (mn (T + mn z (U - T) + n) 4611686018427387903) ∧ mx L (mn (T + mn z (U - T) + n) 4611686018427387903) ≤ 4611686018427387903 := by
    generalize mn (T + mn z (U - T) + n) 4611686018427387903 = q at *
    unfold mx; split <;> omega
  have ho' : Inv (mx L (mn (T + mn z (U - T) + n) 4611686018427387903)) U (T + mn z (U - T)) n D := ⟨by omega, by omega, by omega, b2.2, h5, h6, h7, by omega⟩
  refine Ev.step (f := fun k => binnaclelaw20_CreditGives.j5 k l n (mx L (mn (T + mn z (U - T) + n) 4611686018427387903)) U (T + mn z (U - T)) D y m i x34 len j (mx L (mn (T + mn z (U - T) + n) 4611686018427387903)) U (T + mn z (U - T)) n D) (fun k => ?_) (at_end l y m x34 len i j ho' (H _ _ ho'))
  rw [binnaclelaw20_CreditGives.j4, if_pos rfl]
  simp only [credit_Given_Take.f, Option.bind_some]
  rw [e, u64_id (n := U - T) (by omega) (by omega), u64_id (n := T + mn z (U - T)) (by omega) (by omega), u64_id (n := T + mn z (U - T) + n) (by omega) (by omega)]

theorem step_told {L U T n D : Int} (i j z : Int) (h : Inv L U T n D)
    (H : Inv L U T n L → ∃ K, ∀ k, K ≤ k → binnaclelaw20_CreditGives.l1 k l n L U T L y m i x34 len (wrap64 (j + 1)) L U T n L = some true) :
    ∃ K, ∀ k, K ≤ k → binnaclelaw20_CreditGives.j4 k l n L U T D z y m i x34 len j 5 false L U T n D = some true := by
  obtain ⟨h1, h2, h3, h4, h5, h6, h7, h8⟩ := h
  have ho' : Inv L U T n L := ⟨h1, h2, h3, h4, h5, h6, by omega, by omega⟩
  refine Ev.step (f := fun k => binnaclelaw20_CreditGives.j5 k l n L U T L y m i x34 len j L U T n L) (fun k => ?_) (at_end l y m x34 len i j ho' (H ho'))
  rw [binnaclelaw20_CreditGives.j4, if_neg (by decide), if_pos rfl]
  simp only [credit_Given_Told.f, Option.bind_some]

theorem step_lost {L U T n D : Int} (i j a z : Int) (ha : a ≠ 5) (h : Inv L U T n D)
    (H : ∀ D', Inv L U T n D' → ∃ K, ∀ k, K ≤ k → binnaclelaw20_CreditGives.l1 k l n L U T D' y m i x34 len (wrap64 (j + 1)) L U T n D' = some true) :
    ∃ K, ∀ k, K ≤ k → binnaclelaw20_CreditGives.j4 k l n L U T D z y m i x34 len j a false L U T n D = some true := by
  obtain ⟨h1, h2, h3, h4, h5, h6, h7, h8⟩ := h
  have b : 0 ≤ mn D (n / 2 + 1) ∧ mn D (n / 2 + 1) ≤ D := by unfold mn; split <;> omega
  have ho' : Inv L U T n (D - mn D (n / 2 + 1)) := ⟨h1, h2, h3, h4, h5, h6, by omega, by omega⟩
  refine Ev.step (f := fun k => binnaclelaw20_CreditGives.j5 k l n L U T (D - mn D (n / 2 + 1)) y m i x34 len j L U T n (D - mn D (n / 2 + 1))) (fun k => ?_) (at_end l y m x34 len i j ho' (H _ ho'))
  rw [binnaclelaw20_CreditGives.j4, if_neg (by decide), if_neg ha]
  simp only [credit_Given_Lost.f, Option.bind_some]
  rw [Int.tdiv_eq_ediv_of_nonneg h5, u64_id (n := n / 2) (by omega) (by omega), u64_id (n := n / 2 + 1) (by omega) (by omega), u64_id (n := D - mn D (n / 2 + 1)) (by omega) (by omega)]

theorem plays (hf : ∀ x ∈ x34, Fit x) (hl : len = x34.length) (i : Int)
    (H : ∃ K, ∀ k, K ≤ k → binnaclelaw20_CreditGives.l0 k l y m (wrap64 (i + 1)) = some true) (d : Nat) :
    ∀ (j L U T n D : Int), 0 ≤ j → len - j ≤ d → Inv L U T n D → ∃ K, ∀ k, K ≤ k → binnaclelaw20_CreditGives.l1 k l n L U T D y m i x34 len j L U T n D = some true := by
  induction d with
  | zero =>
    intro j L U T n D hj hd h
    refine Ev.step (f := fun k => binnaclelaw20_CreditGives.l0 k l y m (wrap64 (i + 1))) (fun k => ?_) H
    rw [binnaclelaw20_CreditGives.l1, if_neg (by omega)]
  | succ d ih =>
    intro j L U T n D hj hd h
    by_cases hlt : j < len
    · by_cases h80 : j ≥ 80
      · refine Ev.step (f := fun k => binnaclelaw20_CreditGives.l0 k l y m (wrap64 (i + 1))) (fun k => ?_) H
        rw [binnaclelaw20_CreditGives.l1, if_pos hlt, if_pos hj, if_pos (by omega), if_pos h80]
      · have hx := rd_fit hf j hj (by omega)
        have hw : wrap64 (j + 1) = j + 1 := by unfold wrap64; omega
        obtain ⟨⟨a0, a1⟩, ⟨b0, b1⟩, c0, c1⟩ := hx
        obtain ⟨z, hz, hz0⟩ : ∃ z, binnaclelaw20_Act_number.f (rd_T54 x34 j).f0 (rd_T54 x34 j).f1 (rd_T54 x34 j).f2 (rd_T54 x34 j).f3 = some z ∧ 0 ≤ z := by
          unfold binnaclelaw20_Act_number.f
          split
          · exact ⟨_, rfl, c0⟩
          · rw [Int.tmod_eq_emod_of_nonneg b0, u64_id (n := (rd_T54 x34 j).f1 % 200) (by omega) (by omega)]
            exact ⟨_, rfl, by omega⟩
        have ht : Int.tmod (rd_T54 x34 j).f0 7 = (rd_T54 x34 j).f0 % 7 := Int.tmod_eq_emod_of_nonneg a0
        generalize hkk : (rd_T54 x34 j).f0 % 7 = kk at *
        have hk0 : 0 ≤ kk ∧ kk < 7 := by omega
        have next : ∀ L U T D, Inv L U T n D → ∃ K, ∀ k, K ≤ k → binnaclelaw20_CreditGives.l1 k l n L U T D y m i x34 len (wrap64 (j + 1)) L U T n D = some true := by
          intro L U T D h'
          rw [hw]
          exact ih (j + 1) L U T n D (by omega) (by omega) h'
        have J2 : ∃ K, ∀ k, K ≤ k → binnaclelaw20_CreditGives.j2 k l n L U T D z y m i x34 len j kk (decide (kk ≤ 2)) L U T n D = some true := by
          by_cases h2 : kk ≤ 2
          · rw [decide_eq_true h2]
            exact step_use l y m x34 len i j kk z hz0 h (fun U' h' => next L U' T D h')
          · rw [decide_eq_false h2]
            have J4 : ∃ K, ∀ k, K ≤ k → binnaclelaw20_CreditGives.j4 k l n L U T D z y m i x34 len j kk (decide (kk ≤ 4)) L U T n D = some true := by
              by_cases h4 : kk ≤ 4
              · rw [decide_eq_true h4]
                exact step_take l y m x34 len i j kk z hz0 h (fun L' T' h' => next L' U T' D h')
              · rw [decide_eq_false h4]
                by_cases h5 : kk = 5
                · subst h5
                  exact step_told l y m x34 len i j z h (fun h' => next L U T L h')
                · exact step_lost l y m x34 len i j kk z h5 h (fun D' h' => next L U T D' h')
            refine Ev.step (f := fun k => binnaclelaw20_CreditGives.j4 k l n L U T D z y m i x34 len j kk (decide (kk ≤ 4)) L U T n D) (fun k => ?_) J4
            rw [binnaclelaw20_CreditGives.j2, if_neg (by decide)]
            by_cases h3 : kk = 3
            · rw [if_pos h3]; subst h3; rfl
            · rw [if_neg h3]; congr 1
              rw [Bool.eq_iff_iff]; simp; omega
        refine Ev.step (f := fun k => binnaclelaw20_CreditGives.j2 k l n L U T D z y m i x34 len j kk (decide (kk ≤ 2)) L U T n D) (fun k => ?_) J2
        rw [binnaclelaw20_CreditGives.l1, if_pos hlt, if_pos hj, if_pos (by omega), if_neg h80, hz]
        simp only [Option.bind_some, ht]
        by_cases k0 : kk = 0
        · rw [if_pos k0]; subst k0; rfl
        · rw [if_neg k0]
          by_cases k1 : kk = 1
          · rw [if_pos k1]; subst k1; rfl
          · rw [if_neg k1]; congr 1
            rw [Bool.eq_iff_iff]; simp; omega
    · refine Ev.step (f := fun k => binnaclelaw20_CreditGives.l0 k l y m (wrap64 (i + 1))) (fun k => ?_) H
      rw [binnaclelaw20_CreditGives.l1, if_neg hlt]
end

theorem outer (l : List S54) (hf : ∀ x ∈ l, Fit x) (a b : Int) (ha : 0 ≤ a) (hb : 0 ≤ b) (d : Nat) :
    ∀ i : Int, 0 ≤ i → 2 - i ≤ d → ∃ K, ∀ k, K ≤ k → binnaclelaw20_CreditGives.l0 k l [a, b] 2 i = some true := by
  induction d with
  | zero =>
    intro i hi hd
    refine ⟨1, fun k hk => ?_⟩
    obtain ⟨k, rfl⟩ : ∃ j, k = j + 1 := ⟨k - 1, by omega⟩
    rw [binnaclelaw20_CreditGives.l0, if_neg (by omega)]
  | succ d ih =>
    intro i hi hd
    by_cases h2 : i < 2
    · have hw : wrap64 (i + 1) = i + 1 := by unfold wrap64; omega
      have hr : 0 ≤ rd [a, b] i := by
        have : i = 0 ∨ i = 1 := by omega
        rcases this with rfl | rfl
        · exact ha
        · exact hb
      generalize hv : rd [a, b] i = v at *
      have hm : 0 ≤ mn v 4611686018427387903 ∧ mn v 4611686018427387903 ≤ 4611686018427387903 := by unfold mn; split <;> omega
      refine Ev.step (f := fun k => binnaclelaw20_CreditGives.l1 k l (mn v 4611686018427387903) (mn v 4611686018427387903) 0 0 (mn v 4611686018427387903) [a, b] 2 i l (l.length : Int) 0 (mn v 4611686018427387903) 0 0 (mn v 4611686018427387903) (mn v 4611686018427387903)) (fun k => ?_)
        (plays l [a, b] 2 l l.length hf rfl i (by rw [hw]; exact ih (i + 1) (by omega) (by omega)) l.length 0 _ 0 0 _ _ (by omega) (by omega) ⟨by omega, by omega, by omega, hm.2, hm.1, hm.2, hm.1, by omega⟩)
      rw [binnaclelaw20_CreditGives.l0, if_pos h2, if_pos hi, if_pos (by simpa using h2), hv]
      simp only [credit_New.f, Option.bind_some]
    · refine ⟨1, fun k hk => ?_⟩
      obtain ⟨k, rfl⟩ : ∃ j, k = j + 1 := ⟨k - 1, by omega⟩
      rw [binnaclelaw20_CreditGives.l0, if_neg h2]

theorem answers (a : Int) (l : List S54) (ha : 0 ≤ a) (hf : ∀ x ∈ l, Fit x) : ∃ k, binnaclelaw20_CreditGives.f k a l = some true := by
  obtain ⟨K, hK⟩ := outer l hf a (Int.tmod a 500) ha (by rw [Int.tmod_eq_emod_of_nonneg ha]; omega) 2 0 (by omega) (by omega)
  refine ⟨K, ?_⟩
  unfold binnaclelaw20_CreditGives.f
  rw [awake]
  simp only [Option.bind_some, if_true]
  exact hK K (Nat.le_refl _)
end Go.Proofs.Ytloiihbhpmmaiaa.PureCreditGives
