-- PRINTED BY print.sh 35421559b90ae4d0a3588c463048766b98c2df88dd9212a6774a882060cdf62d: not written by this session
import Derived.Test.YtloiihbhpmmaiaaPCreditGivesx0
import Derived.Test.YtloiihbhpmmaiaaPCreditGivesx1
import Derived.Test.YtloiihbhpmmaiaaPCreditGivesx2
namespace Go.Proofs.Ytloiihbhpmmaiaa.PCreditGives
open Go.RowKit Go.Proofs.YtloiihbhpmmaiaaW.PrintWords Go.Proofs.YtloiihbhpmmaiaaW.PrintLast Go.Proofs.YtloiihbhpmmaiaaW.PrintMore
attribute [local go_sem] max2_int min2_int max_two min_two max_three min_three max_four min_four   -- for this text's walks alone
set_option linter.unusedVariables false
set_option linter.unusedSimpArgs false

attribute [local go_sem high] eqA51
/-! ### binnaclelaw20_CreditGives: function 7 -/
mutual
def binnaclelaw20_CreditGives.l0 : Nat → List (S54) → List Int → Int → Int → Option (Bool)
  | 0, _, _, _, _ => none
  | k + 1, x1, x22, x23, x24 => if x24 < x23 then (if 0 ≤ x24 then (if x24 < (x22.length : Int) then ((credit_New.f (rd x22 x24)).bind fun bt136 => (binnaclelaw20_CreditGives.l1 k x1 (mn (rd x22 x24) 4611686018427387903) (mn (rd x22 x24) 4611686018427387903) 0 0 (mn (rd x22 x24) 4611686018427387903) x22 x23 x24 x1 (x1.length : Int) 0 bt136.1 bt136.2.1 bt136.2.2.1 bt136.2.2.2.1 bt136.2.2.2.2)) else (none)) else (none)) else (some true)
def binnaclelaw20_CreditGives.l1 : Nat → List (S54) → Int → Int → Int → Int → Int → List Int → Int → Int → List (S54) → Int → Int → Int → Int → Int → Int → Int → Option (Bool)
  | 0, _, _, _, _, _, _, _, _, _, _, _, _, _, _, _, _, _ => none
  | k + 1, x1, x6, x8, x9, x10, x11, x22, x23, x24, x34, x35, x36, x142000, x142001, x142002, x142003, x142004 => if x36 < x35 then (if 0 ≤ x36 then (if x36 < (x34.length : Int) then (if x36 ≥ 80 then (binnaclelaw20_CreditGives.l0 k x1 x22 x23 (wrap64 (x24 + 1))) else ((binnaclelaw20_Act_number.f ((rd_T54 x34 x36).f0) ((rd_T54 x34 x36).f1) ((rd_T54 x34 x36).f2) ((rd_T54 x34 x36).f3)).bind fun t144 => (if (Int.tmod ((rd_T54 x34 x36).f0) 7) = 0 then (binnaclelaw20_CreditGives.j2 k x1 x6 x8 x9 x10 x11 t144 x22 x23 x24 x34 x35 x36 (Int.tmod ((rd_T54 x34 x36).f0) 7) ((Int.tmod ((rd_T54 x34 x36).f0) 7) == 0) x142000 x142001 x142002 x142003 x142004) else (if (Int.tmod ((rd_T54 x34 x36).f0) 7) = 1 then (binnaclelaw20_CreditGives.j2 k x1 x6 x8 x9 x10 x11 t144 x22 x23 x24 x34 x35 x36 (Int.tmod ((rd_T54 x34 x36).f0) 7) ((Int.tmod ((rd_T54 x34 x36).f0) 7) == 1) x142000 x142001 x142002 x142003 x142004) else (binnaclelaw20_CreditGives.j2 k x1 x6 x8 x9 x10 x11 t144 x22 x23 x24 x34 x35 x36 (Int.tmod ((rd_T54 x34 x36).f0) 7) ((Int.tmod ((rd_T54 x34 x36).f0) 7) == 2) x142000 x142001 x142002 x142003 x142004))))) else (none)) else (none)) else (binnaclelaw20_CreditGives.l0 k x1 x22 x23 (wrap64 (x24 + 1)))
def binnaclelaw20_CreditGives.j5 : Nat → List (S54) → Int → Int → Int → Int → Int → List Int → Int → Int → List (S54) → Int → Int → Int → Int → Int → Int → Int → Option (Bool)
  | 0, _, _, _, _, _, _, _, _, _, _, _, _, _, _, _, _, _ => none
  | k + 1, x1, x6, x8, x9, x10, x11, x22, x23, x24, x34, x35, x36, x142000, x142001, x142002, x142003, x142004 => if x142000 = x8 then (if x142001 = x9 then (if x142002 = x10 then (if x142003 = x6 then ((credit_Given_Last.f x142000 x142001 x142002 x142003 x142004).bind fun t167 => (if t167 = x11 then ((credit_Given_Wants.f x142000 x142001 x142002 x142003 x142004).bind fun t168 => (if (t168 != (decide ((IntKind.u64.wrap (x8 - x11)) > (IntKind.u64.wrap (Int.tdiv x6 2))))) = true then (some false) else (if x9 > x8 then (some false) else (if x10 > x9 then (some false) else (binnaclelaw20_CreditGives.l1 k x1 x6 x8 x9 x10 x11 x22 x23 x24 x34 x35 (wrap64 (x36 + 1)) x142000 x142001 x142002 x142003 x142004))))) else (some false))) else (some false)) else (some false)) else (some false)) else (some false)
def binnaclelaw20_CreditGives.j2 : Nat → List (S54) → Int → Int → Int → Int → Int → Int → List Int → Int → Int → List (S54) → Int → Int → Int → Bool → Int → Int → Int → Int → Int → Option (Bool)
  | 0, _, _, _, _, _, _, _, _, _, _, _, _, _, _, _, _, _, _, _, _ => none
  | k + 1, x1, x6, x8, x9, x10, x11, x14, x22, x23, x24, x34, x35, x36, x47, x57, x142000, x142001, x142002, x142003, x142004 => if x57 = true then ((credit_Given_Use.f x142000 x142001 x142002 x142003 x142004 x14).bind fun bt145 => (if x14 > (IntKind.u64.wrap (x8 - x9)) then (if bt145.2.2.2.2.2 = 14 then (binnaclelaw20_CreditGives.j3 k x1 x6 x8 x9 x10 x11 x22 x23 x24 x34 x35 x36 (!(bt145.1 == x142000) || (!(bt145.2.1 == x142001) || (!(bt145.2.2.1 == x142002) || (!(bt145.2.2.2.1 == x142003) || (!(bt145.2.2.2.2.1 == x142004)))))) x142000 x142001 x142002 x142003 x142004) else (binnaclelaw20_CreditGives.j3 k x1 x6 x8 x9 x10 x11 x22 x23 x24 x34 x35 x36 true x142000 x142001 x142002 x142003 x142004)) else (if bt145.2.2.2.2.2 = 0 then (binnaclelaw20_CreditGives.j5 k x1 x6 x8 (IntKind.u64.wrap (x9 + x14)) x10 x11 x22 x23 x24 x34 x35 x36 bt145.1 bt145.2.1 bt145.2.2.1 bt145.2.2.2.1 bt145.2.2.2.2.1) else (some false)))) else (if x47 = 3 then (binnaclelaw20_CreditGives.j4 k x1 x6 x8 x9 x10 x11 x14 x22 x23 x24 x34 x35 x36 x47 (x47 == 3) x142000 x142001 x142002 x142003 x142004) else (binnaclelaw20_CreditGives.j4 k x1 x6 x8 x9 x10 x11 x14 x22 x23 x24 x34 x35 x36 x47 (x47 == 4) x142000 x142001 x142002 x142003 x142004))
def binnaclelaw20_CreditGives.j3 : Nat → List (S54) → Int → Int → Int → Int → Int → List Int → Int → Int → List (S54) → Int → Int → Bool → Int → Int → Int → Int → Int → Option (Bool)
  | 0, _, _, _, _, _, _, _, _, _, _, _, _, _, _, _, _, _, _ => none
  | k + 1, x1, x6, x8, x9, x10, x11, x22, x23, x24, x34, x35, x36, x78, x142000, x142001, x142002, x142003, x142004 => if x78 = true then (some false) else (binnaclelaw20_CreditGives.j5 k x1 x6 x8 x9 x10 x11 x22 x23 x24 x34 x35 x36 x142000 x142001 x142002 x142003 x142004)
def binnaclelaw20_CreditGives.j4 : Nat → List (S54) → Int → Int → Int → Int → Int → Int → List Int → Int → Int → List (S54) → Int → Int → Int → Bool → Int → Int → Int → Int → Int → Option (Bool)
  | 0, _, _, _, _, _, _, _, _, _, _, _, _, _, _, _, _, _, _, _, _ => none
  | k + 1, x1, x6, x8, x9, x10, x11, x14, x22, x23, x24, x34, x35, x36, x47, x85, x142000, x142001, x142002, x142003, x142004 => if x85 = true then ((credit_Given_Take.f x142000 x142001 x142002 x142003 x142004 x14).bind fun bt152 => (binnaclelaw20_CreditGives.j5 k x1 x6 (mx x8 (mn (IntKind.u64.wrap ((IntKind.u64.wrap (x10 + (mn x14 (IntKind.u64.wrap (x9 - x10))))) + x6)) 4611686018427387903)) x9 (IntKind.u64.wrap (x10 + (mn x14 (IntKind.u64.wrap (x9 - x10))))) x11 x22 x23 x24 x34 x35 x36 bt152.1 bt152.2.1 bt152.2.2.1 bt152.2.2.2.1 bt152.2.2.2.2)) else (if x47 = 5 then ((credit_Given_Told.f x142000 x142001 x142002 x142003 x142004).bind fun bt157 => (binnaclelaw20_CreditGives.j5 k x1 x6 x8 x9 x10 x8 x22 x23 x24 x34 x35 x36 bt157.1 bt157.2.1 bt157.2.2.1 bt157.2.2.2.1 bt157.2.2.2.2)) else ((credit_Given_Lost.f x142000 x142001 x142002 x142003 x142004).bind fun bt162 => (binnaclelaw20_CreditGives.j5 k x1 x6 x8 x9 x10 (IntKind.u64.wrap (x11 - (mn x11 (IntKind.u64.wrap ((IntKind.u64.wrap (Int.tdiv x6 2)) + 1))))) x22 x23 x24 x34 x35 x36 bt162.1 bt162.2.1 bt162.2.2.1 bt162.2.2.2.1 bt162.2.2.2.2)))
end
def binnaclelaw20_CreditGives.f (k : Nat) (a0 : Int) (l1 : List (S54)) : Option (Bool) := (binnaclelaw20_Awake.f).bind fun t131 => (if t131 = true then ((some (([a0, Int.tmod a0 500] : List Int) : List Int)).bind fun y132 => (binnaclelaw20_CreditGives.l0 k l1 y132 (y132.length : Int) 0)) else (some false))
theorem binnaclelaw20_CreditGives.mono_l : ∀ k, (∀ y0 y1 y2 y3, LeO (binnaclelaw20_CreditGives.l0 k y0 y1 y2 y3) (binnaclelaw20_CreditGives.l0 (k + 1) y0 y1 y2 y3)) ∧ (∀ y0 y1 y2 y3 y4 y5 y6 y7 y8 y9 y10 y11 y12 y13 y14 y15 y16, LeO (binnaclelaw20_CreditGives.l1 k y0 y1 y2 y3 y4 y5 y6 y7 y8 y9 y10 y11 y12 y13 y14 y15 y16) (binnaclelaw20_CreditGives.l1 (k + 1) y0 y1 y2 y3 y4 y5 y6 y7 y8 y9 y10 y11 y12 y13 y14 y15 y16)) ∧ (∀ y0 y1 y2 y3 y4 y5 y6 y7 y8 y9 y10 y11 y12 y13 y14 y15 y16, LeO (binnaclelaw20_CreditGives.j5 k y0 y1 y2 y3 y4 y5 y6 y7 y8 y9 y10 y11 y12 y13 y14 y15 y16) (binnaclelaw20_CreditGives.j5 (k + 1) y0 y1 y2 y3 y4 y5 y6 y7 y8 y9 y10 y11 y12 y13 y14 y15 y16)) ∧ (∀ y0 y1 y2 y3 y4 y5 y6 y7 y8 y9 y10 y11 y12 y13 y14 y15 y16 y17 y18 y19, LeO (binnaclelaw20_CreditGives.j2 k y0 y1 y2 y3 y4 y5 y6 y7 y8 y9 y10 y11 y12 y13 y14 y15 y16 y17 y18 y19) (binnaclelaw20_CreditGives.j2 (k + 1) y0 y1 y2 y3 y4 y5 y6 y7 y8 y9 y10 y11 y12 y13 y14 y15 y16 y17 y18 y19)) ∧ (∀ y0 y1 y2 y3 y4 y5 y6 y7 y8 y9 y10 y11 y12 y13 y14 y15 y16 y17, LeO (binnaclelaw20_CreditGives.j3 k y0 y1 y2 y3 y4 y5 y6 y7 y8 y9 y10 y11 y12 y13 y14 y15 y16 y17) (binnaclelaw20_CreditGives.j3 (k + 1) y0 y1 y2 y3 y4 y5 y6 y7 y8 y9 y10 y11 y12 y13 y14 y15 y16 y17)) ∧ (∀ y0 y1 y2 y3 y4 y5 y6 y7 y8 y9 y10 y11 y12 y13 y14 y15 y16 y17 y18 y19, LeO (binnaclelaw20_CreditGives.j4 k y0 y1 y2 y3 y4 y5 y6 y7 y8 y9 y10 y11 y12 y13 y14 y15 y16 y17 y18 y19) (binnaclelaw20_CreditGives.j4 (k + 1) y0 y1 y2 y3 y4 y5 y6 y7 y8 y9 y10 y11 y12 y13 y14 y15 y16 y17 y18 y19))
  | 0 => ⟨fun _ _ _ _ r h => by simp [binnaclelaw20_CreditGives.l0] at h, fun _ _ _ _ _ _ _ _ _ _ _ _ _ _ _ _ _ r h => by simp [binnaclelaw20_CreditGives.l1] at h, fun _ _ _ _ _ _ _ _ _ _ _ _ _ _ _ _ _ r h => by simp [binnaclelaw20_CreditGives.j5] at h, fun _ _ _ _ _ _ _ _ _ _ _ _ _ _ _ _ _ _ _ _ r h => by simp [binnaclelaw20_CreditGives.j2] at h, fun _ _ _ _ _ _ _ _ _ _ _ _ _ _ _ _ _ _ r h => by simp [binnaclelaw20_CreditGives.j3] at h, fun _ _ _ _ _ _ _ _ _ _ _ _ _ _ _ _ _ _ _ _ r h => by simp [binnaclelaw20_CreditGives.j4] at h⟩
  | k + 1 => by
    obtain ⟨ih0, ih1, ih2, ih3, ih4, ih5⟩ := binnaclelaw20_CreditGives.mono_l k
    refine ⟨?_, ?_, ?_, ?_, ?_, ?_⟩
    · intro y0 y1 y2 y3
      unfold binnaclelaw20_CreditGives.l0
      repeat' first
      | (with_reducible exact ih0 _ _ _ _)
      | (with_reducible exact ih1 _ _ _ _ _ _ _ _ _ _ _ _ _ _ _ _ _)
      | (with_reducible exact ih2 _ _ _ _ _ _ _ _ _ _ _ _ _ _ _ _ _)
      | (with_reducible exact ih3 _ _ _ _ _ _ _ _ _ _ _ _ _ _ _ _ _ _ _ _)
      | (with_reducible exact ih4 _ _ _ _ _ _ _ _ _ _ _ _ _ _ _ _ _ _)
      | (with_reducible exact ih5 _ _ _ _ _ _ _ _ _ _ _ _ _ _ _ _ _ _ _ _)
      | (with_reducible exact LeO.refl _)
      | (with_reducible exact LeO.none _)
      | (with_reducible refine LeO.ite ?_ ?_)
      | (with_reducible refine LeO.bind ?_ (fun _ => ?_))
      | exact ih0 _ _ _ _
      | exact ih1 _ _ _ _ _ _ _ _ _ _ _ _ _ _ _ _ _
      | exact ih2 _ _ _ _ _ _ _ _ _ _ _ _ _ _ _ _ _
      | exact ih3 _ _ _ _ _ _ _ _ _ _ _ _ _ _ _ _ _ _ _ _
      | exact ih4 _ _ _ _ _ _ _ _ _ _ _ _ _ _ _ _ _ _
      | exact ih5 _ _ _ _ _ _ _ _ _ _ _ _ _ _ _ _ _ _ _ _
      | exact LeO.none _
      | refine LeO.ite ?_ ?_
      | refine LeO.bind ?_ (fun _ => ?_)
    · intro y0 y1 y2 y3 y4 y5 y6 y7 y8 y9 y10 y11 y12 y13 y14 y15 y16
      unfold binnaclelaw20_CreditGives.l1
      repeat' first
      | (with_reducible exact ih0 _ _ _ _)
      | (with_reducible exact ih1 _ _ _ _ _ _ _ _ _ _ _ _ _ _ _ _ _)
      | (with_reducible exact ih2 _ _ _ _ _ _ _ _ _ _ _ _ _ _ _ _ _)
      | (with_reducible exact ih3 _ _ _ _ _ _ _ _ _ _ _ _ _ _ _ _ _ _ _ _)
      | (with_reducible exact ih4 _ _ _ _ _ _ _ _ _ _ _ _ _ _ _ _ _ _)
      | (with_reducible exact ih5 _ _ _ _ _ _ _ _ _ _ _ _ _ _ _ _ _ _ _ _)
      | (with_reducible exact LeO.refl _)
      | (with_reducible exact LeO.none _)
      | (with_reducible refine LeO.ite ?_ ?_)
      | (with_reducible refine LeO.bind ?_ (fun _ => ?_))
      | exact ih0 _ _ _ _
      | exact ih1 _ _ _ _ _ _ _ _ _ _ _ _ _ _ _ _ _
      | exact ih2 _ _ _ _ _ _ _ _ _ _ _ _ _ _ _ _ _
      | exact ih3 _ _ _ _ _ _ _ _ _ _ _ _ _ _ _ _ _ _ _ _
      | exact ih4 _ _ _ _ _ _ _ _ _ _ _ _ _ _ _ _ _ _
      | exact ih5 _ _ _ _ _ _ _ _ _ _ _ _ _ _ _ _ _ _ _ _
      | exact LeO.none _
      | refine LeO.ite ?_ ?_
      | refine LeO.bind ?_ (fun _ => ?_)
    · intro y0 y1 y2 y3 y4 y5 y6 y7 y8 y9 y10 y11 y12 y13 y14 y15 y16
      unfold binnaclelaw20_CreditGives.j5
      repeat' first
      | (with_reducible exact ih0 _ _ _ _)
      | (with_reducible exact ih1 _ _ _ _ _ _ _ _ _ _ _ _ _ _ _ _ _)
      | (with_reducible exact ih2 _ _ _ _ _ _ _ _ _ _ _ _ _ _ _ _ _)
      | (with_reducible exact ih3 _ _ _ _ _ _ _ _ _ _ _ _ _ _ _ _ _ _ _ _)
      | (with_reducible exact ih4 _ _ _ _ _ _ _ _ _ _ _ _ _ _ _ _ _ _)
      | (with_reducible exact ih5 _ _ _ _ _ _ _ _ _ _ _ _ _ _ _ _ _ _ _ _)
      | (with_reducible exact LeO.refl _)
      | (with_reducible exact LeO.none _)
      | (with_reducible refine LeO.ite ?_ ?_)
      | (with_reducible refine LeO.bind ?_ (fun _ => ?_))
      | exact ih0 _ _ _ _
      | exact ih1 _ _ _ _ _ _ _ _ _ _ _ _ _ _ _ _ _
      | exact ih2 _ _ _ _ _ _ _ _ _ _ _ _ _ _ _ _ _
      | exact ih3 _ _ _ _ _ _ _ _ _ _ _ _ _ _ _ _ _ _ _ _
      | exact ih4 _ _ _ _ _ _ _ _ _ _ _ _ _ _ _ _ _ _
      | exact ih5 _ _ _ _ _ _ _ _ _ _ _ _ _ _ _ _ _ _ _ _
      | exact LeO.none _
      | refine LeO.ite ?_ ?_
      | refine LeO.bind ?_ (fun _ => ?_)
    · intro y0 y1 y2 y3 y4 y5 y6 y7 y8 y9 y10 y11 y12 y13 y14 y15 y16 y17 y18 y19
      unfold binnaclelaw20_CreditGives.j2
      repeat' first
      | (with_reducible exact ih0 _ _ _ _)
      | (with_reducible exact ih1 _ _ _ _ _ _ _ _ _ _ _ _ _ _ _ _ _)
      | (with_reducible exact ih2 _ _ _ _ _ _ _ _ _ _ _ _ _ _ _ _ _)
      | (with_reducible exact ih3 _ _ _ _ _ _ _ _ _ _ _ _ _ _ _ _ _ _ _ _)
      | (with_reducible exact ih4 _ _ _ _ _ _ _ _ _ _ _ _ _ _ _ _ _ _)
      | (with_reducible exact ih5 _ _ _ _ _ _ _ _ _ _ _ _ _ _ _ _ _ _ _ _)
      | (with_reducible exact LeO.refl _)
      | (with_reducible exact LeO.none _)
      | (with_reducible refine LeO.ite ?_ ?_)
      | (with_reducible refine LeO.bind ?_ (fun _ => ?_))
      | exact ih0 _ _ _ _
      | exact ih1 _ _ _ _ _ _ _ _ _ _ _ _ _ _ _ _ _
      | exact ih2 _ _ _ _ _ _ _ _ _ _ _ _ _ _ _ _ _
      | exact ih3 _ _ _ _ _ _ _ _ _ _ _ _ _ _ _ _ _ _ _ _
      | exact ih4 _ _ _ _ _ _ _ _ _ _ _ _ _ _ _ _ _ _
      | exact ih5 _ _ _ _ _ _ _ _ _ _ _ _ _ _ _ _ _ _ _ _
      | exact LeO.none _
      | refine LeO.ite ?_ ?_
      | refine LeO.bind ?_ (fun _ => ?_)
    · intro y0 y1 y2 y3 y4 y5 y6 y7 y8 y9 y10 y11 y12 y13 y14 y15 y16 y17
      unfold binnaclelaw20_CreditGives.j3
      repeat' first
      | (with_reducible exact ih0 _ _ _ _)
      | (with_reducible exact ih1 _ _ _ _ _ _ _ _ _ _ _ _ _ _ _ _ _)
      | (with_reducible exact ih2 _ _ _ _ _ _ _ _ _ _ _ _ _ _ _ _ _)
      | (with_reducible exact ih3 _ _ _ _ _ _ _ _ _ _ _ _ _ _ _ _ _ _ _ _)
      | (with_reducible exact ih4 _ _ _ _ _ _ _ _ _ _ _ _ _ _ _ _ _ _)
      | (with_reducible exact ih5 _ _ _ _ _ _ _ _ _ _ _ _ _ _ _ _ _ _ _ _)
      | (with_reducible exact LeO.refl _)
      | (with_reducible exact LeO.none _)
      | (with_reducible refine LeO.ite ?_ ?_)
      | (with_reducible refine LeO.bind ?_ (fun _ => ?_))
      | exact ih0 _ _ _ _
      | exact ih1 _ _ _ _ _ _ _ _ _ _ _ _ _ _ _ _ _
      | exact ih2 _ _ _ _ _ _ _ _ _ _ _ _ _ _ _ _ _
      | exact ih3 _ _ _ _ _ _ _ _ _ _ _ _ _ _ _ _ _ _ _ _
      | exact ih4 _ _ _ _ _ _ _ _ _ _ _ _ _ _ _ _ _ _
      | exact ih5 _ _ _ _ _ _ _ _ _ _ _ _ _ _ _ _ _ _ _ _
      | exact LeO.none _
      | refine LeO.ite ?_ ?_
      | refine LeO.bind ?_ (fun _ => ?_)
    · intro y0 y1 y2 y3 y4 y5 y6 y7 y8 y9 y10 y11 y12 y13 y14 y15 y16 y17 y18 y19
      unfold binnaclelaw20_CreditGives.j4
      repeat' first
      | (with_reducible exact ih0 _ _ _ _)
      | (with_reducible exact ih1 _ _ _ _ _ _ _ _ _ _ _ _ _ _ _ _ _)
      | (with_reducible exact ih2 _ _ _ _ _ _ _ _ _ _ _ _ _ _ _ _ _)
      | (with_reducible exact ih3 _ _ _ _ _ _ _ _ _ _ _ _ _ _ _ _ _ _ _ _)
      | (with_reducible exact ih4 _ _ _ _ _ _ _ _ _ _ _ _ _ _ _ _ _ _)
      | (with_reducible exact ih5 _ _ _ _ _ _ _ _ _ _ _ _ _ _ _ _ _ _ _ _)
      | (with_reducible exact LeO.refl _)
      | (with_reducible exact LeO.none _)
      | (with_reducible refine LeO.ite ?_ ?_)
      | (with_reducible refine LeO.bind ?_ (fun _ => ?_))
      | exact ih0 _ _ _ _
      | exact ih1 _ _ _ _ _ _ _ _ _ _ _ _ _ _ _ _ _
      | exact ih2 _ _ _ _ _ _ _ _ _ _ _ _ _ _ _ _ _
      | exact ih3 _ _ _ _ _ _ _ _ _ _ _ _ _ _ _ _ _ _ _ _
      | exact ih4 _ _ _ _ _ _ _ _ _ _ _ _ _ _ _ _ _ _
      | exact ih5 _ _ _ _ _ _ _ _ _ _ _ _ _ _ _ _ _ _ _ _
      | exact LeO.none _
      | refine LeO.ite ?_ ?_
      | refine LeO.bind ?_ (fun _ => ?_)
theorem binnaclelaw20_CreditGives.mono : ∀ a0 a1 k, LeO (binnaclelaw20_CreditGives.f k a0 a1) (binnaclelaw20_CreditGives.f (k + 1) a0 a1) := by
  intro a0 a1 k
  obtain ⟨ih0, ih1, ih2, ih3, ih4, ih5⟩ := binnaclelaw20_CreditGives.mono_l k
  unfold binnaclelaw20_CreditGives.f
  repeat' first
      | (with_reducible exact ih0 _ _ _ _)
      | (with_reducible exact ih1 _ _ _ _ _ _ _ _ _ _ _ _ _ _ _ _ _)
      | (with_reducible exact ih2 _ _ _ _ _ _ _ _ _ _ _ _ _ _ _ _ _)
      | (with_reducible exact ih3 _ _ _ _ _ _ _ _ _ _ _ _ _ _ _ _ _ _ _ _)
      | (with_reducible exact ih4 _ _ _ _ _ _ _ _ _ _ _ _ _ _ _ _ _ _)
      | (with_reducible exact ih5 _ _ _ _ _ _ _ _ _ _ _ _ _ _ _ _ _ _ _ _)
      | (with_reducible exact LeO.refl _)
      | (with_reducible exact LeO.none _)
      | (with_reducible refine LeO.ite ?_ ?_)
      | (with_reducible refine LeO.bind ?_ (fun _ => ?_))
      | exact ih0 _ _ _ _
      | exact ih1 _ _ _ _ _ _ _ _ _ _ _ _ _ _ _ _ _
      | exact ih2 _ _ _ _ _ _ _ _ _ _ _ _ _ _ _ _ _
      | exact ih3 _ _ _ _ _ _ _ _ _ _ _ _ _ _ _ _ _ _ _ _
      | exact ih4 _ _ _ _ _ _ _ _ _ _ _ _ _ _ _ _ _ _
      | exact ih5 _ _ _ _ _ _ _ _ _ _ _ _ _ _ _ _ _ _ _ _
      | exact LeO.none _
      | refine LeO.ite ?_ ?_
      | refine LeO.bind ?_ (fun _ => ?_)
set_option maxHeartbeats 8000000 in
set_option maxRecDepth 100000 in
theorem binnaclelaw20_CreditGives.calls (k : Nat) (a0 : Int) (A1 : Option Addr) (c1 : Nat) (l1 : List (S54)) (r : Bool) (w : World) (hr1 : Kd.C k54 w A1 l1.length l1) (hc1 : l1.length ≤ c1) (h : binnaclelaw20_CreditGives.f k a0 l1 = some r) :
    Calls Try.prog 7 #[.int .u64 a0, .slice A1 l1.length c1] w fun e w' => e = .returned (.bool r) ∧ Below w.heap.size w w' := by
  have hu51 := Try.underlying51
  have hu54 := Try.underlying54
  have HR1 := Aside0.mk hr1
  have HC1 := Aside0.mk hc1
  clear hr1 hc1
  have HB := Aside0.mk (Below.refl w.heap.size w)
  have H : ((binnaclelaw20_Awake.f).bind fun t131 => (if t131 = true then ((some (([a0, Int.tmod a0 500] : List Int) : List Int)).bind fun y132 => (binnaclelaw20_CreditGives.l0 k l1 y132 (y132.length : Int) 0)) else (some false))) = some r := h
  clear h
  replace H := Option.bind_eq_some_iff.mp H
  obtain ⟨t131, A30, H⟩ := H
  replace H : (if t131 = true then ((some (([a0, Int.tmod a0 500] : List Int) : List Int)).bind fun y132 => (binnaclelaw20_CreditGives.l0 k l1 y132 (y132.length : Int) 0)) else (some false)) = some r := H
  have A3 := Aside0.mk A30
  clear A30
  by_cases c4 : t131 = true
  · subst c4
    have H1 : ((some (([a0, Int.tmod a0 500] : List Int) : List Int)).bind fun y132 => (binnaclelaw20_CreditGives.l0 k l1 y132 (y132.length : Int) 0)) = some r := by rw [if_pos rfl] at H; exact H
    clear H
    have H := H1
    clear H1
    obtain ⟨y132, hy132⟩ : ∃ y_ : List Int, y_ = (([a0, Int.tmod a0 500] : List Int)) := ⟨_, rfl⟩
    replace H : (binnaclelaw20_CreditGives.l0 k l1 y132 (y132.length : Int) 0) = some r := by first | (rw [hy132]; with_reducible exact H) | (have H2_ := (Option.bind_some _ _).symm.trans H; rw [hy132]; with_reducible exact H2_) | (have H2_ := (Option.bind_some _ _).symm.trans H; with_reducible exact H2_) | with_reducible exact H | (rw [hy132]; exact H) | exact H
    have Ny132 := Aside0.mk hy132
    clear hy132
    have H' := Aside0.mk H
    clear H
    go_enter Try.func7, Try.ntmps7
    go_wp2_with (first | ((with_reducible refine gate_callee (f := 26) rfl ?_); refine goesL_ (some 17) rfl rfl Try.func26 (by kernel_rfl) rfl #[] rfl (by (try simp only [List.map_toArray, List.map_cons, List.map_nil]); first | done | rfl | (simp only [List.length_drop, List.length_take]; rfl)) ?_; (with_reducible refine (binnaclelaw20_Awake.calls  true _ A3.out).mono ?_); rintro e w5 ⟨rfl, hb⟩; refine ⟨_, rfl, ?_⟩; have n0_ := Aside0.mk (below_step (by repeat (first | (with_reducible first | exact HB.out | apply below_alloc | apply pw_below_drewN | apply below_drew1) | exact HB.out)) hb); clear HB; have HB := n0_; clear n0_; (try clear hb); (try clear hb2); (try clear hk); (try clear hi)) | ((with_reducible refine gate_dst (N := 22) rfl ?_); refine Kd.R_lit (Kd.int .u64) _ 24 ?hg (N := 22) ?hd (xs := ([a0, Int.tmod a0 500] : List Int)) (inner := [.int .u64 a0, .int .u64 (Int.tmod a0 500)]) (ok := fun _ => True) (okp := fun _ => True) ?hr ?hp (fun _ hk => hk) trivial (Below.refl _ _) (Nat.le_refl _) (by simp) ?_; (case hd => rfl); (case hg => rfl); (case hr => first | (go_simp; done) | (go_simp; rfl)); (case hp => exact (Reps.one (show Kd.M (Kd.int .u64) _ _ _ a0 [.int .u64 a0] from rfl) (Reps.one (show Kd.M (Kd.int .u64) _ _ _ (Int.tmod a0 500) [.int .u64 (Int.tmod a0 500)] from rfl) (Reps.none _ _)))); intro v133 w6 ho7 hb hg_ hnew_; clear hg_ hnew_; (first | rw [← Ny132.out] at ho7 | (simp only [Int.reduceToNat] at ho7; rw [← Ny132.out] at ho7)); have n0_ := Aside0.mk (Kd.R_lower ho7 (below_size (by repeat (first | (with_reducible first | exact HB.out | apply below_alloc | apply pw_below_drewN | apply below_drew1) | exact HB.out)))); have n1_ := Aside0.mk (below_step (by repeat (first | (with_reducible first | exact HB.out | apply below_alloc | apply pw_below_drewN | apply below_drew1) | exact HB.out)) hb); clear HB; have HO134 := n0_; have HB := n1_; clear n0_ n1_; clear hb ho7; obtain ⟨Ao8, co8, eo8⟩ := Kd.R_slice HO134.out; subst eo8))
    go_loopg [24] k (fun kq v24 w' => ∃ (x24_1 : Int), v24 = .int .i64 x24_1 ∧ Aside0 (binnaclelaw20_CreditGives.l0 kq l1 y132 (y132.length : Int) x24_1 = some r) ∧ Aside0 (kq ≤ k) ∧ Aside0 (Kd.R (Kd.int .u64) 24 w' w.heap.size (fun _ => True) (.slice Ao8 y132.length co8) y132) ∧ Aside0 (Below w.heap.size w w'))
    case atStart => exact ⟨(0), (by first | rfl | (simp; done) | (simp [*]; done)), H', ⟨Nat.le_refl _⟩, ⟨by (with_reducible repeat (first | apply Kd.R_alloc | apply Kd.R_drewN | apply Kd.R_drew)); exact HO134.out⟩, ⟨by repeat (first | (with_reducible first | exact HB.out | apply below_alloc | apply pw_below_drewN | apply below_drew1) | exact HB.out)⟩⟩
    case round =>
      clear H'
      try clear c1
      try clear c2
      try clear p2
      try clear c4
      try clear c7
      obtain ⟨x24_1, rfl, HA, HK1, HO_22, HB⟩ := hrel
      cases gk with
      | zero => exact absurd HA.out (by simp [binnaclelaw20_CreditGives.l0])
      | succ k1 =>
        have H := HA.out
        clear HA
        simp only [binnaclelaw20_CreditGives.l0] at H
        by_cases c9 : x24_1 < (y132.length : Int)
        · rw [if_pos c9] at H
          have c9b0 : decide (x24_1 < (y132.length : Int)) = true := decide_eq_true c9
          clear c9
          by_cases c10 : 0 ≤ x24_1
          · rw [if_pos c10] at H
            have c10b0 : decide (0 ≤ x24_1) = true := decide_eq_true c10
            clear c10
            by_cases c11 : x24_1 < (y132.length : Int)
            · rw [if_pos c11] at H
              have c11b0 : decide (x24_1 < (y132.length : Int)) = true := decide_eq_true c11
              clear c11
              replace H := Option.bind_eq_some_iff.mp H
              obtain ⟨⟨t136, t137, t138, t139, t140⟩, A120, H⟩ := H
              replace H : (binnaclelaw20_CreditGives.l1 k1 l1 (mn (rd y132 x24_1) 4611686018427387903) (mn (rd y132 x24_1) 4611686018427387903) 0 0 (mn (rd y132 x24_1) 4611686018427387903) y132 (y132.length : Int) x24_1 l1 (l1.length : Int) 0 t136 t137 t138 t139 t140) = some r := H
              have A12 := Aside0.mk A120
              clear A120
              obtain ⟨ji13, hji13⟩ : ∃ j_ : Int, (mn (rd y132 x24_1) 4611686018427387903) = j_ := ⟨_, rfl⟩
              replace H : (binnaclelaw20_CreditGives.l1 k1 l1 ji13 ji13 0 0 ji13 y132 (y132.length : Int) x24_1 l1 (l1.length : Int) 0 t136 t137 t138 t139 t140) = some r := by first | (rw [hji13] at H; exact H) | (simp only [hji13] at H ⊢; exact H)
              (try rw [hji13] at A12)
              have hji13_ : (if 4611686018427387903 < (rd y132 x24_1) then 4611686018427387903 else (rd y132 x24_1)) = ji13 := hji13
              have H' := Aside0.mk H
              clear H
              have p135 : 0 ≤ (x24_1 : Int) := of_decide_eq_true (by first | (with_reducible assumption) | assumption)
              have q135 : x24_1 < (y132.length : Int) := of_decide_eq_true (by first | (with_reducible assumption) | assumption)
              obtain ⟨ad135, e135, hx135_0⟩ := Kd.at_int (Kd.R_reads' HO_22.out).2.2 x24_1 p135 q135
              cases e135
              replace p135 := eq_true p135
              replace q135 := eq_true q135
              go_wp2_with (first | ((with_reducible refine gate_callee (f := 27) rfl ?_); refine goesL_ (some 29) rfl rfl Try.func27 (by kernel_rfl) rfl #[.int .u64 (rd y132 x24_1)] rfl (by (try simp only [List.map_toArray, List.map_cons, List.map_nil]); first | done | rfl | (simp only [List.length_drop, List.length_take]; rfl)) ?_; (with_reducible refine (credit_New.calls (rd y132 x24_1) t136 t137 t138 t139 t140 _ A12.out).mono ?_); rintro e w14 ⟨rfl, hb⟩; refine ⟨_, rfl, ?_⟩; have n0_ := Aside0.mk (Kd.R_below (by (with_reducible repeat (first | apply Kd.R_alloc | apply Kd.R_drewN | apply Kd.R_drew)); exact HO_22.out) hb); have n1_ := Aside0.mk (below_step (by repeat (first | (with_reducible first | exact HB.out | apply below_alloc | apply pw_below_drewN | apply below_drew1) | exact HB.out)) hb); clear HO_22; clear HB; have HO_22 := n0_; have HB := n1_; clear n0_ n1_; (try clear hb); (try clear hb2); (try clear hk); (try clear hi)) | ((with_reducible refine gate_dst (N := 7) rfl ?_); refine box_event ?hg (N := 7) ?hd (cs := #[.int .u64 0, .int .u64 0, .int .u64 0, .int .u64 0, .int .u64 0]) (t := 51) ?hr ?_; (case hd => rfl); (case hg => rfl); (case hr => first | (go_simp; done) | (go_simp; rfl)); intro gb141 hg w15 hbox hb; have n0_ := Aside0.mk (Kd.R_below (by (with_reducible repeat (first | apply Kd.R_alloc | apply Kd.R_drewN | apply Kd.R_drew)); exact HO_22.out) hb); have n1_ := Aside0.mk (below_step (by repeat (first | (with_reducible first | exact HB.out | apply below_alloc | apply pw_below_drewN | apply below_drew1) | exact HB.out)) hb); have n2_ := Aside0.mk (hbox); have n3_ := Aside0.mk ((by rw [hg]; exact (below_size (by repeat (first | (with_reducible first | exact HB.out | apply below_alloc | apply pw_below_drewN | apply below_drew1) | exact HB.out))) : w.heap.size ≤ gb141)); have n4_ := Aside0.mk ((by rw [hg]; exact (below_size (by repeat (first | (with_reducible first | exact HB.out | apply below_alloc | apply pw_below_drewN | apply below_drew1) | exact HB.out))) : w.heap.size ≤ gb141)); clear HO_22; clear HB; have HO_22 := n0_; have HB := n1_; have BK141 := n2_; have GW141 := n3_; have GE141 := n4_; clear n0_ n1_ n2_ n3_ n4_; clear hb hbox hg; have hcz16_0 : w15.cell? ⟨gb141, 0, none⟩ = some (.int .u64 0) := (blk_cell BK141.out 0).trans rfl; have hcz16_1 : w15.cell? ⟨gb141, 1, none⟩ = some (.int .u64 0) := (blk_cell BK141.out 1).trans rfl; have hcz16_2 : w15.cell? ⟨gb141, 2, none⟩ = some (.int .u64 0) := (blk_cell BK141.out 2).trans rfl; have hcz16_3 : w15.cell? ⟨gb141, 3, none⟩ = some (.int .u64 0) := (blk_cell BK141.out 3).trans rfl; have hcz16_4 : w15.cell? ⟨gb141, 4, none⟩ = some (.int .u64 0) := (blk_cell BK141.out 4).trans rfl; have hfz16_0 := blk_frozen BK141.out 0; have hfz16_1 := blk_frozen BK141.out 1; have hfz16_2 := blk_frozen BK141.out 2; have hfz16_3 := blk_frozen BK141.out 3; have hfz16_4 := blk_frozen BK141.out 4))
              go_loopg [8, 9, 10, 11, 36] k1 (fun kq v8 v9 v10 v11 v36 w' => ∃ (x8_2 : Int) (x9_2 : Int) (x10_2 : Int) (x11_2 : Int) (x36_2 : Int) (x142000_2 : Int) (x142001_2 : Int) (x142002_2 : Int) (x142003_2 : Int) (x142004_2 : Int), v8 = .int .u64 x8_2 ∧ v9 = .int .u64 x9_2 ∧ v10 = .int .u64 x10_2 ∧ v11 = .int .u64 x11_2 ∧ v36 = .int .i64 x36_2 ∧ Aside0 (binnaclelaw20_CreditGives.l1 kq l1 ji13 x8_2 x9_2 x10_2 x11_2 y132 (y132.length : Int) x24_1 l1 (l1.length : Int) x36_2 x142000_2 x142001_2 x142002_2 x142003_2 x142004_2 = some r) ∧ Aside0 (kq ≤ k1) ∧ Aside0 (Kd.R (Kd.int .u64) 24 w' w.heap.size (fun _ => True) (.slice (some ad135) y132.length co8) y132) ∧ Aside0 (w'.heap[gb141]? = some (.cells #[.int .u64 x142000_2, .int .u64 x142001_2, .int .u64 x142002_2, .int .u64 x142003_2, .int .u64 x142004_2] 51 (0, 0))) ∧ Aside0 (Below w.heap.size w w'))
              case atStart => exact ⟨(ji13), (0), (0), (ji13), (0), (t136), (t137), (t138), (t139), (t140), (by first | rfl | (simp; done) | (simp only [← hji13] <;> (first | rfl | simp)) | (simp [*]; done)), (by first | rfl | (simp; done) | (simp [*]; done)), (by first | rfl | (simp; done) | (simp [*]; done)), (by first | rfl | (simp; done) | (simp only [← hji13] <;> (first | rfl | simp)) | (simp [*]; done)), (by first | rfl | (simp; done) | (simp [*]; done)), H', ⟨Nat.le_refl _⟩, ⟨by (with_reducible repeat (first | apply Kd.R_alloc | apply Kd.R_drewN | apply Kd.R_drew)); exact Kd.R_mono (Kd.R_far (p := ⟨gb141, 4, none⟩) (Kd.R_far (p := ⟨gb141, 3, none⟩) (Kd.R_far (p := ⟨gb141, 2, none⟩) (Kd.R_far (p := ⟨gb141, 1, none⟩) (Kd.R_far (p := ⟨gb141, 0, none⟩) (Kd.R_types HO_22.out BK141.out (by decide)) (fun _ hk => hk.2) (.int .u64 t136)) (fun _ hk => hk.2) (.int .u64 t137)) (fun _ hk => hk.2) (.int .u64 t138)) (fun _ hk => hk.2) (.int .u64 t139)) (fun _ hk => hk.2) (.int .u64 t140)) (fun _ hk => trivial)⟩, ⟨by (with_reducible repeat (first | refine blk_drewN ?_ _ | refine blk_drew ?_ | refine blk_alloc ?_ _)); refine blk_put (cs := #[.int .u64 t136, .int .u64 t137, .int .u64 t138, .int .u64 t139, .int .u64 0]) ?_ 4 _ rfl; (with_reducible repeat (first | refine blk_drewN ?_ _ | refine blk_drew ?_ | refine blk_alloc ?_ _)); refine blk_put (cs := #[.int .u64 t136, .int .u64 t137, .int .u64 t138, .int .u64 0, .int .u64 0]) ?_ 3 _ rfl; (with_reducible repeat (first | refine blk_drewN ?_ _ | refine blk_drew ?_ | refine blk_alloc ?_ _)); refine blk_put (cs := #[.int .u64 t136, .int .u64 t137, .int .u64 0, .int .u64 0, .int .u64 0]) ?_ 2 _ rfl; (with_reducible repeat (first | refine blk_drewN ?_ _ | refine blk_drew ?_ | refine blk_alloc ?_ _)); refine blk_put (cs := #[.int .u64 t136, .int .u64 0, .int .u64 0, .int .u64 0, .int .u64 0]) ?_ 1 _ rfl; (with_reducible repeat (first | refine blk_drewN ?_ _ | refine blk_drew ?_ | refine blk_alloc ?_ _)); refine blk_put (cs := #[.int .u64 0, .int .u64 0, .int .u64 0, .int .u64 0, .int .u64 0]) ?_ 0 _ rfl; (with_reducible repeat (first | refine blk_drewN ?_ _ | refine blk_drew ?_ | refine blk_alloc ?_ _)); exact BK141.out⟩, ⟨by repeat (first | (with_reducible first | exact HB.out | apply below_alloc | apply pw_below_drewN | apply below_drew1 | refine below_set ?_ GE141.out) | exact HB.out)⟩⟩
              case round =>
                clear H'
                try clear c1
                try clear p1
                try clear q1
                try clear hx1
                try clear c2
                try clear p2
                try clear c4
                try clear c7
                try clear c9
                try clear c9b0
                try clear c10
                try clear c10b0
                try clear c11
                try clear c11b0
                try clear p13
                try clear q13
                try clear hx13
                try clear hcz16_0
                try clear hcz16_1
                try clear hcz16_2
                try clear hcz16_3
                try clear hcz16_4
                try clear hfz16_0
                try clear hfz16_1
                try clear hfz16_2
                try clear hfz16_3
                try clear hfz16_4
                try clear hx135_0
                try clear p135
                try clear p2
                try clear q135
                obtain ⟨x8_2, x9_2, x10_2, x11_2, x36_2, x142000_2, x142001_2, x142002_2, x142003_2, x142004_2, rfl, rfl, rfl, rfl, rfl, HA, HK2, HO_22, BK141, HB⟩ := hrel
                cases gk with
                | zero => exact absurd HA.out (by simp [binnaclelaw20_CreditGives.l1])
                | succ k2 =>
                  have H := HA.out
                  clear HA
                  simp only [binnaclelaw20_CreditGives.l1] at H
                  by_cases c17 : x36_2 < (l1.length : Int)
                  · rw [if_pos c17] at H
                    have c17b0 : decide (x36_2 < (l1.length : Int)) = true := decide_eq_true c17
                    clear c17
                    by_cases c18 : 0 ≤ x36_2
                    · rw [if_pos c18] at H
                      have c18b0 : decide (0 ≤ x36_2) = true := decide_eq_true c18
                      clear c18
                      by_cases c19 : x36_2 < (l1.length : Int)
                      · rw [if_pos c19] at H
                        have c19b0 : decide (x36_2 < (l1.length : Int)) = true := decide_eq_true c19
                        clear c19
                        by_cases c20 : x36_2 ≥ 80
                        · rw [if_pos c20] at H
                          have c20b0 : decide (80 ≤ x36_2) = true := decide_eq_true c20
                          clear c20
                          have H' := Aside0.mk H
                          clear H
                          have p142 : 0 ≤ (x36_2 : Int) := of_decide_eq_true (by first | (with_reducible assumption) | assumption)
                          have q142 : x36_2 < (l1.length : Int) := of_decide_eq_true (by first | (with_reducible assumption) | assumption)
                          obtain ⟨ad142, e142, hx142_0, hx142_1, hx142_2, hx142_3⟩ := at_T54 HR1.out x36_2 p142 q142
                          cases e142
                          replace hx142_0 := (HB.out.cell (World.block_lt_of_cell? w _ hx142_0)).trans hx142_0
                          replace hx142_1 := (HB.out.cell (World.block_lt_of_cell? w _ hx142_1)).trans hx142_1
                          replace hx142_2 := (HB.out.cell (World.block_lt_of_cell? w _ hx142_2)).trans hx142_2
                          replace hx142_3 := (HB.out.cell (World.block_lt_of_cell? w _ hx142_3)).trans hx142_3
                          replace p142 := eq_true p142
                          replace q142 := eq_true q142
                          go_wp2_with (first | ((with_reducible refine gate_dst (N := 13) rfl ?_); refine box_event ?hg (N := 13) ?hd (cs := #[.int .u8 0, .int .u16 0, .int .u64 0, .bool false]) (t := 54) ?hr ?_; (case hd => rfl); (case hg => rfl); (case hr => first | (go_simp; done) | (go_simp; rfl)); intro gb143 hg w21 hbox hb; have n0_ := Aside0.mk (Kd.R_below (by (with_reducible repeat (first | apply Kd.R_alloc | apply Kd.R_drewN | apply Kd.R_drew)); exact HO_22.out) hb); have n1_ := Aside0.mk (blk_below (g := gb141) (o := .cells #[.int .u64 x142000_2, .int .u64 x142001_2, .int .u64 x142002_2, .int .u64 x142003_2, .int .u64 x142004_2] 51 (0, 0)) (by (with_reducible repeat (first | refine blk_drewN ?_ _ | refine blk_drew ?_ | refine blk_alloc ?_ _)); exact BK141.out) hb); have n2_ := Aside0.mk (below_step (by repeat (first | (with_reducible first | exact HB.out | apply below_alloc | apply pw_below_drewN | apply below_drew1 | refine below_set ?_ GE141.out) | exact HB.out)) hb); have n3_ := Aside0.mk (hbox); have n4_ := Aside0.mk ((by rw [hg]; exact (below_size (by repeat (first | (with_reducible first | exact HB.out | apply below_alloc | apply pw_below_drewN | apply below_drew1 | refine below_set ?_ GE141.out) | exact HB.out))) : w.heap.size ≤ gb143)); have n5_ := Aside0.mk ((by rw [hg]; exact (below_size (by repeat (first | (with_reducible first | exact HB.out | apply below_alloc | apply pw_below_drewN | apply below_drew1 | refine below_set ?_ GE141.out) | exact HB.out))) : w.heap.size ≤ gb143)); have n6_ := Aside0.mk ((by rw [hg]; exact Nat.ne_of_lt (blk_lt (g := gb141) (o := .cells #[.int .u64 x142000_2, .int .u64 x142001_2, .int .u64 x142002_2, .int .u64 x142003_2, .int .u64 x142004_2] 51 (0, 0)) (by (with_reducible repeat (first | refine blk_drewN ?_ _ | refine blk_drew ?_ | refine blk_alloc ?_ _)); exact BK141.out)) : gb141 ≠ gb143)); have n7_ := Aside0.mk ((by rw [hg]; exact Nat.ne_of_gt (blk_lt (g := gb141) (o := .cells #[.int .u64 x142000_2, .int .u64 x142001_2, .int .u64 x142002_2, .int .u64 x142003_2, .int .u64 x142004_2] 51 (0, 0)) (by (with_reducible repeat (first | refine blk_drewN ?_ _ | refine blk_drew ?_ | refine blk_alloc ?_ _)); exact BK141.out)) : gb143 ≠ gb141)); clear HO_22; clear BK141; clear HB; have HO_22 := n0_; have BK141 := n1_; have HB := n2_; have BK143 := n3_; have GW143 := n4_; have GE143 := n5_; have NB141_143 := n6_; have NB143_141 := n7_; clear n0_ n1_ n2_ n3_ n4_ n5_ n6_ n7_; clear hb hbox hg; have hnb22 := NB143_141.out; have hnc22 := NB141_143.out; have hcz23_0 : w21.cell? ⟨gb143, 0, none⟩ = some (.int .u8 0) := (blk_cell BK143.out 0).trans rfl; have hcz23_1 : w21.cell? ⟨gb143, 1, none⟩ = some (.int .u16 0) := (blk_cell BK143.out 1).trans rfl; have hcz23_2 : w21.cell? ⟨gb143, 2, none⟩ = some (.int .u64 0) := (blk_cell BK143.out 2).trans rfl; have hcz23_3 : w21.cell? ⟨gb143, 3, none⟩ = some (.bool false) := (blk_cell BK143.out 3).trans rfl; have hfz23_0 := blk_frozen BK143.out 0; have hfz23_1 := blk_frozen BK143.out 1; have hfz23_2 := blk_frozen BK143.out 2; have hfz23_3 := blk_frozen BK143.out 3))
                          go_roundg k2
                          case measure => have := HK1.out; have := HK2.out; omega
                          case rel => exact ⟨(wrap64 (x24_1 + 1)), (by first | rfl | (simp; done) | (simp [*]; done)), H', ⟨by have := HK1.out; have := HK2.out; omega⟩, ⟨by (with_reducible repeat (first | apply Kd.R_alloc | apply Kd.R_drewN | apply Kd.R_drew)); exact Kd.R_mono (Kd.R_far (p := ⟨gb143, 3, none⟩) (Kd.R_far (p := ⟨gb143, 2, none⟩) (Kd.R_far (p := ⟨gb143, 1, none⟩) (Kd.R_far (p := ⟨gb143, 0, none⟩) (Kd.R_types HO_22.out BK143.out (by decide)) (fun _ hk => hk.2) (.int .u8 ((rd_T54 l1 x36_2).f0))) (fun _ hk => hk.2) (.int .u16 ((rd_T54 l1 x36_2).f1))) (fun _ hk => hk.2) (.int .u64 ((rd_T54 l1 x36_2).f2))) (fun _ hk => hk.2) (.bool ((rd_T54 l1 x36_2).f3))) (fun _ hk => trivial)⟩, ⟨by repeat (first | (with_reducible first | exact HB.out | apply below_alloc | apply pw_below_drewN | apply below_drew1 | refine below_set ?_ GE141.out | refine below_set ?_ GE143.out) | exact HB.out)⟩⟩
                        · rw [if_neg c20] at H
                          have c20b0 : decide (80 ≤ x36_2) = false := decide_eq_false c20
                          clear c20
                          replace H := Option.bind_eq_some_iff.mp H
                          obtain ⟨t144, A240, H⟩ := H
                          replace H : (if (Int.tmod ((rd_T54 l1 x36_2).f0) 7) = 0 then (binnaclelaw20_CreditGives.j2 k2 l1 ji13 x8_2 x9_2 x10_2 x11_2 t144 y132 (y132.length : Int) x24_1 l1 (l1.length : Int) x36_2 (Int.tmod ((rd_T54 l1 x36_2).f0) 7) ((Int.tmod ((rd_T54 l1 x36_2).f0) 7) == 0) x142000_2 x142001_2 x142002_2 x142003_2 x142004_2) else (if (Int.tmod ((rd_T54 l1 x36_2).f0) 7) = 1 then (binnaclelaw20_CreditGives.j2 k2 l1 ji13 x8_2 x9_2 x10_2 x11_2 t144 y132 (y132.length : Int) x24_1 l1 (l1.length : Int) x36_2 (Int.tmod ((rd_T54 l1 x36_2).f0) 7) ((Int.tmod ((rd_T54 l1 x36_2).f0) 7) == 1) x142000_2 x142001_2 x142002_2 x142003_2 x142004_2) else (binnaclelaw20_CreditGives.j2 k2 l1 ji13 x8_2 x9_2 x10_2 x11_2 t144 y132 (y132.length : Int) x24_1 l1 (l1.length : Int) x36_2 (Int.tmod ((rd_T54 l1 x36_2).f0) 7) ((Int.tmod ((rd_T54 l1 x36_2).f0) 7) == 2) x142000_2 x142001_2 x142002_2 x142003_2 x142004_2))) = some r := H
                          have A24 := Aside0.mk A240
                          clear A240
                          have HC25 := Aside0.mk H
                          clear H
                          have p142 : 0 ≤ (x36_2 : Int) := of_decide_eq_true (by first | (with_reducible assumption) | assumption)
                          have q142 : x36_2 < (l1.length : Int) := of_decide_eq_true (by first | (with_reducible assumption) | assumption)
                          obtain ⟨ad142, e142, hx142_0, hx142_1, hx142_2, hx142_3⟩ := at_T54 HR1.out x36_2 p142 q142
                          cases e142
                          replace hx142_0 := (HB.out.cell (World.block_lt_of_cell? w _ hx142_0)).trans hx142_0
                          replace hx142_1 := (HB.out.cell (World.block_lt_of_cell? w _ hx142_1)).trans hx142_1
                          replace hx142_2 := (HB.out.cell (World.block_lt_of_cell? w _ hx142_2)).trans hx142_2
                          replace hx142_3 := (HB.out.cell (World.block_lt_of_cell? w _ hx142_3)).trans hx142_3
                          replace p142 := eq_true p142
                          replace q142 := eq_true q142
                          go_upto_block 4 with (first | ((with_reducible refine gate_dst (N := 13) rfl ?_); refine box_event ?hg (N := 13) ?hd (cs := #[.int .u8 0, .int .u16 0, .int .u64 0, .bool false]) (t := 54) ?hr ?_; (case hd => rfl); (case hg => rfl); (case hr => first | (go_simp; done) | (go_simp; rfl)); intro gb143 hg w26 hbox hb; have n0_ := Aside0.mk (Kd.R_below (by (with_reducible repeat (first | apply Kd.R_alloc | apply Kd.R_drewN | apply Kd.R_drew)); exact HO_22.out) hb); have n1_ := Aside0.mk (blk_below (g := gb141) (o := .cells #[.int .u64 x142000_2, .int .u64 x142001_2, .int .u64 x142002_2, .int .u64 x142003_2, .int .u64 x142004_2] 51 (0, 0)) (by (with_reducible repeat (first | refine blk_drewN ?_ _ | refine blk_drew ?_ | refine blk_alloc ?_ _)); exact BK141.out) hb); have n2_ := Aside0.mk (below_step (by repeat (first | (with_reducible first | exact HB.out | apply below_alloc | apply pw_below_drewN | apply below_drew1 | refine below_set ?_ GE141.out) | exact HB.out)) hb); have n3_ := Aside0.mk (hbox); have n4_ := Aside0.mk ((by rw [hg]; exact (below_size (by repeat (first | (with_reducible first | exact HB.out | apply below_alloc | apply pw_below_drewN | apply below_drew1 | refine below_set ?_ GE141.out) | exact HB.out))) : w.heap.size ≤ gb143)); have n5_ := Aside0.mk ((by rw [hg]; exact (below_size (by repeat (first | (with_reducible first | exact HB.out | apply below_alloc | apply pw_below_drewN | apply below_drew1 | refine below_set ?_ GE141.out) | exact HB.out))) : w.heap.size ≤ gb143)); have n6_ := Aside0.mk ((by rw [hg]; exact Nat.ne_of_lt (blk_lt (g := gb141) (o := .cells #[.int .u64 x142000_2, .int .u64 x142001_2, .int .u64 x142002_2, .int .u64 x142003_2, .int .u64 x142004_2] 51 (0, 0)) (by (with_reducible repeat (first | refine blk_drewN ?_ _ | refine blk_drew ?_ | refine blk_alloc ?_ _)); exact BK141.out)) : gb141 ≠ gb143)); have n7_ := Aside0.mk ((by rw [hg]; exact Nat.ne_of_gt (blk_lt (g := gb141) (o := .cells #[.int .u64 x142000_2, .int .u64 x142001_2, .int .u64 x142002_2, .int .u64 x142003_2, .int .u64 x142004_2] 51 (0, 0)) (by (with_reducible repeat (first | refine blk_drewN ?_ _ | refine blk_drew ?_ | refine blk_alloc ?_ _)); exact BK141.out)) : gb143 ≠ gb141)); clear HO_22; clear BK141; clear HB; have HO_22 := n0_; have BK141 := n1_; have HB := n2_; have BK143 := n3_; have GW143 := n4_; have GE143 := n5_; have NB141_143 := n6_; have NB143_141 := n7_; clear n0_ n1_ n2_ n3_ n4_ n5_ n6_ n7_; clear hb hbox hg; have hnb27 := NB143_141.out; have hnc27 := NB141_143.out; have hcz28_0 : w26.cell? ⟨gb143, 0, none⟩ = some (.int .u8 0) := (blk_cell BK143.out 0).trans rfl; have hcz28_1 : w26.cell? ⟨gb143, 1, none⟩ = some (.int .u16 0) := (blk_cell BK143.out 1).trans rfl; have hcz28_2 : w26.cell? ⟨gb143, 2, none⟩ = some (.int .u64 0) := (blk_cell BK143.out 2).trans rfl; have hcz28_3 : w26.cell? ⟨gb143, 3, none⟩ = some (.bool false) := (blk_cell BK143.out 3).trans rfl; have hfz28_0 := blk_frozen BK143.out 0; have hfz28_1 := blk_frozen BK143.out 1; have hfz28_2 := blk_frozen BK143.out 2; have hfz28_3 := blk_frozen BK143.out 3) | ((with_reducible refine gate_callee (f := 28) rfl ?_); refine goesL_ (some 44) rfl rfl Try.func28 (by kernel_rfl) rfl #[.agg #[.int .u8 ((rd_T54 l1 x36_2).f0), .int .u16 ((rd_T54 l1 x36_2).f1), .int .u64 ((rd_T54 l1 x36_2).f2), .bool ((rd_T54 l1 x36_2).f3)]] rfl (by (try simp only [List.map_toArray, List.map_cons, List.map_nil]); first | done | rfl | (simp only [List.length_drop, List.length_take]; rfl)) ?_; (with_reducible refine (binnaclelaw20_Act_number.calls ((rd_T54 l1 x36_2).f0) ((rd_T54 l1 x36_2).f1) ((rd_T54 l1 x36_2).f2) ((rd_T54 l1 x36_2).f3) t144 _ A24.out).mono ?_); rintro e w29 ⟨rfl, hb⟩; refine ⟨_, rfl, ?_⟩; have n0_ := Aside0.mk (Kd.R_below (by (with_reducible repeat (first | apply Kd.R_alloc | apply Kd.R_drewN | apply Kd.R_drew)); exact (Kd.R_mono (Kd.R_far (p := ⟨gb143, 3, none⟩) (Kd.R_far (p := ⟨gb143, 2, none⟩) (Kd.R_far (p := ⟨gb143, 1, none⟩) (Kd.R_far (p := ⟨gb143, 0, none⟩) (Kd.R_types HO_22.out BK143.out (by decide)) (fun _ hk => hk.2) (.int .u8 ((rd_T54 l1 x36_2).f0))) (fun _ hk => hk.2) (.int .u16 ((rd_T54 l1 x36_2).f1))) (fun _ hk => hk.2) (.int .u64 ((rd_T54 l1 x36_2).f2))) (fun _ hk => hk.2) (.bool ((rd_T54 l1 x36_2).f3))) (fun _ h_ => h_.1))) hb); have n1_ := Aside0.mk (blk_below (g := gb141) (o := .cells #[.int .u64 x142000_2, .int .u64 x142001_2, .int .u64 x142002_2, .int .u64 x142003_2, .int .u64 x142004_2] 51 (0, 0)) (by (with_reducible repeat (first | refine blk_drewN ?_ _ | refine blk_drew ?_ | refine blk_alloc ?_ _)); refine blk_far ?_ NB141_143.out _; (with_reducible repeat (first | refine blk_drewN ?_ _ | refine blk_drew ?_ | refine blk_alloc ?_ _)); refine blk_far ?_ NB141_143.out _; (with_reducible repeat (first | refine blk_drewN ?_ _ | refine blk_drew ?_ | refine blk_alloc ?_ _)); refine blk_far ?_ NB141_143.out _; (with_reducible repeat (first | refine blk_drewN ?_ _ | refine blk_drew ?_ | refine blk_alloc ?_ _)); refine blk_far ?_ NB141_143.out _; (with_reducible repeat (first | refine blk_drewN ?_ _ | refine blk_drew ?_ | refine blk_alloc ?_ _)); exact BK141.out) hb); have n2_ := Aside0.mk (blk_below (g := gb143) (o := .cells #[.int .u8 ((rd_T54 l1 x36_2).f0), .int .u16 ((rd_T54 l1 x36_2).f1), .int .u64 ((rd_T54 l1 x36_2).f2), .bool ((rd_T54 l1 x36_2).f3)] 54 (0, 0)) (by (with_reducible repeat (first | refine blk_drewN ?_ _ | refine blk_drew ?_ | refine blk_alloc ?_ _)); refine blk_put (cs := #[.int .u8 ((rd_T54 l1 x36_2).f0), .int .u16 ((rd_T54 l1 x36_2).f1), .int .u64 ((rd_T54 l1 x36_2).f2), .bool false]) ?_ 3 _ rfl; (with_reducible repeat (first | refine blk_drewN ?_ _ | refine blk_drew ?_ | refine blk_alloc ?_ _)); refine blk_put (cs := #[.int .u8 ((rd_T54 l1 x36_2).f0), .int .u16 ((rd_T54 l1 x36_2).f1), .int .u64 0, .bool false]) ?_ 2 _ rfl; (with_reducible repeat (first | refine blk_drewN ?_ _ | refine blk_drew ?_ | refine blk_alloc ?_ _)); refine blk_put (cs := #[.int .u8 ((rd_T54 l1 x36_2).f0), .int .u16 0, .int .u64 0, .bool false]) ?_ 1 _ rfl; (with_reducible repeat (first | refine blk_drewN ?_ _ | refine blk_drew ?_ | refine blk_alloc ?_ _)); refine blk_put (cs := #[.int .u8 0, .int .u16 0, .int .u64 0, .bool false]) ?_ 0 _ rfl; (with_reducible repeat (first | refine blk_drewN ?_ _ | refine blk_drew ?_ | refine blk_alloc ?_ _)); exact BK143.out) hb); have n3_ := Aside0.mk (below_step (by repeat (first | (with_reducible first | exact HB.out | apply below_alloc | apply pw_below_drewN | apply below_drew1 | refine below_set ?_ GE141.out | refine below_set ?_ GE143.out) | exact HB.out)) hb); clear HO_22; clear BK141; clear BK143; clear HB; have HO_22 := n0_; have BK141 := n1_; have BK143 := n2_; have HB := n3_; clear n0_ n1_ n2_ n3_; (try clear hb); (try clear hb2); (try clear hk); (try clear hi); have hcz30_0 : w29.cell? ⟨gb143, 0, none⟩ = some (.int .u8 ((rd_T54 l1 x36_2).f0)) := (blk_cell BK143.out 0).trans rfl; have hcz30_1 : w29.cell? ⟨gb143, 1, none⟩ = some (.int .u16 ((rd_T54 l1 x36_2).f1)) := (blk_cell BK143.out 1).trans rfl; have hcz30_2 : w29.cell? ⟨gb143, 2, none⟩ = some (.int .u64 ((rd_T54 l1 x36_2).f2)) := (blk_cell BK143.out 2).trans rfl; have hcz30_3 : w29.cell? ⟨gb143, 3, none⟩ = some (.bool ((rd_T54 l1 x36_2).f3)) := (blk_cell BK143.out 3).trans rfl; have hfz30_0 := blk_frozen BK143.out 0; have hfz30_1 := blk_frozen BK143.out 1; have hfz30_2 := blk_frozen BK143.out 2; have hfz30_3 := blk_frozen BK143.out 3))
                          (try simp only [Act.put, List.setIfInBounds_toArray, List.set_cons_zero, List.set_cons_succ])
                          go_cut [8, 9, 10, 11] (fun v8 v9 v10 v11 wc => ∃ (kq : Nat) (x8_24 : Int) (x9_24 : Int) (x10_24 : Int) (x11_24 : Int) (x142000_24 : Int) (x142001_24 : Int) (x142002_24 : Int) (x142003_24 : Int) (x142004_24 : Int), v8 = .int .u64 x8_24 ∧ v9 = .int .u64 x9_24 ∧ v10 = .int .u64 x10_24 ∧ v11 = .int .u64 x11_24 ∧ Aside0 (binnaclelaw20_CreditGives.j5 kq l1 ji13 x8_24 x9_24 x10_24 x11_24 y132 (y132.length : Int) x24_1 l1 (l1.length : Int) x36_2 x142000_24 x142001_24 x142002_24 x142003_24 x142004_24 = some r) ∧ Aside0 (kq ≤ k2) ∧ Aside0 (Kd.R (Kd.int .u64) 24 wc w.heap.size (fun _ => True) (.slice (some ad135) y132.length co8) y132) ∧ Aside0 (wc.heap[gb141]? = some (.cells #[.int .u64 x142000_24, .int .u64 x142001_24, .int .u64 x142002_24, .int .u64 x142003_24, .int .u64 x142004_24] 51 (0, 0))) ∧ Aside0 (wc.heap[gb143]? = some (.cells #[.int .u8 ((rd_T54 l1 x36_2).f0), .int .u16 ((rd_T54 l1 x36_2).f1), .int .u64 ((rd_T54 l1 x36_2).f2), .bool ((rd_T54 l1 x36_2).f3)] 54 (0, 0))) ∧ Aside0 (Below w.heap.size w wc))
                          case first =>
                            have H := HC25.out
                            clear HC25
                            have HC31 := Aside0.mk H
                            clear H
                            go_upto_if 57 with (fail)
                            go_cut [57] (fun v57 wc => ∃ (kq : Nat) (x57_30 : Bool), v57 = .bool x57_30 ∧ Aside0 (binnaclelaw20_CreditGives.j2 kq l1 ji13 x8_2 x9_2 x10_2 x11_2 t144 y132 (y132.length : Int) x24_1 l1 (l1.length : Int) x36_2 (Int.tmod ((rd_T54 l1 x36_2).f0) 7) x57_30 x142000_2 x142001_2 x142002_2 x142003_2 x142004_2 = some r) ∧ Aside0 (kq ≤ k2) ∧ Aside0 (Kd.R (Kd.int .u64) 24 wc w.heap.size (fun _ => True) (.slice (some ad135) y132.length co8) y132) ∧ Aside0 (wc.heap[gb141]? = some (.cells #[.int .u64 x142000_2, .int .u64 x142001_2, .int .u64 x142002_2, .int .u64 x142003_2, .int .u64 x142004_2] 51 (0, 0))) ∧ Aside0 (wc.heap[gb143]? = some (.cells #[.int .u8 ((rd_T54 l1 x36_2).f0), .int .u16 ((rd_T54 l1 x36_2).f1), .int .u64 ((rd_T54 l1 x36_2).f2), .bool ((rd_T54 l1 x36_2).f3)] 54 (0, 0))) ∧ Aside0 (Below w.heap.size w wc))
                            case first =>
                              have H := HC31.out
                              clear HC31
                              by_cases c32 : (Int.tmod ((rd_T54 l1 x36_2).f0) 7) = 0
                              · rw [if_pos c32] at H
                                have c32b0 : ((Int.tmod ((rd_T54 l1 x36_2).f0) 7) == 0) = true := beq_iff_eq.mpr c32
                                have c32b1 : ((Int.tmod ((rd_T54 l1 x36_2).f0) 7) != 0) = false := bne_eq_false_iff_eq.mpr c32
                                clear c32
                                (first | rw [c32b0] | (simp only [i64_w, i32_w]; rw [c32b0]) | skip)
                                have H' := Aside0.mk H
                                clear H
                                go_wp2
                                go_meet
                                case rel => exact ⟨_, (((Int.tmod ((rd_T54 l1 x36_2).f0) 7) == 0)), (by first | rfl | (simp; done) | (simp [*]; done)), H', ⟨by have := HK1.out; have := HK2.out; first | omega | exact Nat.le_refl _⟩, ⟨by (with_reducible repeat (first | apply Kd.R_alloc | apply Kd.R_drewN | apply Kd.R_drew)); exact HO_22.out⟩, ⟨by (with_reducible repeat (first | refine blk_drewN ?_ _ | refine blk_drew ?_ | refine blk_alloc ?_ _)); exact BK141.out⟩, ⟨by (with_reducible repeat (first | refine blk_drewN ?_ _ | refine blk_drew ?_ | refine blk_alloc ?_ _)); exact BK143.out⟩, ⟨by repeat (first | (with_reducible first | exact HB.out | apply below_alloc | apply pw_below_drewN | apply below_drew1 | refine below_set ?_ GE141.out | refine below_set ?_ GE143.out) | exact HB.out)⟩⟩
                              · rw [if_neg c32] at H
                                have c32b0 : ((Int.tmod ((rd_T54 l1 x36_2).f0) 7) == 0) = false := beq_eq_false_iff_ne.mpr c32
                                have c32b1 : ((Int.tmod ((rd_T54 l1 x36_2).f0) 7) != 0) = true := bne_iff_ne.mpr c32
                                (first | rw [c32b0] | (simp only [i64_w, i32_w]; rw [c32b0]) | skip)
                                by_cases c33 : (Int.tmod ((rd_T54 l1 x36_2).f0) 7) = 1
                                · rw [if_pos c33] at H
                                  have c33b0 : ((Int.tmod ((rd_T54 l1 x36_2).f0) 7) == 1) = true := beq_iff_eq.mpr c33
                                  have c33b1 : ((Int.tmod ((rd_T54 l1 x36_2).f0) 7) != 1) = false := bne_eq_false_iff_eq.mpr c33
                                  clear c33
                                  have H' := Aside0.mk H
                                  clear H
                                  go_wp2
                                  go_meet
                                  case rel => exact ⟨_, (((Int.tmod ((rd_T54 l1 x36_2).f0) 7) == 1)), (by first | rfl | (simp; done) | (simp [*]; done)), H', ⟨by have := HK1.out; have := HK2.out; first | omega | exact Nat.le_refl _⟩, ⟨by (with_reducible repeat (first | apply Kd.R_alloc | apply Kd.R_drewN | apply Kd.R_drew)); exact HO_22.out⟩, ⟨by (with_reducible repeat (first | refine blk_drewN ?_ _ | refine blk_drew ?_ | refine blk_alloc ?_ _)); exact BK141.out⟩, ⟨by (with_reducible repeat (first | refine blk_drewN ?_ _ | refine blk_drew ?_ | refine blk_alloc ?_ _)); exact BK143.out⟩, ⟨by repeat (first | (with_reducible first | exact HB.out | apply below_alloc | apply pw_below_drewN | apply below_drew1 | refine below_set ?_ GE141.out | refine below_set ?_ GE143.out) | exact HB.out)⟩⟩
                                · rw [if_neg c33] at H
                                  have c33b0 : ((Int.tmod ((rd_T54 l1 x36_2).f0) 7) == 1) = false := beq_eq_false_iff_ne.mpr c33
                                  have c33b1 : ((Int.tmod ((rd_T54 l1 x36_2).f0) 7) != 1) = true := bne_iff_ne.mpr c33
                                  have H' := Aside0.mk H
                                  clear H
                                  go_wp2
                                  go_meet
                                  case rel => exact ⟨_, (((Int.tmod ((rd_T54 l1 x36_2).f0) 7) == 2)), (by first | rfl | (simp; done) | (simp [*]; done)), H', ⟨by have := HK1.out; have := HK2.out; first | omega | exact Nat.le_refl _⟩, ⟨by (with_reducible repeat (first | apply Kd.R_alloc | apply Kd.R_drewN | apply Kd.R_drew)); exact HO_22.out⟩, ⟨by (with_reducible repeat (first | refine blk_drewN ?_ _ | refine blk_drew ?_ | refine blk_alloc ?_ _)); exact BK141.out⟩, ⟨by (with_reducible repeat (first | refine blk_drewN ?_ _ | refine blk_drew ?_ | refine blk_alloc ?_ _)); exact BK143.out⟩, ⟨by repeat (first | (with_reducible first | exact HB.out | apply below_alloc | apply pw_below_drewN | apply below_drew1 | refine below_set ?_ GE141.out | refine below_set ?_ GE143.out) | exact HB.out)⟩⟩
                            case rest =>
                              clear HC31
                              try clear c1
                              try clear p1
                              try clear q1
                              try clear hx1
                              try clear c2
                              try clear p2
                              try clear c3
                              try clear c4
                              try clear p6
                              try clear c7
                              try clear c9
                              try clear c9b0
                              try clear c10
                              try clear c10b0
                              try clear c11
                              try clear c11b0
                              try clear p13
                              try clear q13
                              try clear hx13
                              try clear p14
                              try clear q14
                              try clear hx14
                              try clear c17
                              try clear c17b0
                              try clear c18
                              try clear c18b0
                              try clear c19
                              try clear c19b0
                              try clear c20
                              try clear c20b0
                              try clear c22
                              try clear c26
                              try clear c27
                              try clear c28
                              try clear c32
                              try clear c32b0
                              try clear c32b1
                              try clear c33
                              try clear c33b0
                              try clear c33b1
                              try clear hcz16_0
                              try clear hcz16_1
                              try clear hcz16_2
                              try clear hcz16_3
                              try clear hcz16_4
                              try clear hcz23_0
                              try clear hcz23_1
                              try clear hcz23_2
                              try clear hcz23_3
                              try clear hcz28_0
                              try clear hcz28_1
                              try clear hcz28_2
                              try clear hcz28_3
                              try clear hcz30_0
                              try clear hcz30_1
                              try clear hcz30_2
                              try clear hcz30_3
                              try clear hfz16_0
                              try clear hfz16_1
                              try clear hfz16_2
                              try clear hfz16_3
                              try clear hfz16_4
                              try clear hfz23_0
                              try clear hfz23_1
                              try clear hfz23_2
                              try clear hfz23_3
                              try clear hfz28_0
                              try clear hfz28_1
                              try clear hfz28_2
                              try clear hfz28_3
                              try clear hfz30_0
                              try clear hfz30_1
                              try clear hfz30_2
                              try clear hfz30_3
                              try clear hx135_0
                              try clear hx142_0
                              try clear hx142_1
                              try clear hx142_2
                              try clear hx142_3
                              try clear p1
                              try clear p13
                              try clear p135
                              try clear p142
                              try clear p2
                              try clear q1
                              try clear q13
                              try clear q135
                              try clear q142
                              obtain ⟨kq, x57_30, rfl, HA, HJ30, HO_22, BK141, BK143, HB⟩ := hcut
                              cases kq with
                              | zero => exact absurd HA.out (by simp [binnaclelaw20_CreditGives.j2])
                              | succ kj30 =>
                                have H := HA.out
                                clear HA
                                simp only [binnaclelaw20_CreditGives.j2] at H
                                by_cases c34 : x57_30 = true
                                · subst c34
                                  have H1 : ((credit_Given_Use.f x142000_2 x142001_2 x142002_2 x142003_2 x142004_2 t144).bind fun bt145 => (if t144 > (IntKind.u64.wrap (x8_2 - x9_2)) then (if bt145.2.2.2.2.2 = 14 then (binnaclelaw20_CreditGives.j3 kj30 l1 ji13 x8_2 x9_2 x10_2 x11_2 y132 (y132.length : Int) x24_1 l1 (l1.length : Int) x36_2 (!(bt145.1 == x142000_2) || (!(bt145.2.1 == x142001_2) || (!(bt145.2.2.1 == x142002_2) || (!(bt145.2.2.2.1 == x142003_2) || (!(bt145.2.2.2.2.1 == x142004_2)))))) x142000_2 x142001_2 x142002_2 x142003_2 x142004_2) else (binnaclelaw20_CreditGives.j3 kj30 l1 ji13 x8_2 x9_2 x10_2 x11_2 y132 (y132.length : Int) x24_1 l1 (l1.length : Int) x36_2 true x142000_2 x142001_2 x142002_2 x142003_2 x142004_2)) else (if bt145.2.2.2.2.2 = 0 then (binnaclelaw20_CreditGives.j5 kj30 l1 ji13 x8_2 (IntKind.u64.wrap (x9_2 + t144)) x10_2 x11_2 y132 (y132.length : Int) x24_1 l1 (l1.length : Int) x36_2 bt145.1 bt145.2.1 bt145.2.2.1 bt145.2.2.2.1 bt145.2.2.2.2.1) else (some false)))) = some r := by rw [if_pos rfl] at H; exact H
                                  clear H
                                  have H := H1
                                  clear H1
                                  replace H := Option.bind_eq_some_iff.mp H
                                  obtain ⟨⟨t145, t146, t147, t148, t149, t150⟩, A350, H⟩ := H
                                  replace H : (if t144 > (IntKind.u64.wrap (x8_2 - x9_2)) then (if t150 = 14 then (binnaclelaw20_CreditGives.j3 kj30 l1 ji13 x8_2 x9_2 x10_2 x11_2 y132 (y132.length : Int) x24_1 l1 (l1.length : Int) x36_2 (!(t145 == x142000_2) || (!(t146 == x142001_2) || (!(t147 == x142002_2) || (!(t148 == x142003_2) || (!(t149 == x142004_2)))))) x142000_2 x142001_2 x142002_2 x142003_2 x142004_2) else (binnaclelaw20_CreditGives.j3 kj30 l1 ji13 x8_2 x9_2 x10_2 x11_2 y132 (y132.length : Int) x24_1 l1 (l1.length : Int) x36_2 true x142000_2 x142001_2 x142002_2 x142003_2 x142004_2)) else (if t150 = 0 then (binnaclelaw20_CreditGives.j5 kj30 l1 ji13 x8_2 (IntKind.u64.wrap (x9_2 + t144)) x10_2 x11_2 y132 (y132.length : Int) x24_1 l1 (l1.length : Int) x36_2 t145 t146 t147 t148 t149) else (some false))) = some r := H
                                  have A35 := Aside0.mk A350
                                  clear A350
                                  by_cases c36 : t144 > (IntKind.u64.wrap (x8_2 - x9_2))
                                  · rw [if_pos c36] at H
                                    have c36b0 : decide ((IntKind.u64.wrap (x8_2 - x9_2)) < t144) = true := decide_eq_true c36
                                    clear c36
                                    have HC37 := Aside0.mk H
                                    clear H
                                    have hnb38 := NB141_143.out
                                    have hnc38 := NB143_141.out
                                    have hcz39_0 : wc.cell? ⟨gb141, 0, none⟩ = some (.int .u64 x142000_2) := (blk_cell BK141.out 0).trans rfl
                                    have hcz39_1 : wc.cell? ⟨gb141, 1, none⟩ = some (.int .u64 x142001_2) := (blk_cell BK141.out 1).trans rfl
                                    have hcz39_2 : wc.cell? ⟨gb141, 2, none⟩ = some (.int .u64 x142002_2) := (blk_cell BK141.out 2).trans rfl
                                    have hcz39_3 : wc.cell? ⟨gb141, 3, none⟩ = some (.int .u64 x142003_2) := (blk_cell BK141.out 3).trans rfl
                                    have hcz39_4 : wc.cell? ⟨gb141, 4, none⟩ = some (.int .u64 x142004_2) := (blk_cell BK141.out 4).trans rfl
                                    have hfz39_0 := blk_frozen BK141.out 0
                                    have hfz39_1 := blk_frozen BK141.out 1
                                    have hfz39_2 := blk_frozen BK141.out 2
                                    have hfz39_3 := blk_frozen BK141.out 3
                                    have hfz39_4 := blk_frozen BK141.out 4
                                    go_upto_region 22 with (first | ((with_reducible refine gate_callee (f := 29) rfl ?_); refine goesL_ (some 64) rfl rfl Try.func29 (by kernel_rfl) rfl #[.agg #[.int .u64 x142000_2, .int .u64 x142001_2, .int .u64 x142002_2, .int .u64 x142003_2, .int .u64 x142004_2], .int .u64 t144] rfl (by (try simp only [List.map_toArray, List.map_cons, List.map_nil]); first | done | rfl | (simp only [List.length_drop, List.length_take]; rfl)) ?_; (with_reducible refine (credit_Given_Use.calls x142000_2 x142001_2 x142002_2 x142003_2 x142004_2 t144 t145 t146 t147 t148 t149 t150 _ A35.out).mono ?_); rintro e w40 ⟨rfl, hb⟩; refine ⟨_, rfl, ?_⟩; have n0_ := Aside0.mk (Kd.R_below (by (with_reducible repeat (first | apply Kd.R_alloc | apply Kd.R_drewN | apply Kd.R_drew)); exact HO_22.out) hb); have n1_ := Aside0.mk (blk_below (g := gb141) (o := .cells #[.int .u64 x142000_2, .int .u64 x142001_2, .int .u64 x142002_2, .int .u64 x142003_2, .int .u64 x142004_2] 51 (0, 0)) (by (with_reducible repeat (first | refine blk_drewN ?_ _ | refine blk_drew ?_ | refine blk_alloc ?_ _)); exact BK141.out) hb); have n2_ := Aside0.mk (blk_below (g := gb143) (o := .cells #[.int .u8 ((rd_T54 l1 x36_2).f0), .int .u16 ((rd_T54 l1 x36_2).f1), .int .u64 ((rd_T54 l1 x36_2).f2), .bool ((rd_T54 l1 x36_2).f3)] 54 (0, 0)) (by (with_reducible repeat (first | refine blk_drewN ?_ _ | refine blk_drew ?_ | refine blk_alloc ?_ _)); exact BK143.out) hb); have n3_ := Aside0.mk (below_step (by repeat (first | (with_reducible first | exact HB.out | apply below_alloc | apply pw_below_drewN | apply below_drew1 | refine below_set ?_ GE141.out | refine below_set ?_ GE143.out) | exact HB.out)) hb); clear HO_22; clear BK141; clear BK143; clear HB; have HO_22 := n0_; have BK141 := n1_; have BK143 := n2_; have HB := n3_; clear n0_ n1_ n2_ n3_; (try clear hb); (try clear hb2); (try clear hk); (try clear hi)) | ((with_reducible refine gate_dst (N := 15) rfl ?_); refine box_event ?hg (N := 15) ?hd (cs := #[.int .u64 0, .int .u64 0, .int .u64 0, .int .u64 0, .int .u64 0]) (t := 51) ?hr ?_; (case hd => rfl); (case hg => rfl); (case hr => first | (go_simp; done) | (go_simp; rfl)); intro gb151 hg w41 hbox hb; have n0_ := Aside0.mk (Kd.R_below (by (with_reducible repeat (first | apply Kd.R_alloc | apply Kd.R_drewN | apply Kd.R_drew)); exact HO_22.out) hb); have n1_ := Aside0.mk (blk_below (g := gb141) (o := .cells #[.int .u64 x142000_2, .int .u64 x142001_2, .int .u64 x142002_2, .int .u64 x142003_2, .int .u64 x142004_2] 51 (0, 0)) (by (with_reducible repeat (first | refine blk_drewN ?_ _ | refine blk_drew ?_ | refine blk_alloc ?_ _)); exact BK141.out) hb); have n2_ := Aside0.mk (blk_below (g := gb143) (o := .cells #[.int .u8 ((rd_T54 l1 x36_2).f0), .int .u16 ((rd_T54 l1 x36_2).f1), .int .u64 ((rd_T54 l1 x36_2).f2), .bool ((rd_T54 l1 x36_2).f3)] 54 (0, 0)) (by (with_reducible repeat (first | refine blk_drewN ?_ _ | refine blk_drew ?_ | refine blk_alloc ?_ _)); exact BK143.out) hb); have n3_ := Aside0.mk (below_step (by repeat (first | (with_reducible first | exact HB.out | apply below_alloc | apply pw_below_drewN | apply below_drew1 | refine below_set ?_ GE141.out | refine below_set ?_ GE143.out) | exact HB.out)) hb); have n4_ := Aside0.mk (hbox); have n5_ := Aside0.mk ((by rw [hg]; exact (below_size (by repeat (first | (with_reducible first | exact HB.out | apply below_alloc | apply pw_below_drewN | apply below_drew1 | refine below_set ?_ GE141.out | refine below_set ?_ GE143.out) | exact HB.out))) : w.heap.size ≤ gb151)); have n6_ := Aside0.mk ((by rw [hg]; exact (below_size (by repeat (first | (with_reducible first | exact HB.out | apply below_alloc | apply pw_below_drewN | apply below_drew1 | refine below_set ?_ GE141.out | refine below_set ?_ GE143.out) | exact HB.out))) : w.heap.size ≤ gb151)); have n7_ := Aside0.mk ((by rw [hg]; exact Nat.ne_of_lt (blk_lt (g := gb141) (o := .cells #[.int .u64 x142000_2, .int .u64 x142001_2, .int .u64 x142002_2, .int .u64 x142003_2, .int .u64 x142004_2] 51 (0, 0)) (by (with_reducible repeat (first | refine blk_drewN ?_ _ | refine blk_drew ?_ | refine blk_alloc ?_ _)); exact BK141.out)) : gb141 ≠ gb151)); have n8_ := Aside0.mk ((by rw [hg]; exact Nat.ne_of_gt (blk_lt (g := gb141) (o := .cells #[.int .u64 x142000_2, .int .u64 x142001_2, .int .u64 x142002_2, .int .u64 x142003_2, .int .u64 x142004_2] 51 (0, 0)) (by (with_reducible repeat (first | refine blk_drewN ?_ _ | refine blk_drew ?_ | refine blk_alloc ?_ _)); exact BK141.out)) : gb151 ≠ gb141)); have n9_ := Aside0.mk ((by rw [hg]; exact Nat.ne_of_lt (blk_lt (g := gb143) (o := .cells #[.int .u8 ((rd_T54 l1 x36_2).f0), .int .u16 ((rd_T54 l1 x36_2).f1), .int .u64 ((rd_T54 l1 x36_2).f2), .bool ((rd_T54 l1 x36_2).f3)] 54 (0, 0)) (by (with_reducible repeat (first | refine blk_drewN ?_ _ | refine blk_drew ?_ | refine blk_alloc ?_ _)); exact BK143.out)) : gb143 ≠ gb151)); have n10_ := Aside0.mk ((by rw [hg]; exact Nat.ne_of_gt (blk_lt (g := gb143) (o := .cells #[.int .u8 ((rd_T54 l1 x36_2).f0), .int .u16 ((rd_T54 l1 x36_2).f1), .int .u64 ((rd_T54 l1 x36_2).f2), .bool ((rd_T54 l1 x36_2).f3)] 54 (0, 0)) (by (with_reducible repeat (first | refine blk_drewN ?_ _ | refine blk_drew ?_ | refine blk_alloc ?_ _)); exact BK143.out)) : gb151 ≠ gb143)); clear HO_22; clear BK141; clear BK143; clear HB; have HO_22 := n0_; have BK141 := n1_; have BK143 := n2_; have HB := n3_; have BK151 := n4_; have GW151 := n5_; have GE151 := n6_; have NB141_151 := n7_; have NB151_141 := n8_; have NB143_151 := n9_; have NB151_143 := n10_; clear n0_ n1_ n2_ n3_ n4_ n5_ n6_ n7_ n8_ n9_ n10_; clear hb hbox hg; have hnb42 := NB151_141.out; have hnc42 := NB141_151.out; have hnb43 := NB151_143.out; have hnc43 := NB143_151.out; have hcz44_0 : w41.cell? ⟨gb151, 0, none⟩ = some (.int .u64 0) := (blk_cell BK151.out 0).trans rfl; have hcz44_1 : w41.cell? ⟨gb151, 1, none⟩ = some (.int .u64 0) := (blk_cell BK151.out 1).trans rfl; have hcz44_2 : w41.cell? ⟨gb151, 2, none⟩ = some (.int .u64 0) := (blk_cell BK151.out 2).trans rfl; have hcz44_3 : w41.cell? ⟨gb151, 3, none⟩ = some (.int .u64 0) := (blk_cell BK151.out 3).trans rfl; have hcz44_4 : w41.cell? ⟨gb151, 4, none⟩ = some (.int .u64 0) := (blk_cell BK151.out 4).trans rfl; have hfz44_0 := blk_frozen BK151.out 0; have hfz44_1 := blk_frozen BK151.out 1; have hfz44_2 := blk_frozen BK151.out 2; have hfz44_3 := blk_frozen BK151.out 3; have hfz44_4 := blk_frozen BK151.out 4))
                                    (try simp only [Act.put, List.setIfInBounds_toArray, List.set_cons_zero, List.set_cons_succ])
                                    go_cut [78] (fun v78 wc => ∃ (kq : Nat) (x78_36 : Bool), v78 = .bool x78_36 ∧ Aside0 (binnaclelaw20_CreditGives.j3 kq l1 ji13 x8_2 x9_2 x10_2 x11_2 y132 (y132.length : Int) x24_1 l1 (l1.length : Int) x36_2 x78_36 x142000_2 x142001_2 x142002_2 x142003_2 x142004_2 = some r) ∧ Aside0 (kq ≤ kj30) ∧ Aside0 (Kd.R (Kd.int .u64) 24 wc w.heap.size (fun _ => True) (.slice (some ad135) y132.length co8) y132) ∧ Aside0 (wc.heap[gb141]? = some (.cells #[.int .u64 x142000_2, .int .u64 x142001_2, .int .u64 x142002_2, .int .u64 x142003_2, .int .u64 x142004_2] 51 (0, 0))) ∧ Aside0 (wc.heap[gb143]? = some (.cells #[.int .u8 ((rd_T54 l1 x36_2).f0), .int .u16 ((rd_T54 l1 x36_2).f1), .int .u64 ((rd_T54 l1 x36_2).f2), .bool ((rd_T54 l1 x36_2).f3)] 54 (0, 0))) ∧ Aside0 (wc.heap[gb151]? = some (.cells #[.int .u64 t145, .int .u64 t146, .int .u64 t147, .int .u64 t148, .int .u64 t149] 51 (0, 0))) ∧ Aside0 (Below w.heap.size w wc))
                                    case first =>
                                      have H := HC37.out
                                      clear HC37
                                      by_cases c45 : t150 = 14
                                      · rw [if_pos c45] at H
                                        have c45b0 : (t150 == 14) = true := beq_iff_eq.mpr c45
                                        have c45b1 : (t150 != 14) = false := bne_eq_false_iff_eq.mpr c45
                                        clear c45
                                        (first | rw [c45b0] | (simp only [i64_w, i32_w]; rw [c45b0]) | skip)
                                        have H' := Aside0.mk H
                                        clear H
                                        have hnb46 := NB151_141.out
                                        have hnc46 := NB141_151.out
                                        have hnb47 := NB151_143.out
                                        have hnc47 := NB143_151.out
                                        have hcz48_0 : w41.cell? ⟨gb151, 0, none⟩ = some (.int .u64 0) := (blk_cell BK151.out 0).trans rfl
                                        have hcz48_1 : w41.cell? ⟨gb151, 1, none⟩ = some (.int .u64 0) := (blk_cell BK151.out 1).trans rfl
                                        have hcz48_2 : w41.cell? ⟨gb151, 2, none⟩ = some (.int .u64 0) := (blk_cell BK151.out 2).trans rfl
                                        have hcz48_3 : w41.cell? ⟨gb151, 3, none⟩ = some (.int .u64 0) := (blk_cell BK151.out 3).trans rfl
                                        have hcz48_4 : w41.cell? ⟨gb151, 4, none⟩ = some (.int .u64 0) := (blk_cell BK151.out 4).trans rfl
                                        have hfz48_0 := blk_frozen BK151.out 0
                                        have hfz48_1 := blk_frozen BK151.out 1
                                        have hfz48_2 := blk_frozen BK151.out 2
                                        have hfz48_3 := blk_frozen BK151.out 3
                                        have hfz48_4 := blk_frozen BK151.out 4
                                        have hnb49 := NB141_143.out
                                        have hnc49 := NB143_141.out
                                        have hcz50_0 : w41.cell? ⟨gb141, 0, none⟩ = some (.int .u64 x142000_2) := (blk_cell BK141.out 0).trans rfl
                                        have hcz50_1 : w41.cell? ⟨gb141, 1, none⟩ = some (.int .u64 x142001_2) := (blk_cell BK141.out 1).trans rfl
                                        have hcz50_2 : w41.cell? ⟨gb141, 2, none⟩ = some (.int .u64 x142002_2) := (blk_cell BK141.out 2).trans rfl
                                        have hcz50_3 : w41.cell? ⟨gb141, 3, none⟩ = some (.int .u64 x142003_2) := (blk_cell BK141.out 3).trans rfl
                                        have hcz50_4 : w41.cell? ⟨gb141, 4, none⟩ = some (.int .u64 x142004_2) := (blk_cell BK141.out 4).trans rfl
                                        have hfz50_0 := blk_frozen BK141.out 0
                                        have hfz50_1 := blk_frozen BK141.out 1
                                        have hfz50_2 := blk_frozen BK141.out 2
                                        have hfz50_3 := blk_frozen BK141.out 3
                                        have hfz50_4 := blk_frozen BK141.out 4
                                        go_wp2
                                        go_meet
                                        case rel => exact ⟨_, ((!(t145 == x142000_2) || (!(t146 == x142001_2) || (!(t147 == x142002_2) || (!(t148 == x142003_2) || (!(t149 == x142004_2))))))), (by first | rfl | (simp; done) | (simp [*]; done)), H', ⟨by have := HK1.out; have := HK2.out; have := HJ30.out; first | omega | exact Nat.le_refl _⟩, ⟨by (with_reducible repeat (first | apply Kd.R_alloc | apply Kd.R_drewN | apply Kd.R_drew)); exact Kd.R_mono (Kd.R_far (p := ⟨gb151, 4, none⟩) (Kd.R_far (p := ⟨gb151, 3, none⟩) (Kd.R_far (p := ⟨gb151, 2, none⟩) (Kd.R_far (p := ⟨gb151, 1, none⟩) (Kd.R_far (p := ⟨gb151, 0, none⟩) (Kd.R_types HO_22.out BK151.out (by decide)) (fun _ hk => hk.2) (.int .u64 t145)) (fun _ hk => hk.2) (.int .u64 t146)) (fun _ hk => hk.2) (.int .u64 t147)) (fun _ hk => hk.2) (.int .u64 t148)) (fun _ hk => hk.2) (.int .u64 t149)) (fun _ hk => trivial)⟩, ⟨by (with_reducible repeat (first | refine blk_drewN ?_ _ | refine blk_drew ?_ | refine blk_alloc ?_ _)); refine blk_far ?_ NB141_151.out _; (with_reducible repeat (first | refine blk_drewN ?_ _ | refine blk_drew ?_ | refine blk_alloc ?_ _)); refine blk_far ?_ NB141_151.out _; (with_reducible repeat (first | refine blk_drewN ?_ _ | refine blk_drew ?_ | refine blk_alloc ?_ _)); refine blk_far ?_ NB141_151.out _; (with_reducible repeat (first | refine blk_drewN ?_ _ | refine blk_drew ?_ | refine blk_alloc ?_ _)); refine blk_far ?_ NB141_151.out _; (with_reducible repeat (first | refine blk_drewN ?_ _ | refine blk_drew ?_ | refine blk_alloc ?_ _)); refine blk_far ?_ NB141_151.out _; (with_reducible repeat (first | refine blk_drewN ?_ _ | refine blk_drew ?_ | refine blk_alloc ?_ _)); exact BK141.out⟩, ⟨by (with_reducible repeat (first | refine blk_drewN ?_ _ | refine blk_drew ?_ | refine blk_alloc ?_ _)); refine blk_far ?_ NB143_151.out _; (with_reducible repeat (first | refine blk_drewN ?_ _ | refine blk_drew ?_ | refine blk_alloc ?_ _)); refine blk_far ?_ NB143_151.out _; (with_reducible repeat (first | refine blk_drewN ?_ _ | refine blk_drew ?_ | refine blk_alloc ?_ _)); refine blk_far ?_ NB143_151.out _; (with_reducible repeat (first | refine blk_drewN ?_ _ | refine blk_drew ?_ | refine blk_alloc ?_ _)); refine blk_far ?_ NB143_151.out _; (with_reducible repeat (first | refine blk_drewN ?_ _ | refine blk_drew ?_ | refine blk_alloc ?_ _)); refine blk_far ?_ NB143_151.out _; (with_reducible repeat (first | refine blk_drewN ?_ _ | refine blk_drew ?_ | refine blk_alloc ?_ _)); exact BK143.out⟩, ⟨by (with_reducible repeat (first | refine blk_drewN ?_ _ | refine blk_drew ?_ | refine blk_alloc ?_ _)); refine blk_put (cs := #[.int .u64 t145, .int .u64 t146, .int .u64 t147, .int .u64 t148, .int .u64 0]) ?_ 4 _ rfl; (with_reducible repeat (first | refine blk_drewN ?_ _ | refine blk_drew ?_ | refine blk_alloc ?_ _)); refine blk_put (cs := #[.int .u64 t145, .int .u64 t146, .int .u64 t147, .int .u64 0, .int .u64 0]) ?_ 3 _ rfl; (with_reducible repeat (first | refine blk_drewN ?_ _ | refine blk_drew ?_ | refine blk_alloc ?_ _)); refine blk_put (cs := #[.int .u64 t145, .int .u64 t146, .int .u64 0, .int .u64 0, .int .u64 0]) ?_ 2 _ rfl; (with_reducible repeat (first | refine blk_drewN ?_ _ | refine blk_drew ?_ | refine blk_alloc ?_ _)); refine blk_put (cs := #[.int .u64 t145, .int .u64 0, .int .u64 0, .int .u64 0, .int .u64 0]) ?_ 1 _ rfl; (with_reducible repeat (first | refine blk_drewN ?_ _ | refine blk_drew ?_ | refine blk_alloc ?_ _)); refine blk_put (cs := #[.int .u64 0, .int .u64 0, .int .u64 0, .int .u64 0, .int .u64 0]) ?_ 0 _ rfl; (with_reducible repeat (first | refine blk_drewN ?_ _ | refine blk_drew ?_ | refine blk_alloc ?_ _)); exact BK151.out⟩, ⟨by repeat (first | (with_reducible first | exact HB.out | apply below_alloc | apply pw_below_drewN | apply below_drew1 | refine below_set ?_ GE141.out | refine below_set ?_ GE143.out | refine below_set ?_ GE151.out) | exact HB.out)⟩⟩
                                      · rw [if_neg c45] at H
                                        have c45b0 : (t150 == 14) = false := beq_eq_false_iff_ne.mpr c45
                                        have c45b1 : (t150 != 14) = true := bne_iff_ne.mpr c45
                                        (first | rw [c45b0] | (simp only [i64_w, i32_w]; rw [c45b0]) | skip)
                                        have H' := Aside0.mk H
                                        clear H
                                        go_wp2
                                        go_meet
                                        case rel => exact ⟨_, (true), (by first | rfl | (simp; done) | (simp [*]; done)), H', ⟨by have := HK1.out; have := HK2.out; have := HJ30.out; first | omega | exact Nat.le_refl _⟩, ⟨by (with_reducible repeat (first | apply Kd.R_alloc | apply Kd.R_drewN | apply Kd.R_drew)); exact Kd.R_mono (Kd.R_far (p := ⟨gb151, 4, none⟩) (Kd.R_far (p := ⟨gb151, 3, none⟩) (Kd.R_far (p := ⟨gb151, 2, none⟩) (Kd.R_far (p := ⟨gb151, 1, none⟩) (Kd.R_far (p := ⟨gb151, 0, none⟩) (Kd.R_types HO_22.out BK151.out (by decide)) (fun _ hk => hk.2) (.int .u64 t145)) (fun _ hk => hk.2) (.int .u64 t146)) (fun _ hk => hk.2) (.int .u64 t147)) (fun _ hk => hk.2) (.int .u64 t148)) (fun _ hk => hk.2) (.int .u64 t149)) (fun _ hk => trivial)⟩, ⟨by (with_reducible repeat (first | refine blk_drewN ?_ _ | refine blk_drew ?_ | refine blk_alloc ?_ _)); refine blk_far ?_ NB141_151.out _; (with_reducible repeat (first | refine blk_drewN ?_ _ | refine blk_drew ?_ | refine blk_alloc ?_ _)); refine blk_far ?_ NB141_151.out _; (with_reducible repeat (first | refine blk_drewN ?_ _ | refine blk_drew ?_ | refine blk_alloc ?_ _)); refine blk_far ?_ NB141_151.out _; (with_reducible repeat (first | refine blk_drewN ?_ _ | refine blk_drew ?_ | refine blk_alloc ?_ _)); refine blk_far ?_ NB141_151.out _; (with_reducible repeat (first | refine blk_drewN ?_ _ | refine blk_drew ?_ | refine blk_alloc ?_ _)); refine blk_far ?_ NB141_151.out _; (with_reducible repeat (first | refine blk_drewN ?_ _ | refine blk_drew ?_ | refine blk_alloc ?_ _)); exact BK141.out⟩, ⟨by (with_reducible repeat (first | refine blk_drewN ?_ _ | refine blk_drew ?_ | refine blk_alloc ?_ _)); refine blk_far ?_ NB143_151.out _; (with_reducible repeat (first | refine blk_drewN ?_ _ | refine blk_drew ?_ | refine blk_alloc ?_ _)); refine blk_far ?_ NB143_151.out _; (with_reducible repeat (first | refine blk_drewN ?_ _ | refine blk_drew ?_ | refine blk_alloc ?_ _)); refine blk_far ?_ NB143_151.out _; (with_reducible repeat (first | refine blk_drewN ?_ _ | refine blk_drew ?_ | refine blk_alloc ?_ _)); refine blk_far ?_ NB143_151.out _; (with_reducible repeat (first | refine blk_drewN ?_ _ | refine blk_drew ?_ | refine blk_alloc ?_ _)); refine blk_far ?_ NB143_151.out _; (with_reducible repeat (first | refine blk_drewN ?_ _ | refine blk_drew ?_ | refine blk_alloc ?_ _)); exact BK143.out⟩, ⟨by (with_reducible repeat (first | refine blk_drewN ?_ _ | refine blk_drew ?_ | refine blk_alloc ?_ _)); refine blk_put (cs := #[.int .u64 t145, .int .u64 t146, .int .u64 t147, .int .u64 t148, .int .u64 0]) ?_ 4 _ rfl; (with_reducible repeat (first | refine blk_drewN ?_ _ | refine blk_drew ?_ | refine blk_alloc ?_ _)); refine blk_put (cs := #[.int .u64 t145, .int .u64 t146, .int .u64 t147, .int .u64 0, .int .u64 0]) ?_ 3 _ rfl; (with_reducible repeat (first | refine blk_drewN ?_ _ | refine blk_drew ?_ | refine blk_alloc ?_ _)); refine blk_put (cs := #[.int .u64 t145, .int .u64 t146, .int .u64 0, .int .u64 0, .int .u64 0]) ?_ 2 _ rfl; (with_reducible repeat (first | refine blk_drewN ?_ _ | refine blk_drew ?_ | refine blk_alloc ?_ _)); refine blk_put (cs := #[.int .u64 t145, .int .u64 0, .int .u64 0, .int .u64 0, .int .u64 0]) ?_ 1 _ rfl; (with_reducible repeat (first | refine blk_drewN ?_ _ | refine blk_drew ?_ | refine blk_alloc ?_ _)); refine blk_put (cs := #[.int .u64 0, .int .u64 0, .int .u64 0, .int .u64 0, .int .u64 0]) ?_ 0 _ rfl; (with_reducible repeat (first | refine blk_drewN ?_ _ | refine blk_drew ?_ | refine blk_alloc ?_ _)); exact BK151.out⟩, ⟨by repeat (first | (with_reducible first | exact HB.out | apply below_alloc | apply pw_below_drewN | apply below_drew1 | refine below_set ?_ GE141.out | refine below_set ?_ GE143.out | refine below_set ?_ GE151.out) | exact HB.out)⟩⟩
                                    case rest =>
                                      clear HC37
                                      try clear c1
                                      try clear p1
                                      try clear q1
                                      try clear hx1
                                      try clear c2
                                      try clear p2
                                      try clear c3
                                      try clear c4
                                      try clear p6
                                      try clear c7
                                      try clear c9
                                      try clear c9b0
                                      try clear c10
                                      try clear c10b0
                                      try clear c11
                                      try clear c11b0
                                      try clear p13
                                      try clear q13
                                      try clear hx13
                                      try clear p14
                                      try clear q14
                                      try clear hx14
                                      try clear c17
                                      try clear c17b0
                                      try clear c18
                                      try clear c18b0
                                      try clear c19
                                      try clear c19b0
                                      try clear c20
                                      try clear c20b0
                                      try clear c22
                                      try clear c26
                                      try clear c27
                                      try clear c28
                                      try clear c29
                                      try clear c32
                                      try clear c32b0
                                      try clear c32b1
                                      try clear c33
                                      try clear c33b0
                                      try clear c33b1
                                      try clear c34
                                      try clear c36
                                      try clear c36b0
                                      try clear c38
                                      try clear c42
                                      try clear c43
                                      try clear c45
                                      try clear c45b0
                                      try clear c45b1
                                      try clear c46
                                      try clear c47
                                      try clear c49
                                      try clear hcz16_0
                                      try clear hcz16_1
                                      try clear hcz16_2
                                      try clear hcz16_3
                                      try clear hcz16_4
                                      try clear hcz23_0
                                      try clear hcz23_1
                                      try clear hcz23_2
                                      try clear hcz23_3
                                      try clear hcz28_0
                                      try clear hcz28_1
                                      try clear hcz28_2
                                      try clear hcz28_3
                                      try clear hcz30_0
                                      try clear hcz30_1
                                      try clear hcz30_2
                                      try clear hcz30_3
                                      try clear hcz39_0
                                      try clear hcz39_1
                                      try clear hcz39_2
                                      try clear hcz39_3
                                      try clear hcz39_4
                                      try clear hcz44_0
                                      try clear hcz44_1
                                      try clear hcz44_2
                                      try clear hcz44_3
                                      try clear hcz44_4
                                      try clear hcz48_0
                                      try clear hcz48_1
                                      try clear hcz48_2
                                      try clear hcz48_3
                                      try clear hcz48_4
                                      try clear hcz50_0
                                      try clear hcz50_1
                                      try clear hcz50_2
                                      try clear hcz50_3
                                      try clear hcz50_4
                                      try clear hfz16_0
                                      try clear hfz16_1
                                      try clear hfz16_2
                                      try clear hfz16_3
                                      try clear hfz16_4
                                      try clear hfz23_0
                                      try clear hfz23_1
                                      try clear hfz23_2
                                      try clear hfz23_3
                                      try clear hfz28_0
                                      try clear hfz28_1
                                      try clear hfz28_2
                                      try clear hfz28_3
                                      try clear hfz30_0
                                      try clear hfz30_1
                                      try clear hfz30_2
                                      try clear hfz30_3
                                      try clear hfz39_0
                                      try clear hfz39_1
                                      try clear hfz39_2
                                      try clear hfz39_3
                                      try clear hfz39_4
                                      try clear hfz44_0
                                      try clear hfz44_1
                                      try clear hfz44_2
                                      try clear hfz44_3
                                      try clear hfz44_4
                                      try clear hfz48_0
                                      try clear hfz48_1
                                      try clear hfz48_2
                                      try clear hfz48_3
                                      try clear hfz48_4
                                      try clear hfz50_0
                                      try clear hfz50_1
                                      try clear hfz50_2
                                      try clear hfz50_3
                                      try clear hfz50_4
                                      try clear hx135_0
                                      try clear hx142_0
                                      try clear hx142_1
                                      try clear hx142_2
                                      try clear hx142_3
                                      try clear p1
                                      try clear p13
                                      try clear p135
                                      try clear p14
                                      try clear p142
                                      try clear p2
                                      try clear p6
                                      try clear q1
                                      try clear q13
                                      try clear q135
                                      try clear q14
                                      try clear q142
                                      obtain ⟨kq, x78_36, rfl, HA, HJ36, HO_22, BK141, BK143, BK151, HB⟩ := hcut
                                      cases kq with
                                      | zero => exact absurd HA.out (by simp [binnaclelaw20_CreditGives.j3])
                                      | succ kj36 =>
                                        have H := HA.out
                                        clear HA
                                        simp only [binnaclelaw20_CreditGives.j3] at H
                                        by_cases c51 : x78_36 = true
                                        · subst c51
                                          have H1 : (some false) = some r := by rw [if_pos rfl] at H; exact H
                                          clear H
                                          have H := H1
                                          clear H1
                                          obtain rfl := Option.some.inj H
                                          go_wp2
                                          go_ret
                                          exact ⟨by first | rfl | (simp [errW_none, errW_some] <;> rfl) | (simp only [← hji13]; first | rfl | (simp [errW_none, errW_some] <;> rfl)) | (simp [*, errW_none, errW_some] <;> rfl), by repeat (first | (with_reducible first | exact HB.out | apply below_alloc | apply pw_below_drewN | apply below_drew1 | refine below_set ?_ GE141.out | refine below_set ?_ GE143.out | refine below_set ?_ GE151.out) | exact HB.out)⟩
                                        · replace c51 := Bool.eq_false_iff.mpr c51
                                          subst c51
                                          have H1 : (binnaclelaw20_CreditGives.j5 kj36 l1 ji13 x8_2 x9_2 x10_2 x11_2 y132 (y132.length : Int) x24_1 l1 (l1.length : Int) x36_2 x142000_2 x142001_2 x142002_2 x142003_2 x142004_2) = some r := by rw [if_neg (show ¬ (false = true) by decide)] at H; exact H
                                          clear H
                                          have H := H1
                                          clear H1
                                          have H' := Aside0.mk H
                                          clear H
                                          go_wp2
                                          go_meet
                                          case rel => exact ⟨_, (x8_2), (x9_2), (x10_2), (x11_2), (x142000_2), (x142001_2), (x142002_2), (x142003_2), (x142004_2), (by first | rfl | (simp; done) | (simp [*]; done)), (by first | rfl | (simp; done) | (simp [*]; done)), (by first | rfl | (simp; done) | (simp [*]; done)), (by first | rfl | (simp; done) | (simp [*]; done)), H', ⟨by have := HK1.out; have := HK2.out; have := HJ30.out; have := HJ36.out; first | omega | exact Nat.le_refl _⟩, ⟨by (with_reducible repeat (first | apply Kd.R_alloc | apply Kd.R_drewN | apply Kd.R_drew)); exact HO_22.out⟩, ⟨by (with_reducible repeat (first | refine blk_drewN ?_ _ | refine blk_drew ?_ | refine blk_alloc ?_ _)); exact BK141.out⟩, ⟨by (with_reducible repeat (first | refine blk_drewN ?_ _ | refine blk_drew ?_ | refine blk_alloc ?_ _)); exact BK143.out⟩, ⟨by repeat (first | (with_reducible first | exact HB.out | apply below_alloc | apply pw_below_drewN | apply below_drew1 | refine below_set ?_ GE141.out | refine below_set ?_ GE143.out | refine below_set ?_ GE151.out) | exact HB.out)⟩⟩
                                  · rw [if_neg c36] at H
                                    have c36b0 : decide ((IntKind.u64.wrap (x8_2 - x9_2)) < t144) = false := decide_eq_false c36
                                    clear c36
                                    by_cases c52 : t150 = 0
                                    · rw [if_pos c52] at H
                                      have c52b0 : (t150 == 0) = true := beq_iff_eq.mpr c52
                                      have c52b1 : (t150 != 0) = false := bne_eq_false_iff_eq.mpr c52
                                      clear c52
                                      have H' := Aside0.mk H
                                      clear H
                                      have hnb53 := NB141_143.out
                                      have hnc53 := NB143_141.out
                                      have hcz54_0 : wc.cell? ⟨gb141, 0, none⟩ = some (.int .u64 x142000_2) := (blk_cell BK141.out 0).trans rfl
                                      have hcz54_1 : wc.cell? ⟨gb141, 1, none⟩ = some (.int .u64 x142001_2) := (blk_cell BK141.out 1).trans rfl
                                      have hcz54_2 : wc.cell? ⟨gb141, 2, none⟩ = some (.int .u64 x142002_2) := (blk_cell BK141.out 2).trans rfl
                                      have hcz54_3 : wc.cell? ⟨gb141, 3, none⟩ = some (.int .u64 x142003_2) := (blk_cell BK141.out 3).trans rfl
                                      have hcz54_4 : wc.cell? ⟨gb141, 4, none⟩ = some (.int .u64 x142004_2) := (blk_cell BK141.out 4).trans rfl
                                      have hfz54_0 := blk_frozen BK141.out 0
                                      have hfz54_1 := blk_frozen BK141.out 1
                                      have hfz54_2 := blk_frozen BK141.out 2
                                      have hfz54_3 := blk_frozen BK141.out 3
                                      have hfz54_4 := blk_frozen BK141.out 4
                                      go_wp2_with (first | ((with_reducible refine gate_callee (f := 29) rfl ?_); refine goesL_ (some 64) rfl rfl Try.func29 (by kernel_rfl) rfl #[.agg #[.int .u64 x142000_2, .int .u64 x142001_2, .int .u64 x142002_2, .int .u64 x142003_2, .int .u64 x142004_2], .int .u64 t144] rfl (by (try simp only [List.map_toArray, List.map_cons, List.map_nil]); first | done | rfl | (simp only [List.length_drop, List.length_take]; rfl)) ?_; (with_reducible refine (credit_Given_Use.calls x142000_2 x142001_2 x142002_2 x142003_2 x142004_2 t144 t145 t146 t147 t148 t149 t150 _ A35.out).mono ?_); rintro e w55 ⟨rfl, hb⟩; refine ⟨_, rfl, ?_⟩; have n0_ := Aside0.mk (Kd.R_below (by (with_reducible repeat (first | apply Kd.R_alloc | apply Kd.R_drewN | apply Kd.R_drew)); exact HO_22.out) hb); have n1_ := Aside0.mk (blk_below (g := gb141) (o := .cells #[.int .u64 x142000_2, .int .u64 x142001_2, .int .u64 x142002_2, .int .u64 x142003_2, .int .u64 x142004_2] 51 (0, 0)) (by (with_reducible repeat (first | refine blk_drewN ?_ _ | refine blk_drew ?_ | refine blk_alloc ?_ _)); exact BK141.out) hb); have n2_ := Aside0.mk (blk_below (g := gb143) (o := .cells #[.int .u8 ((rd_T54 l1 x36_2).f0), .int .u16 ((rd_T54 l1 x36_2).f1), .int .u64 ((rd_T54 l1 x36_2).f2), .bool ((rd_T54 l1 x36_2).f3)] 54 (0, 0)) (by (with_reducible repeat (first | refine blk_drewN ?_ _ | refine blk_drew ?_ | refine blk_alloc ?_ _)); exact BK143.out) hb); have n3_ := Aside0.mk (below_step (by repeat (first | (with_reducible first | exact HB.out | apply below_alloc | apply pw_below_drewN | apply below_drew1 | refine below_set ?_ GE141.out | refine below_set ?_ GE143.out) | exact HB.out)) hb); clear HO_22; clear BK141; clear BK143; clear HB; have HO_22 := n0_; have BK141 := n1_; have BK143 := n2_; have HB := n3_; clear n0_ n1_ n2_ n3_; (try clear hb); (try clear hb2); (try clear hk); (try clear hi)) | ((with_reducible refine gate_dst (N := 15) rfl ?_); refine box_event ?hg (N := 15) ?hd (cs := #[.int .u64 0, .int .u64 0, .int .u64 0, .int .u64 0, .int .u64 0]) (t := 51) ?hr ?_; (case hd => rfl); (case hg => rfl); (case hr => first | (go_simp; done) | (go_simp; rfl)); intro gb151 hg w56 hbox hb; have n0_ := Aside0.mk (Kd.R_below (by (with_reducible repeat (first | apply Kd.R_alloc | apply Kd.R_drewN | apply Kd.R_drew)); exact HO_22.out) hb); have n1_ := Aside0.mk (blk_below (g := gb141) (o := .cells #[.int .u64 x142000_2, .int .u64 x142001_2, .int .u64 x142002_2, .int .u64 x142003_2, .int .u64 x142004_2] 51 (0, 0)) (by (with_reducible repeat (first | refine blk_drewN ?_ _ | refine blk_drew ?_ | refine blk_alloc ?_ _)); exact BK141.out) hb); have n2_ := Aside0.mk (blk_below (g := gb143) (o := .cells #[.int .u8 ((rd_T54 l1 x36_2).f0), .int .u16 ((rd_T54 l1 x36_2).f1), .int .u64 ((rd_T54 l1 x36_2).f2), .bool ((rd_T54 l1 x36_2).f3)] 54 (0, 0)) (by (with_reducible repeat (first | refine blk_drewN ?_ _ | refine blk_drew ?_ | refine blk_alloc ?_ _)); exact BK143.out) hb); have n3_ := Aside0.mk (below_step (by repeat (first | (with_reducible first | exact HB.out | apply below_alloc | apply pw_below_drewN | apply below_drew1 | refine below_set ?_ GE141.out | refine below_set ?_ GE143.out) | exact HB.out)) hb); have n4_ := Aside0.mk (hbox); have n5_ := Aside0.mk ((by rw [hg]; exact (below_size (by repeat (first | (with_reducible first | exact HB.out | apply below_alloc | apply pw_below_drewN | apply below_drew1 | refine below_set ?_ GE141.out | refine below_set ?_ GE143.out) | exact HB.out))) : w.heap.size ≤ gb151)); have n6_ := Aside0.mk ((by rw [hg]; exact (below_size (by repeat (first | (with_reducible first | exact HB.out | apply below_alloc | apply pw_below_drewN | apply below_drew1 | refine below_set ?_ GE141.out | refine below_set ?_ GE143.out) | exact HB.out))) : w.heap.size ≤ gb151)); have n7_ := Aside0.mk ((by rw [hg]; exact Nat.ne_of_lt (blk_lt (g := gb141) (o := .cells #[.int .u64 x142000_2, .int .u64 x142001_2, .int .u64 x142002_2, .int .u64 x142003_2, .int .u64 x142004_2] 51 (0, 0)) (by (with_reducible repeat (first | refine blk_drewN ?_ _ | refine blk_drew ?_ | refine blk_alloc ?_ _)); exact BK141.out)) : gb141 ≠ gb151)); have n8_ := Aside0.mk ((by rw [hg]; exact Nat.ne_of_gt (blk_lt (g := gb141) (o := .cells #[.int .u64 x142000_2, .int .u64 x142001_2, .int .u64 x142002_2, .int .u64 x142003_2, .int .u64 x142004_2] 51 (0, 0)) (by (with_reducible repeat (first | refine blk_drewN ?_ _ | refine blk_drew ?_ | refine blk_alloc ?_ _)); exact BK141.out)) : gb151 ≠ gb141)); have n9_ := Aside0.mk ((by rw [hg]; exact Nat.ne_of_lt (blk_lt (g := gb143) (o := .cells #[.int .u8 ((rd_T54 l1 x36_2).f0), .int .u16 ((rd_T54 l1 x36_2).f1), .int .u64 ((rd_T54 l1 x36_2).f2), .bool ((rd_T54 l1 x36_2).f3)] 54 (0, 0)) (by (with_reducible repeat (first | refine blk_drewN ?_ _ | refine blk_drew ?_ | refine blk_alloc ?_ _)); exact BK143.out)) : gb143 ≠ gb151)); have n10_ := Aside0.mk ((by rw [hg]; exact Nat.ne_of_gt (blk_lt (g := gb143) (o := .cells #[.int .u8 ((rd_T54 l1 x36_2).f0), .int .u16 ((rd_T54 l1 x36_2).f1), .int .u64 ((rd_T54 l1 x36_2).f2), .bool ((rd_T54 l1 x36_2).f3)] 54 (0, 0)) (by (with_reducible repeat (first | refine blk_drewN ?_ _ | refine blk_drew ?_ | refine blk_alloc ?_ _)); exact BK143.out)) : gb151 ≠ gb143)); clear HO_22; clear BK141; clear BK143; clear HB; have HO_22 := n0_; have BK141 := n1_; have BK143 := n2_; have HB := n3_; have BK151 := n4_; have GW151 := n5_; have GE151 := n6_; have NB141_151 := n7_; have NB151_141 := n8_; have NB143_151 := n9_; have NB151_143 := n10_; clear n0_ n1_ n2_ n3_ n4_ n5_ n6_ n7_ n8_ n9_ n10_; clear hb hbox hg; have hnb57 := NB151_141.out; have hnc57 := NB141_151.out; have hnb58 := NB151_143.out; have hnc58 := NB143_151.out; have hcz59_0 : w56.cell? ⟨gb151, 0, none⟩ = some (.int .u64 0) := (blk_cell BK151.out 0).trans rfl; have hcz59_1 : w56.cell? ⟨gb151, 1, none⟩ = some (.int .u64 0) := (blk_cell BK151.out 1).trans rfl; have hcz59_2 : w56.cell? ⟨gb151, 2, none⟩ = some (.int .u64 0) := (blk_cell BK151.out 2).trans rfl; have hcz59_3 : w56.cell? ⟨gb151, 3, none⟩ = some (.int .u64 0) := (blk_cell BK151.out 3).trans rfl; have hcz59_4 : w56.cell? ⟨gb151, 4, none⟩ = some (.int .u64 0) := (blk_cell BK151.out 4).trans rfl; have hfz59_0 := blk_frozen BK151.out 0; have hfz59_1 := blk_frozen BK151.out 1; have hfz59_2 := blk_frozen BK151.out 2; have hfz59_3 := blk_frozen BK151.out 3; have hfz59_4 := blk_frozen BK151.out 4; have hcz60_0 : w56.cell? ⟨gb141, 0, none⟩ = some (.int .u64 x142000_2) := (blk_cell BK141.out 0).trans rfl; have hcz60_1 : w56.cell? ⟨gb141, 1, none⟩ = some (.int .u64 x142001_2) := (blk_cell BK141.out 1).trans rfl; have hcz60_2 : w56.cell? ⟨gb141, 2, none⟩ = some (.int .u64 x142002_2) := (blk_cell BK141.out 2).trans rfl; have hcz60_3 : w56.cell? ⟨gb141, 3, none⟩ = some (.int .u64 x142003_2) := (blk_cell BK141.out 3).trans rfl; have hcz60_4 : w56.cell? ⟨gb141, 4, none⟩ = some (.int .u64 x142004_2) := (blk_cell BK141.out 4).trans rfl; have hfz60_0 := blk_frozen BK141.out 0; have hfz60_1 := blk_frozen BK141.out 1; have hfz60_2 := blk_frozen BK141.out 2; have hfz60_3 := blk_frozen BK141.out 3; have hfz60_4 := blk_frozen BK141.out 4))
                                      go_meet
                                      case rel => exact ⟨_, (x8_2), (IntKind.u64.wrap (x9_2 + t144)), (x10_2), (x11_2), (t145), (t146), (t147), (t148), (t149), (by first | rfl | (simp; done) | (simp [*]; done)), (by first | rfl | (simp; done) | (simp [*]; done)), (by first | rfl | (simp; done) | (simp [*]; done)), (by first | rfl | (simp; done) | (simp [*]; done)), H', ⟨by have := HK1.out; have := HK2.out; have := HJ30.out; first | omega | exact Nat.le_refl _⟩, ⟨by (with_reducible repeat (first | apply Kd.R_alloc | apply Kd.R_drewN | apply Kd.R_drew)); exact Kd.R_mono (Kd.R_far (p := ⟨gb141, 4, none⟩) (Kd.R_far (p := ⟨gb141, 3, none⟩) (Kd.R_far (p := ⟨gb141, 2, none⟩) (Kd.R_far (p := ⟨gb141, 1, none⟩) (Kd.R_far (p := ⟨gb141, 0, none⟩) (Kd.R_far (p := ⟨gb151, 4, none⟩) (Kd.R_far (p := ⟨gb151, 3, none⟩) (Kd.R_far (p := ⟨gb151, 2, none⟩) (Kd.R_far (p := ⟨gb151, 1, none⟩) (Kd.R_far (p := ⟨gb151, 0, none⟩) (Kd.R_types (Kd.R_types HO_22.out BK151.out (by decide)) BK141.out (by decide)) (fun _ hk => hk.1.2) (.int .u64 t145)) (fun _ hk => hk.1.2) (.int .u64 t146)) (fun _ hk => hk.1.2) (.int .u64 t147)) (fun _ hk => hk.1.2) (.int .u64 t148)) (fun _ hk => hk.1.2) (.int .u64 t149)) (fun _ hk => hk.2) (.int .u64 t145)) (fun _ hk => hk.2) (.int .u64 t146)) (fun _ hk => hk.2) (.int .u64 t147)) (fun _ hk => hk.2) (.int .u64 t148)) (fun _ hk => hk.2) (.int .u64 t149)) (fun _ hk => trivial)⟩, ⟨by (with_reducible repeat (first | refine blk_drewN ?_ _ | refine blk_drew ?_ | refine blk_alloc ?_ _)); refine blk_put (cs := #[.int .u64 t145, .int .u64 t146, .int .u64 t147, .int .u64 t148, .int .u64 x142004_2]) ?_ 4 _ rfl; (with_reducible repeat (first | refine blk_drewN ?_ _ | refine blk_drew ?_ | refine blk_alloc ?_ _)); refine blk_put (cs := #[.int .u64 t145, .int .u64 t146, .int .u64 t147, .int .u64 x142003_2, .int .u64 x142004_2]) ?_ 3 _ rfl; (with_reducible repeat (first | refine blk_drewN ?_ _ | refine blk_drew ?_ | refine blk_alloc ?_ _)); refine blk_put (cs := #[.int .u64 t145, .int .u64 t146, .int .u64 x142002_2, .int .u64 x142003_2, .int .u64 x142004_2]) ?_ 2 _ rfl; (with_reducible repeat (first | refine blk_drewN ?_ _ | refine blk_drew ?_ | refine blk_alloc ?_ _)); refine blk_put (cs := #[.int .u64 t145, .int .u64 x142001_2, .int .u64 x142002_2, .int .u64 x142003_2, .int .u64 x142004_2]) ?_ 1 _ rfl; (with_reducible repeat (first | refine blk_drewN ?_ _ | refine blk_drew ?_ | refine blk_alloc ?_ _)); refine blk_put (cs := #[.int .u64 x142000_2, .int .u64 x142001_2, .int .u64 x142002_2, .int .u64 x142003_2, .int .u64 x142004_2]) ?_ 0 _ rfl; (with_reducible repeat (first | refine blk_drewN ?_ _ | refine blk_drew ?_ | refine blk_alloc ?_ _)); refine blk_far ?_ NB141_151.out _; (with_reducible repeat (first | refine blk_drewN ?_ _ | refine blk_drew ?_ | refine blk_alloc ?_ _)); refine blk_far ?_ NB141_151.out _; (with_reducible repeat (first | refine blk_drewN ?_ _ | refine blk_drew ?_ | refine blk_alloc ?_ _)); refine blk_far ?_ NB141_151.out _; (with_reducible repeat (first | refine blk_drewN ?_ _ | refine blk_drew ?_ | refine blk_alloc ?_ _)); refine blk_far ?_ NB141_151.out _; (with_reducible repeat (first | refine blk_drewN ?_ _ | refine blk_drew ?_ | refine blk_alloc ?_ _)); refine blk_far ?_ NB141_151.out _; (with_reducible repeat (first | refine blk_drewN ?_ _ | refine blk_drew ?_ | refine blk_alloc ?_ _)); exact BK141.out⟩, ⟨by (with_reducible repeat (first | refine blk_drewN ?_ _ | refine blk_drew ?_ | refine blk_alloc ?_ _)); refine blk_far ?_ NB143_141.out _; (with_reducible repeat (first | refine blk_drewN ?_ _ | refine blk_drew ?_ | refine blk_alloc ?_ _)); refine blk_far ?_ NB143_141.out _; (with_reducible repeat (first | refine blk_drewN ?_ _ | refine blk_drew ?_ | refine blk_alloc ?_ _)); refine blk_far ?_ NB143_141.out _; (with_reducible repeat (first | refine blk_drewN ?_ _ | refine blk_drew ?_ | refine blk_alloc ?_ _)); refine blk_far ?_ NB143_141.out _; (with_reducible repeat (first | refine blk_drewN ?_ _ | refine blk_drew ?_ | refine blk_alloc ?_ _)); refine blk_far ?_ NB143_141.out _; (with_reducible repeat (first | refine blk_drewN ?_ _ | refine blk_drew ?_ | refine blk_alloc ?_ _)); refine blk_far ?_ NB143_151.out _; (with_reducible repeat (first | refine blk_drewN ?_ _ | refine blk_drew ?_ | refine blk_alloc ?_ _)); refine blk_far ?_ NB143_151.out _; (with_reducible repeat (first | refine blk_drewN ?_ _ | refine blk_drew ?_ | refine blk_alloc ?_ _)); refine blk_far ?_ NB143_151.out _; (with_reducible repeat (first | refine blk_drewN ?_ _ | refine blk_drew ?_ | refine blk_alloc ?_ _)); refine blk_far ?_ NB143_151.out _; (with_reducible repeat (first | refine blk_drewN ?_ _ | refine blk_drew ?_ | refine blk_alloc ?_ _)); refine blk_far ?_ NB143_151.out _; (with_reducible repeat (first | refine blk_drewN ?_ _ | refine blk_drew ?_ | refine blk_alloc ?_ _)); exact BK143.out⟩, ⟨by repeat (first | (with_reducible first | exact HB.out | apply below_alloc | apply pw_below_drewN | apply below_drew1 | refine below_set ?_ GE141.out | refine below_set ?_ GE143.out | refine below_set ?_ GE151.out) | exact HB.out)⟩⟩
                                    · rw [if_neg c52] at H
                                      have c52b0 : (t150 == 0) = false := beq_eq_false_iff_ne.mpr c52
                                      have c52b1 : (t150 != 0) = true := bne_iff_ne.mpr c52
                                      obtain rfl := Option.some.inj H
                                      have hnb61 := NB141_143.out
                                      have hnc61 := NB143_141.out
                                      have hcz62_0 : wc.cell? ⟨gb141, 0, none⟩ = some (.int .u64 x142000_2) := (blk_cell BK141.out 0).trans rfl
                                      have hcz62_1 : wc.cell? ⟨gb141, 1, none⟩ = some (.int .u64 x142001_2) := (blk_cell BK141.out 1).trans rfl
                                      have hcz62_2 : wc.cell? ⟨gb141, 2, none⟩ = some (.int .u64 x142002_2) := (blk_cell BK141.out 2).trans rfl
                                      have hcz62_3 : wc.cell? ⟨gb141, 3, none⟩ = some (.int .u64 x142003_2) := (blk_cell BK141.out 3).trans rfl
                                      have hcz62_4 : wc.cell? ⟨gb141, 4, none⟩ = some (.int .u64 x142004_2) := (blk_cell BK141.out 4).trans rfl
                                      have hfz62_0 := blk_frozen BK141.out 0
                                      have hfz62_1 := blk_frozen BK141.out 1
                                      have hfz62_2 := blk_frozen BK141.out 2
                                      have hfz62_3 := blk_frozen BK141.out 3
                                      have hfz62_4 := blk_frozen BK141.out 4
                                      go_wp2_with (first | ((with_reducible refine gate_callee (f := 29) rfl ?_); refine goesL_ (some 64) rfl rfl Try.func29 (by kernel_rfl) rfl #[.agg #[.int .u64 x142000_2, .int .u64 x142001_2, .int .u64 x142002_2, .int .u64 x142003_2, .int .u64 x142004_2], .int .u64 t144] rfl (by (try simp only [List.map_toArray, List.map_cons, List.map_nil]); first | done | rfl | (simp only [List.length_drop, List.length_take]; rfl)) ?_; (with_reducible refine (credit_Given_Use.calls x142000_2 x142001_2 x142002_2 x142003_2 x142004_2 t144 t145 t146 t147 t148 t149 t150 _ A35.out).mono ?_); rintro e w63 ⟨rfl, hb⟩; refine ⟨_, rfl, ?_⟩; have n0_ := Aside0.mk (Kd.R_below (by (with_reducible repeat (first | apply Kd.R_alloc | apply Kd.R_drewN | apply Kd.R_drew)); exact HO_22.out) hb); have n1_ := Aside0.mk (blk_below (g := gb141) (o := .cells #[.int .u64 x142000_2, .int .u64 x142001_2, .int .u64 x142002_2, .int .u64 x142003_2, .int .u64 x142004_2] 51 (0, 0)) (by (with_reducible repeat (first | refine blk_drewN ?_ _ | refine blk_drew ?_ | refine blk_alloc ?_ _)); exact BK141.out) hb); have n2_ := Aside0.mk (blk_below (g := gb143) (o := .cells #[.int .u8 ((rd_T54 l1 x36_2).f0), .int .u16 ((rd_T54 l1 x36_2).f1), .int .u64 ((rd_T54 l1 x36_2).f2), .bool ((rd_T54 l1 x36_2).f3)] 54 (0, 0)) (by (with_reducible repeat (first | refine blk_drewN ?_ _ | refine blk_drew ?_ | refine blk_alloc ?_ _)); exact BK143.out) hb); have n3_ := Aside0.mk (below_step (by repeat (first | (with_reducible first | exact HB.out | apply below_alloc | apply pw_below_drewN | apply below_drew1 | refine below_set ?_ GE141.out | refine below_set ?_ GE143.out) | exact HB.out)) hb); clear HO_22; clear BK141; clear BK143; clear HB; have HO_22 := n0_; have BK141 := n1_; have BK143 := n2_; have HB := n3_; clear n0_ n1_ n2_ n3_; (try clear hb); (try clear hb2); (try clear hk); (try clear hi)) | ((with_reducible refine gate_dst (N := 15) rfl ?_); refine box_event ?hg (N := 15) ?hd (cs := #[.int .u64 0, .int .u64 0, .int .u64 0, .int .u64 0, .int .u64 0]) (t := 51) ?hr ?_; (case hd => rfl); (case hg => rfl); (case hr => first | (go_simp; done) | (go_simp; rfl)); intro gb151 hg w64 hbox hb; have n0_ := Aside0.mk (Kd.R_below (by (with_reducible repeat (first | apply Kd.R_alloc | apply Kd.R_drewN | apply Kd.R_drew)); exact HO_22.out) hb); have n1_ := Aside0.mk (blk_below (g := gb141) (o := .cells #[.int .u64 x142000_2, .int .u64 x142001_2, .int .u64 x142002_2, .int .u64 x142003_2, .int .u64 x142004_2] 51 (0, 0)) (by (with_reducible repeat (first | refine blk_drewN ?_ _ | refine blk_drew ?_ | refine blk_alloc ?_ _)); exact BK141.out) hb); have n2_ := Aside0.mk (blk_below (g := gb143) (o := .cells #[.int .u8 ((rd_T54 l1 x36_2).f0), .int .u16 ((rd_T54 l1 x36_2).f1), .int .u64 ((rd_T54 l1 x36_2).f2), .bool ((rd_T54 l1 x36_2).f3)] 54 (0, 0)) (by (with_reducible repeat (first | refine blk_drewN ?_ _ | refine blk_drew ?_ | refine blk_alloc ?_ _)); exact BK143.out) hb); have n3_ := Aside0.mk (below_step (by repeat (first | (with_reducible first | exact HB.out | apply below_alloc | apply pw_below_drewN | apply below_drew1 | refine below_set ?_ GE141.out | refine below_set ?_ GE143.out) | exact HB.out)) hb); have n4_ := Aside0.mk (hbox); have n5_ := Aside0.mk ((by rw [hg]; exact (below_size (by repeat (first | (with_reducible first | exact HB.out | apply below_alloc | apply pw_below_drewN | apply below_drew1 | refine below_set ?_ GE141.out | refine below_set ?_ GE143.out) | exact HB.out))) : w.heap.size ≤ gb151)); have n6_ := Aside0.mk ((by rw [hg]; exact (below_size (by repeat (first | (with_reducible first | exact HB.out | apply below_alloc | apply pw_below_drewN | apply below_drew1 | refine below_set ?_ GE141.out | refine below_set ?_ GE143.out) | exact HB.out))) : w.heap.size ≤ gb151)); have n7_ := Aside0.mk ((by rw [hg]; exact Nat.ne_of_lt (blk_lt (g := gb141) (o := .cells #[.int .u64 x142000_2, .int .u64 x142001_2, .int .u64 x142002_2, .int .u64 x142003_2, .int .u64 x142004_2] 51 (0, 0)) (by (with_reducible repeat (first | refine blk_drewN ?_ _ | refine blk_drew ?_ | refine blk_alloc ?_ _)); exact BK141.out)) : gb141 ≠ gb151)); have n8_ := Aside0.mk ((by rw [hg]; exact Nat.ne_of_gt (blk_lt (g := gb141) (o := .cells #[.int .u64 x142000_2, .int .u64 x142001_2, .int .u64 x142002_2, .int .u64 x142003_2, .int .u64 x142004_2] 51 (0, 0)) (by (with_reducible repeat (first | refine blk_drewN ?_ _ | refine blk_drew ?_ | refine blk_alloc ?_ _)); exact BK141.out)) : gb151 ≠ gb141)); have n9_ := Aside0.mk ((by rw [hg]; exact Nat.ne_of_lt (blk_lt (g := gb143) (o := .cells #[.int .u8 ((rd_T54 l1 x36_2).f0), .int .u16 ((rd_T54 l1 x36_2).f1), .int .u64 ((rd_T54 l1 x36_2).f2), .bool ((rd_T54 l1 x36_2).f3)] 54 (0, 0)) (by (with_reducible repeat (first | refine blk_drewN ?_ _ | refine blk_drew ?_ | refine blk_alloc ?_ _)); exact BK143.out)) : gb143 ≠ gb151)); have n10_ := Aside0.mk ((by rw [hg]; exact Nat.ne_of_gt (blk_lt (g := gb143) (o := .cells #[.int .u8 ((rd_T54 l1 x36_2).f0), .int .u16 ((rd_T54 l1 x36_2).f1), .int .u64 ((rd_T54 l1 x36_2).f2), .bool ((rd_T54 l1 x36_2).f3)] 54 (0, 0)) (by (with_reducible repeat (first | refine blk_drewN ?_ _ | refine blk_drew ?_ | refine blk_alloc ?_ _)); exact BK143.out)) : gb151 ≠ gb143)); clear HO_22; clear BK141; clear BK143; clear HB; have HO_22 := n0_; have BK141 := n1_; have BK143 := n2_; have HB := n3_; have BK151 := n4_; have GW151 := n5_; have GE151 := n6_; have NB141_151 := n7_; have NB151_141 := n8_; have NB143_151 := n9_; have NB151_143 := n10_; clear n0_ n1_ n2_ n3_ n4_ n5_ n6_ n7_ n8_ n9_ n10_; clear hb hbox hg; have hnb65 := NB151_141.out; have hnc65 := NB141_151.out; have hnb66 := NB151_143.out; have hnc66 := NB143_151.out; have hcz67_0 : w64.cell? ⟨gb151, 0, none⟩ = some (.int .u64 0) := (blk_cell BK151.out 0).trans rfl; have hcz67_1 : w64.cell? ⟨gb151, 1, none⟩ = some (.int .u64 0) := (blk_cell BK151.out 1).trans rfl; have hcz67_2 : w64.cell? ⟨gb151, 2, none⟩ = some (.int .u64 0) := (blk_cell BK151.out 2).trans rfl; have hcz67_3 : w64.cell? ⟨gb151, 3, none⟩ = some (.int .u64 0) := (blk_cell BK151.out 3).trans rfl; have hcz67_4 : w64.cell? ⟨gb151, 4, none⟩ = some (.int .u64 0) := (blk_cell BK151.out 4).trans rfl; have hfz67_0 := blk_frozen BK151.out 0; have hfz67_1 := blk_frozen BK151.out 1; have hfz67_2 := blk_frozen BK151.out 2; have hfz67_3 := blk_frozen BK151.out 3; have hfz67_4 := blk_frozen BK151.out 4))
                                      go_ret
                                      exact ⟨by first | rfl | (simp [errW_none, errW_some] <;> rfl) | (simp only [← hji13]; first | rfl | (simp [errW_none, errW_some] <;> rfl)) | (simp [*, errW_none, errW_some] <;> rfl), by repeat (first | (with_reducible first | exact HB.out | apply below_alloc | apply pw_below_drewN | apply below_drew1 | refine below_set ?_ GE141.out | refine below_set ?_ GE143.out | refine below_set ?_ GE151.out) | exact HB.out)⟩
                                · replace c34 := Bool.eq_false_iff.mpr c34
                                  subst c34
                                  have H1 : (if (Int.tmod ((rd_T54 l1 x36_2).f0) 7) = 3 then (binnaclelaw20_CreditGives.j4 kj30 l1 ji13 x8_2 x9_2 x10_2 x11_2 t144 y132 (y132.length : Int) x24_1 l1 (l1.length : Int) x36_2 (Int.tmod ((rd_T54 l1 x36_2).f0) 7) ((Int.tmod ((rd_T54 l1 x36_2).f0) 7) == 3) x142000_2 x142001_2 x142002_2 x142003_2 x142004_2) else (binnaclelaw20_CreditGives.j4 kj30 l1 ji13 x8_2 x9_2 x10_2 x11_2 t144 y132 (y132.length : Int) x24_1 l1 (l1.length : Int) x36_2 (Int.tmod ((rd_T54 l1 x36_2).f0) 7) ((Int.tmod ((rd_T54 l1 x36_2).f0) 7) == 4) x142000_2 x142001_2 x142002_2 x142003_2 x142004_2)) = some r := by rw [if_neg (show ¬ (false = true) by decide)] at H; exact H
                                  clear H
                                  have H := H1
                                  clear H1
                                  have HC68 := Aside0.mk H
                                  clear H
                                  go_upto_if 85 with (fail)
                                  go_cut [85] (fun v85 wc => ∃ (kq : Nat) (x85_67 : Bool), v85 = .bool x85_67 ∧ Aside0 (binnaclelaw20_CreditGives.j4 kq l1 ji13 x8_2 x9_2 x10_2 x11_2 t144 y132 (y132.length : Int) x24_1 l1 (l1.length : Int) x36_2 (Int.tmod ((rd_T54 l1 x36_2).f0) 7) x85_67 x142000_2 x142001_2 x142002_2 x142003_2 x142004_2 = some r) ∧ Aside0 (kq ≤ kj30) ∧ Aside0 (Kd.R (Kd.int .u64) 24 wc w.heap.size (fun _ => True) (.slice (some ad135) y132.length co8) y132) ∧ Aside0 (wc.heap[gb141]? = some (.cells #[.int .u64 x142000_2, .int .u64 x142001_2, .int .u64 x142002_2, .int .u64 x142003_2, .int .u64 x142004_2] 51 (0, 0))) ∧ Aside0 (wc.heap[gb143]? = some (.cells #[.int .u8 ((rd_T54 l1 x36_2).f0), .int .u16 ((rd_T54 l1 x36_2).f1), .int .u64 ((rd_T54 l1 x36_2).f2), .bool ((rd_T54 l1 x36_2).f3)] 54 (0, 0))) ∧ Aside0 (Below w.heap.size w wc))
                                  case first =>
                                    have H := HC68.out
                                    clear HC68
                                    by_cases c69 : (Int.tmod ((rd_T54 l1 x36_2).f0) 7) = 3
                                    · rw [if_pos c69] at H
                                      have c69b0 : ((Int.tmod ((rd_T54 l1 x36_2).f0) 7) == 3) = true := beq_iff_eq.mpr c69
                                      have c69b1 : ((Int.tmod ((rd_T54 l1 x36_2).f0) 7) != 3) = false := bne_eq_false_iff_eq.mpr c69
                                      clear c69
                                      (first | rw [c69b0] | (simp only [i64_w, i32_w]; rw [c69b0]) | skip)
                                      have H' := Aside0.mk H
                                      clear H
                                      go_wp2
                                      go_meet
                                      case rel => exact ⟨_, (((Int.tmod ((rd_T54 l1 x36_2).f0) 7) == 3)), (by first | rfl | (simp; done) | (simp [*]; done)), H', ⟨by have := HK1.out; have := HK2.out; have := HJ30.out; first | omega | exact Nat.le_refl _⟩, ⟨by (with_reducible repeat (first | apply Kd.R_alloc | apply Kd.R_drewN | apply Kd.R_drew)); exact HO_22.out⟩, ⟨by (with_reducible repeat (first | refine blk_drewN ?_ _ | refine blk_drew ?_ | refine blk_alloc ?_ _)); exact BK141.out⟩, ⟨by (with_reducible repeat (first | refine blk_drewN ?_ _ | refine blk_drew ?_ | refine blk_alloc ?_ _)); exact BK143.out⟩, ⟨by repeat (first | (with_reducible first | exact HB.out | apply below_alloc | apply pw_below_drewN | apply below_drew1 | refine below_set ?_ GE141.out | refine below_set ?_ GE143.out) | exact HB.out)⟩⟩
                                    · rw [if_neg c69] at H
                                      have c69b0 : ((Int.tmod ((rd_T54 l1 x36_2).f0) 7) == 3) = false := beq_eq_false_iff_ne.mpr c69
                                      have c69b1 : ((Int.tmod ((rd_T54 l1 x36_2).f0) 7) != 3) = true := bne_iff_ne.mpr c69
                                      (first | rw [c69b0] | (simp only [i64_w, i32_w]; rw [c69b0]) | skip)
                                      have H' := Aside0.mk H
                                      clear H
                                      go_wp2
                                      go_meet
                                      case rel => exact ⟨_, (((Int.tmod ((rd_T54 l1 x36_2).f0) 7) == 4)), (by first | rfl | (simp; done) | (simp [*]; done)), H', ⟨by have := HK1.out; have := HK2.out; have := HJ30.out; first | omega | exact Nat.le_refl _⟩, ⟨by (with_reducible repeat (first | apply Kd.R_alloc | apply Kd.R_drewN | apply Kd.R_drew)); exact HO_22.out⟩, ⟨by (with_reducible repeat (first | refine blk_drewN ?_ _ | refine blk_drew ?_ | refine blk_alloc ?_ _)); exact BK141.out⟩, ⟨by (with_reducible repeat (first | refine blk_drewN ?_ _ | refine blk_drew ?_ | refine blk_alloc ?_ _)); exact BK143.out⟩, ⟨by repeat (first | (with_reducible first | exact HB.out | apply below_alloc | apply pw_below_drewN | apply below_drew1 | refine below_set ?_ GE141.out | refine below_set ?_ GE143.out) | exact HB.out)⟩⟩
                                  case rest =>
                                    clear HC68
                                    try clear c1
                                    try clear p1
                                    try clear q1
                                    try clear hx1
                                    try clear c2
                                    try clear p2
                                    try clear c3
                                    try clear c4
                                    try clear c5
                                    try clear c6
                                    try clear p6
                                    try clear c7
                                    try clear c9
                                    try clear c9b0
                                    try clear c10
                                    try clear c10b0
                                    try clear c11
                                    try clear c11b0
                                    try clear p13
                                    try clear q13
                                    try clear hx13
                                    try clear p14
                                    try clear q14
                                    try clear hx14
                                    try clear c17
                                    try clear c17b0
                                    try clear c18
                                    try clear c18b0
                                    try clear c19
                                    try clear c19b0
                                    try clear c20
                                    try clear c20b0
                                    try clear c22
                                    try clear c26
                                    try clear c27
                                    try clear c28
                                    try clear c29
                                    try clear c32
                                    try clear c32b0
                                    try clear c32b1
                                    try clear c33
                                    try clear c33b0
                                    try clear c33b1
                                    try clear c34
                                    try clear c36
                                    try clear c36b0
                                    try clear c38
                                    try clear c42
                                    try clear c43
                                    try clear c45
                                    try clear c45b0
                                    try clear c45b1
                                    try clear c46
                                    try clear c47
                                    try clear c49
                                    try clear c51
                                    try clear c52
                                    try clear c52b0
                                    try clear c52b1
                                    try clear c53
                                    try clear c57
                                    try clear c58
                                    try clear c61
                                    try clear p64
                                    try clear c65
                                    try clear c66
                                    try clear c69
                                    try clear c69b0
                                    try clear c69b1
                                    try clear hcz16_0
                                    try clear hcz16_1
                                    try clear hcz16_2
                                    try clear hcz16_3
                                    try clear hcz16_4
                                    try clear hcz23_0
                                    try clear hcz23_1
                                    try clear hcz23_2
                                    try clear hcz23_3
                                    try clear hcz28_0
                                    try clear hcz28_1
                                    try clear hcz28_2
                                    try clear hcz28_3
                                    try clear hcz30_0
                                    try clear hcz30_1
                                    try clear hcz30_2
                                    try clear hcz30_3
                                    try clear hcz39_0
                                    try clear hcz39_1
                                    try clear hcz39_2
                                    try clear hcz39_3
                                    try clear hcz39_4
                                    try clear hcz44_0
                                    try clear hcz44_1
                                    try clear hcz44_2
                                    try clear hcz44_3
                                    try clear hcz44_4
                                    try clear hcz48_0
                                    try clear hcz48_1
                                    try clear hcz48_2
                                    try clear hcz48_3
                                    try clear hcz48_4
                                    try clear hcz50_0
                                    try clear hcz50_1
                                    try clear hcz50_2
                                    try clear hcz50_3
                                    try clear hcz50_4
                                    try clear hcz54_0
                                    try clear hcz54_1
                                    try clear hcz54_2
                                    try clear hcz54_3
                                    try clear hcz54_4
                                    try clear hcz59_0
                                    try clear hcz59_1
                                    try clear hcz59_2
                                    try clear hcz59_3
                                    try clear hcz59_4
                                    try clear hcz60_0
                                    try clear hcz60_1
                                    try clear hcz60_2
                                    try clear hcz60_3
                                    try clear hcz60_4
                                    try clear hcz62_0
                                    try clear hcz62_1
                                    try clear hcz62_2
                                    try clear hcz62_3
                                    try clear hcz62_4
                                    try clear hcz67_0
                                    try clear hcz67_1
                                    try clear hcz67_2
                                    try clear hcz67_3
                                    try clear hcz67_4
                                    try clear hfz16_0
                                    try clear hfz16_1
                                    try clear hfz16_2
                                    try clear hfz16_3
                                    try clear hfz16_4
                                    try clear hfz23_0
                                    try clear hfz23_1
                                    try clear hfz23_2
                                    try clear hfz23_3
                                    try clear hfz28_0
                                    try clear hfz28_1
                                    try clear hfz28_2
                                    try clear hfz28_3
                                    try clear hfz30_0
                                    try clear hfz30_1
                                    try clear hfz30_2
                                    try clear hfz30_3
                                    try clear hfz39_0
                                    try clear hfz39_1
                                    try clear hfz39_2
                                    try clear hfz39_3
                                    try clear hfz39_4
                                    try clear hfz44_0
                                    try clear hfz44_1
                                    try clear hfz44_2
                                    try clear hfz44_3
                                    try clear hfz44_4
                                    try clear hfz48_0
                                    try clear hfz48_1
                                    try clear hfz48_2
                                    try clear hfz48_3
                                    try clear hfz48_4
                                    try clear hfz50_0
                                    try clear hfz50_1
                                    try clear hfz50_2
                                    try clear hfz50_3
                                    try clear hfz50_4
                                    try clear hfz54_0
                                    try clear hfz54_1
                                    try clear hfz54_2
                                    try clear hfz54_3
                                    try clear hfz54_4
                                    try clear hfz59_0
                                    try clear hfz59_1
                                    try clear hfz59_2
                                    try clear hfz59_3
                                    try clear hfz59_4
                                    try clear hfz60_0
                                    try clear hfz60_1
                                    try clear hfz60_2
                                    try clear hfz60_3
                                    try clear hfz60_4
                                    try clear hfz62_0
                                    try clear hfz62_1
                                    try clear hfz62_2
                                    try clear hfz62_3
                                    try clear hfz62_4
                                    try clear hfz67_0
                                    try clear hfz67_1
                                    try clear hfz67_2
                                    try clear hfz67_3
                                    try clear hfz67_4
                                    try clear hx135_0
                                    try clear hx142_0
                                    try clear hx142_1
                                    try clear hx142_2
                                    try clear hx142_3
                                    try clear p1
                                    try clear p13
                                    try clear p135
                                    try clear p14
                                    try clear p142
                                    try clear p2
                                    try clear p6
                                    try clear q1
                                    try clear q13
                                    try clear q135
                                    try clear q14
                                    try clear q142
                                    obtain ⟨kq, x85_67, rfl, HA, HJ67, HO_22, BK141, BK143, HB⟩ := hcut
                                    cases kq with
                                    | zero => exact absurd HA.out (by simp [binnaclelaw20_CreditGives.j4])
                                    | succ kj67 =>
                                      have H := HA.out
                                      clear HA
                                      simp only [binnaclelaw20_CreditGives.j4] at H
                                      by_cases c70 : x85_67 = true
                                      · subst c70
                                        have H1 : ((credit_Given_Take.f x142000_2 x142001_2 x142002_2 x142003_2 x142004_2 t144).bind fun bt152 => (binnaclelaw20_CreditGives.j5 kj67 l1 ji13 (mx x8_2 (mn (IntKind.u64.wrap ((IntKind.u64.wrap (x10_2 + (mn t144 (IntKind.u64.wrap (x9_2 - x10_2))))) + ji13)) 4611686018427387903)) x9_2 (IntKind.u64.wrap (x10_2 + (mn t144 (IntKind.u64.wrap (x9_2 - x10_2))))) x11_2 y132 (y132.length : Int) x24_1 l1 (l1.length : Int) x36_2 bt152.1 bt152.2.1 bt152.2.2.1 bt152.2.2.2.1 bt152.2.2.2.2)) = some r := by rw [if_pos rfl] at H; exact H
                                        clear H
                                        have H := H1
                                        clear H1
                                        replace H := Option.bind_eq_some_iff.mp H
                                        obtain ⟨⟨t152, t153, t154, t155, t156⟩, A710, H⟩ := H
                                        replace H : (binnaclelaw20_CreditGives.j5 kj67 l1 ji13 (mx x8_2 (mn (IntKind.u64.wrap ((IntKind.u64.wrap (x10_2 + (mn t144 (IntKind.u64.wrap (x9_2 - x10_2))))) + ji13)) 4611686018427387903)) x9_2 (IntKind.u64.wrap (x10_2 + (mn t144 (IntKind.u64.wrap (x9_2 - x10_2))))) x11_2 y132 (y132.length : Int) x24_1 l1 (l1.length : Int) x36_2 t152 t153 t154 t155 t156) = some r := H
                                        have A71 := Aside0.mk A710
                                        clear A710
                                        obtain ⟨ji72, hji72⟩ : ∃ j_ : Int, (mn t144 (IntKind.u64.wrap (x9_2 - x10_2))) = j_ := ⟨_, rfl⟩
                                        replace H : (binnaclelaw20_CreditGives.j5 kj67 l1 ji13 (mx x8_2 (mn (IntKind.u64.wrap ((IntKind.u64.wrap (x10_2 + (ji72))) + ji13)) 4611686018427387903)) x9_2 (IntKind.u64.wrap (x10_2 + (ji72))) x11_2 y132 (y132.length : Int) x24_1 l1 (l1.length : Int) x36_2 t152 t153 t154 t155 t156) = some r := by first | (rw [hji72] at H; exact H) | (simp only [hji72] at H ⊢; exact H)
                                        (try rw [hji72] at A71)
                                        have hji72_ : (if (IntKind.u64.wrap (x9_2 - x10_2)) < t144 then (IntKind.u64.wrap (x9_2 - x10_2)) else t144) = ji72 := hji72
                                        obtain ⟨ji73, hji73⟩ : ∃ j_ : Int, (mn (IntKind.u64.wrap ((IntKind.u64.wrap (x10_2 + (ji72))) + ji13)) 4611686018427387903) = j_ := ⟨_, rfl⟩
                                        replace H : (binnaclelaw20_CreditGives.j5 kj67 l1 ji13 (mx x8_2 (ji73)) x9_2 (IntKind.u64.wrap (x10_2 + (ji72))) x11_2 y132 (y132.length : Int) x24_1 l1 (l1.length : Int) x36_2 t152 t153 t154 t155 t156) = some r := by first | (rw [hji73] at H; exact H) | (simp only [hji73] at H ⊢; exact H)
                                        (try rw [hji73] at A71)
                                        have hji73_ : (if 4611686018427387903 < (IntKind.u64.wrap ((IntKind.u64.wrap (x10_2 + (ji72))) + ji13)) then 4611686018427387903 else (IntKind.u64.wrap ((IntKind.u64.wrap (x10_2 + (ji72))) + ji13))) = ji73 := hji73
                                        obtain ⟨ji74, hji74⟩ : ∃ j_ : Int, (mx x8_2 (ji73)) = j_ := ⟨_, rfl⟩
                                        replace H : (binnaclelaw20_CreditGives.j5 kj67 l1 ji13 ji74 x9_2 (IntKind.u64.wrap (x10_2 + (ji72))) x11_2 y132 (y132.length : Int) x24_1 l1 (l1.length : Int) x36_2 t152 t153 t154 t155 t156) = some r := by first | (rw [hji74] at H; exact H) | (simp only [hji74] at H ⊢; exact H)
                                        (try rw [hji74] at A71)
                                        have hji74_ : (if x8_2 < (ji73) then (ji73) else x8_2) = ji74 := hji74
                                        have H' := Aside0.mk H
                                        clear H
                                        have hnb75 := NB141_143.out
                                        have hnc75 := NB143_141.out
                                        have hcz76_0 : wc.cell? ⟨gb141, 0, none⟩ = some (.int .u64 x142000_2) := (blk_cell BK141.out 0).trans rfl
                                        have hcz76_1 : wc.cell? ⟨gb141, 1, none⟩ = some (.int .u64 x142001_2) := (blk_cell BK141.out 1).trans rfl
                                        have hcz76_2 : wc.cell? ⟨gb141, 2, none⟩ = some (.int .u64 x142002_2) := (blk_cell BK141.out 2).trans rfl
                                        have hcz76_3 : wc.cell? ⟨gb141, 3, none⟩ = some (.int .u64 x142003_2) := (blk_cell BK141.out 3).trans rfl
                                        have hcz76_4 : wc.cell? ⟨gb141, 4, none⟩ = some (.int .u64 x142004_2) := (blk_cell BK141.out 4).trans rfl
                                        have hfz76_0 := blk_frozen BK141.out 0
                                        have hfz76_1 := blk_frozen BK141.out 1
                                        have hfz76_2 := blk_frozen BK141.out 2
                                        have hfz76_3 := blk_frozen BK141.out 3
                                        have hfz76_4 := blk_frozen BK141.out 4
                                        go_wp2_with (first | ((with_reducible refine gate_callee (f := 30) rfl ?_); refine goesL_ (some 90) rfl rfl Try.func30 (by kernel_rfl) rfl #[.agg #[.int .u64 x142000_2, .int .u64 x142001_2, .int .u64 x142002_2, .int .u64 x142003_2, .int .u64 x142004_2], .int .u64 t144] rfl (by (try simp only [List.map_toArray, List.map_cons, List.map_nil]); first | done | rfl | (simp only [List.length_drop, List.length_take]; rfl)) ?_; (with_reducible refine (credit_Given_Take.calls x142000_2 x142001_2 x142002_2 x142003_2 x142004_2 t144 t152 t153 t154 t155 t156 _ A71.out).mono ?_); rintro e w77 ⟨rfl, hb⟩; refine ⟨_, rfl, ?_⟩; have n0_ := Aside0.mk (Kd.R_below (by (with_reducible repeat (first | apply Kd.R_alloc | apply Kd.R_drewN | apply Kd.R_drew)); exact HO_22.out) hb); have n1_ := Aside0.mk (blk_below (g := gb141) (o := .cells #[.int .u64 x142000_2, .int .u64 x142001_2, .int .u64 x142002_2, .int .u64 x142003_2, .int .u64 x142004_2] 51 (0, 0)) (by (with_reducible repeat (first | refine blk_drewN ?_ _ | refine blk_drew ?_ | refine blk_alloc ?_ _)); exact BK141.out) hb); have n2_ := Aside0.mk (blk_below (g := gb143) (o := .cells #[.int .u8 ((rd_T54 l1 x36_2).f0), .int .u16 ((rd_T54 l1 x36_2).f1), .int .u64 ((rd_T54 l1 x36_2).f2), .bool ((rd_T54 l1 x36_2).f3)] 54 (0, 0)) (by (with_reducible repeat (first | refine blk_drewN ?_ _ | refine blk_drew ?_ | refine blk_alloc ?_ _)); exact BK143.out) hb); have n3_ := Aside0.mk (below_step (by repeat (first | (with_reducible first | exact HB.out | apply below_alloc | apply pw_below_drewN | apply below_drew1 | refine below_set ?_ GE141.out | refine below_set ?_ GE143.out) | exact HB.out)) hb); clear HO_22; clear BK141; clear BK143; clear HB; have HO_22 := n0_; have BK141 := n1_; have BK143 := n2_; have HB := n3_; clear n0_ n1_ n2_ n3_; (try clear hb); (try clear hb2); (try clear hk); (try clear hi); have hcz78_0 : w77.cell? ⟨gb141, 0, none⟩ = some (.int .u64 x142000_2) := (blk_cell BK141.out 0).trans rfl; have hcz78_1 : w77.cell? ⟨gb141, 1, none⟩ = some (.int .u64 x142001_2) := (blk_cell BK141.out 1).trans rfl; have hcz78_2 : w77.cell? ⟨gb141, 2, none⟩ = some (.int .u64 x142002_2) := (blk_cell BK141.out 2).trans rfl; have hcz78_3 : w77.cell? ⟨gb141, 3, none⟩ = some (.int .u64 x142003_2) := (blk_cell BK141.out 3).trans rfl; have hcz78_4 : w77.cell? ⟨gb141, 4, none⟩ = some (.int .u64 x142004_2) := (blk_cell BK141.out 4).trans rfl; have hfz78_0 := blk_frozen BK141.out 0; have hfz78_1 := blk_frozen BK141.out 1; have hfz78_2 := blk_frozen BK141.out 2; have hfz78_3 := blk_frozen BK141.out 3; have hfz78_4 := blk_frozen BK141.out 4))
                                        go_meet
                                        case rel => exact ⟨_, (ji74), (x9_2), (IntKind.u64.wrap (x10_2 + (ji72))), (x11_2), (t152), (t153), (t154), (t155), (t156), (by first | rfl | (simp; done) | (simp only [← hji74] <;> (first | rfl | simp)) | (simp [*]; done)), (by first | rfl | (simp; done) | (simp [*]; done)), (by first | rfl | (simp; done) | (simp only [← hji72] <;> (first | rfl | simp)) | (simp [*]; done)), (by first | rfl | (simp; done) | (simp [*]; done)), H', ⟨by have := HK1.out; have := HK2.out; have := HJ30.out; have := HJ67.out; first | omega | exact Nat.le_refl _⟩, ⟨by (with_reducible repeat (first | apply Kd.R_alloc | apply Kd.R_drewN | apply Kd.R_drew)); exact Kd.R_mono (Kd.R_far (p := ⟨gb141, 4, none⟩) (Kd.R_far (p := ⟨gb141, 3, none⟩) (Kd.R_far (p := ⟨gb141, 2, none⟩) (Kd.R_far (p := ⟨gb141, 1, none⟩) (Kd.R_far (p := ⟨gb141, 0, none⟩) (Kd.R_types HO_22.out BK141.out (by decide)) (fun _ hk => hk.2) (.int .u64 t152)) (fun _ hk => hk.2) (.int .u64 t153)) (fun _ hk => hk.2) (.int .u64 t154)) (fun _ hk => hk.2) (.int .u64 t155)) (fun _ hk => hk.2) (.int .u64 t156)) (fun _ hk => trivial)⟩, ⟨by (with_reducible repeat (first | refine blk_drewN ?_ _ | refine blk_drew ?_ | refine blk_alloc ?_ _)); refine blk_put (cs := #[.int .u64 t152, .int .u64 t153, .int .u64 t154, .int .u64 t155, .int .u64 x142004_2]) ?_ 4 _ rfl; (with_reducible repeat (first | refine blk_drewN ?_ _ | refine blk_drew ?_ | refine blk_alloc ?_ _)); refine blk_put (cs := #[.int .u64 t152, .int .u64 t153, .int .u64 t154, .int .u64 x142003_2, .int .u64 x142004_2]) ?_ 3 _ rfl; (with_reducible repeat (first | refine blk_drewN ?_ _ | refine blk_drew ?_ | refine blk_alloc ?_ _)); refine blk_put (cs := #[.int .u64 t152, .int .u64 t153, .int .u64 x142002_2, .int .u64 x142003_2, .int .u64 x142004_2]) ?_ 2 _ rfl; (with_reducible repeat (first | refine blk_drewN ?_ _ | refine blk_drew ?_ | refine blk_alloc ?_ _)); refine blk_put (cs := #[.int .u64 t152, .int .u64 x142001_2, .int .u64 x142002_2, .int .u64 x142003_2, .int .u64 x142004_2]) ?_ 1 _ rfl; (with_reducible repeat (first | refine blk_drewN ?_ _ | refine blk_drew ?_ | refine blk_alloc ?_ _)); refine blk_put (cs := #[.int .u64 x142000_2, .int .u64 x142001_2, .int .u64 x142002_2, .int .u64 x142003_2, .int .u64 x142004_2]) ?_ 0 _ rfl; (with_reducible repeat (first | refine blk_drewN ?_ _ | refine blk_drew ?_ | refine blk_alloc ?_ _)); exact BK141.out⟩, ⟨by (with_reducible repeat (first | refine blk_drewN ?_ _ | refine blk_drew ?_ | refine blk_alloc ?_ _)); refine blk_far ?_ NB143_141.out _; (with_reducible repeat (first | refine blk_drewN ?_ _ | refine blk_drew ?_ | refine blk_alloc ?_ _)); refine blk_far ?_ NB143_141.out _; (with_reducible repeat (first | refine blk_drewN ?_ _ | refine blk_drew ?_ | refine blk_alloc ?_ _)); refine blk_far ?_ NB143_141.out _; (with_reducible repeat (first | refine blk_drewN ?_ _ | refine blk_drew ?_ | refine blk_alloc ?_ _)); refine blk_far ?_ NB143_141.out _; (with_reducible repeat (first | refine blk_drewN ?_ _ | refine blk_drew ?_ | refine blk_alloc ?_ _)); refine blk_far ?_ NB143_141.out _; (with_reducible repeat (first | refine blk_drewN ?_ _ | refine blk_drew ?_ | refine blk_alloc ?_ _)); exact BK143.out⟩, ⟨by repeat (first | (with_reducible first | exact HB.out | apply below_alloc | apply pw_below_drewN | apply below_drew1 | refine below_set ?_ GE141.out | refine below_set ?_ GE143.out) | exact HB.out)⟩⟩
                                      · replace c70 := Bool.eq_false_iff.mpr c70
                                        subst c70
                                        have H1 : (if (Int.tmod ((rd_T54 l1 x36_2).f0) 7) = 5 then ((credit_Given_Told.f x142000_2 x142001_2 x142002_2 x142003_2 x142004_2).bind fun bt157 => (binnaclelaw20_CreditGives.j5 kj67 l1 ji13 x8_2 x9_2 x10_2 x8_2 y132 (y132.length : Int) x24_1 l1 (l1.length : Int) x36_2 bt157.1 bt157.2.1 bt157.2.2.1 bt157.2.2.2.1 bt157.2.2.2.2)) else ((credit_Given_Lost.f x142000_2 x142001_2 x142002_2 x142003_2 x142004_2).bind fun bt162 => (binnaclelaw20_CreditGives.j5 kj67 l1 ji13 x8_2 x9_2 x10_2 (IntKind.u64.wrap (x11_2 - (mn x11_2 (IntKind.u64.wrap ((IntKind.u64.wrap (Int.tdiv ji13 2)) + 1))))) y132 (y132.length : Int) x24_1 l1 (l1.length : Int) x36_2 bt162.1 bt162.2.1 bt162.2.2.1 bt162.2.2.2.1 bt162.2.2.2.2))) = some r := by rw [if_neg (show ¬ (false = true) by decide)] at H; exact H
                                        clear H
                                        have H := H1
                                        clear H1
                                        by_cases c79 : (Int.tmod ((rd_T54 l1 x36_2).f0) 7) = 5
                                        · rw [if_pos c79] at H
                                          have c79b0 : ((Int.tmod ((rd_T54 l1 x36_2).f0) 7) == 5) = true := beq_iff_eq.mpr c79
                                          have c79b1 : ((Int.tmod ((rd_T54 l1 x36_2).f0) 7) != 5) = false := bne_eq_false_iff_eq.mpr c79
                                          clear c79
                                          replace H := Option.bind_eq_some_iff.mp H
                                          obtain ⟨⟨t157, t158, t159, t160, t161⟩, A800, H⟩ := H
                                          replace H : (binnaclelaw20_CreditGives.j5 kj67 l1 ji13 x8_2 x9_2 x10_2 x8_2 y132 (y132.length : Int) x24_1 l1 (l1.length : Int) x36_2 t157 t158 t159 t160 t161) = some r := H
                                          have A80 := Aside0.mk A800
                                          clear A800
                                          have H' := Aside0.mk H
                                          clear H
                                          have hnb81 := NB141_143.out
                                          have hnc81 := NB143_141.out
                                          have hcz82_0 : wc.cell? ⟨gb141, 0, none⟩ = some (.int .u64 x142000_2) := (blk_cell BK141.out 0).trans rfl
                                          have hcz82_1 : wc.cell? ⟨gb141, 1, none⟩ = some (.int .u64 x142001_2) := (blk_cell BK141.out 1).trans rfl
                                          have hcz82_2 : wc.cell? ⟨gb141, 2, none⟩ = some (.int .u64 x142002_2) := (blk_cell BK141.out 2).trans rfl
                                          have hcz82_3 : wc.cell? ⟨gb141, 3, none⟩ = some (.int .u64 x142003_2) := (blk_cell BK141.out 3).trans rfl
                                          have hcz82_4 : wc.cell? ⟨gb141, 4, none⟩ = some (.int .u64 x142004_2) := (blk_cell BK141.out 4).trans rfl
                                          have hfz82_0 := blk_frozen BK141.out 0
                                          have hfz82_1 := blk_frozen BK141.out 1
                                          have hfz82_2 := blk_frozen BK141.out 2
                                          have hfz82_3 := blk_frozen BK141.out 3
                                          have hfz82_4 := blk_frozen BK141.out 4
                                          go_wp2_with (first | ((with_reducible refine gate_callee (f := 31) rfl ?_); refine goesL_ (some 107) rfl rfl Try.func31 (by kernel_rfl) rfl #[.agg #[.int .u64 x142000_2, .int .u64 x142001_2, .int .u64 x142002_2, .int .u64 x142003_2, .int .u64 x142004_2]] rfl (by (try simp only [List.map_toArray, List.map_cons, List.map_nil]); first | done | rfl | (simp only [List.length_drop, List.length_take]; rfl)) ?_; (with_reducible refine (credit_Given_Told.calls x142000_2 x142001_2 x142002_2 x142003_2 x142004_2 t157 t158 t159 t160 t161 _ A80.out).mono ?_); rintro e w83 ⟨rfl, hb⟩; refine ⟨_, rfl, ?_⟩; have n0_ := Aside0.mk (Kd.R_below (by (with_reducible repeat (first | apply Kd.R_alloc | apply Kd.R_drewN | apply Kd.R_drew)); exact HO_22.out) hb); have n1_ := Aside0.mk (blk_below (g := gb141) (o := .cells #[.int .u64 x142000_2, .int .u64 x142001_2, .int .u64 x142002_2, .int .u64 x142003_2, .int .u64 x142004_2] 51 (0, 0)) (by (with_reducible repeat (first | refine blk_drewN ?_ _ | refine blk_drew ?_ | refine blk_alloc ?_ _)); exact BK141.out) hb); have n2_ := Aside0.mk (blk_below (g := gb143) (o := .cells #[.int .u8 ((rd_T54 l1 x36_2).f0), .int .u16 ((rd_T54 l1 x36_2).f1), .int .u64 ((rd_T54 l1 x36_2).f2), .bool ((rd_T54 l1 x36_2).f3)] 54 (0, 0)) (by (with_reducible repeat (first | refine blk_drewN ?_ _ | refine blk_drew ?_ | refine blk_alloc ?_ _)); exact BK143.out) hb); have n3_ := Aside0.mk (below_step (by repeat (first | (with_reducible first | exact HB.out | apply below_alloc | apply pw_below_drewN | apply below_drew1 | refine below_set ?_ GE141.out | refine below_set ?_ GE143.out) | exact HB.out)) hb); clear HO_22; clear BK141; clear BK143; clear HB; have HO_22 := n0_; have BK141 := n1_; have BK143 := n2_; have HB := n3_; clear n0_ n1_ n2_ n3_; (try clear hb); (try clear hb2); (try clear hk); (try clear hi); have hcz84_0 : w83.cell? ⟨gb141, 0, none⟩ = some (.int .u64 x142000_2) := (blk_cell BK141.out 0).trans rfl; have hcz84_1 : w83.cell? ⟨gb141, 1, none⟩ = some (.int .u64 x142001_2) := (blk_cell BK141.out 1).trans rfl; have hcz84_2 : w83.cell? ⟨gb141, 2, none⟩ = some (.int .u64 x142002_2) := (blk_cell BK141.out 2).trans rfl; have hcz84_3 : w83.cell? ⟨gb141, 3, none⟩ = some (.int .u64 x142003_2) := (blk_cell BK141.out 3).trans rfl; have hcz84_4 : w83.cell? ⟨gb141, 4, none⟩ = some (.int .u64 x142004_2) := (blk_cell BK141.out 4).trans rfl; have hfz84_0 := blk_frozen BK141.out 0; have hfz84_1 := blk_frozen BK141.out 1; have hfz84_2 := blk_frozen BK141.out 2; have hfz84_3 := blk_frozen BK141.out 3; have hfz84_4 := blk_frozen BK141.out 4))
                                          go_meet
                                          case rel => exact ⟨_, (x8_2), (x9_2), (x10_2), (x8_2), (t157), (t158), (t159), (t160), (t161), (by first | rfl | (simp; done) | (simp [*]; done)), (by first | rfl | (simp; done) | (simp [*]; done)), (by first | rfl | (simp; done) | (simp [*]; done)), (by first | rfl | (simp; done) | (simp [*]; done)), H', ⟨by have := HK1.out; have := HK2.out; have := HJ30.out; have := HJ67.out; first | omega | exact Nat.le_refl _⟩, ⟨by (with_reducible repeat (first | apply Kd.R_alloc | apply Kd.R_drewN | apply Kd.R_drew)); exact Kd.R_mono (Kd.R_far (p := ⟨gb141, 4, none⟩) (Kd.R_far (p := ⟨gb141, 3, none⟩) (Kd.R_far (p := ⟨gb141, 2, none⟩) (Kd.R_far (p := ⟨gb141, 1, none⟩) (Kd.R_far (p := ⟨gb141, 0, none⟩) (Kd.R_types HO_22.out BK141.out (by decide)) (fun _ hk => hk.2) (.int .u64 t157)) (fun _ hk => hk.2) (.int .u64 t158)) (fun _ hk => hk.2) (.int .u64 t159)) (fun _ hk => hk.2) (.int .u64 t160)) (fun _ hk => hk.2) (.int .u64 t161)) (fun _ hk => trivial)⟩, ⟨by (with_reducible repeat (first | refine blk_drewN ?_ _ | refine blk_drew ?_ | refine blk_alloc ?_ _)); refine blk_put (cs := #[.int .u64 t157, .int .u64 t158, .int .u64 t159, .int .u64 t160, .int .u64 x142004_2]) ?_ 4 _ rfl; (with_reducible repeat (first | refine blk_drewN ?_ _ | refine blk_drew ?_ | refine blk_alloc ?_ _)); refine blk_put (cs := #[.int .u64 t157, .int .u64 t158, .int .u64 t159, .int .u64 x142003_2, .int .u64 x142004_2]) ?_ 3 _ rfl; (with_reducible repeat (first | refine blk_drewN ?_ _ | refine blk_drew ?_ | refine blk_alloc ?_ _)); refine blk_put (cs := #[.int .u64 t157, .int .u64 t158, .int .u64 x142002_2, .int .u64 x142003_2, .int .u64 x142004_2]) ?_ 2 _ rfl; (with_reducible repeat (first | refine blk_drewN ?_ _ | refine blk_drew ?_ | refine blk_alloc ?_ _)); refine blk_put (cs := #[.int .u64 t157, .int .u64 x142001_2, .int .u64 x142002_2, .int .u64 x142003_2, .int .u64 x142004_2]) ?_ 1 _ rfl; (with_reducible repeat (first | refine blk_drewN ?_ _ | refine blk_drew ?_ | refine blk_alloc ?_ _)); refine blk_put (cs := #[.int .u64 x142000_2, .int .u64 x142001_2, .int .u64 x142002_2, .int .u64 x142003_2, .int .u64 x142004_2]) ?_ 0 _ rfl; (with_reducible repeat (first | refine blk_drewN ?_ _ | refine blk_drew ?_ | refine blk_alloc ?_ _)); exact BK141.out⟩, ⟨by (with_reducible repeat (first | refine blk_drewN ?_ _ | refine blk_drew ?_ | refine blk_alloc ?_ _)); refine blk_far ?_ NB143_141.out _; (with_reducible repeat (first | refine blk_drewN ?_ _ | refine blk_drew ?_ | refine blk_alloc ?_ _)); refine blk_far ?_ NB143_141.out _; (with_reducible repeat (first | refine blk_drewN ?_ _ | refine blk_drew ?_ | refine blk_alloc ?_ _)); refine blk_far ?_ NB143_141.out _; (with_reducible repeat (first | refine blk_drewN ?_ _ | refine blk_drew ?_ | refine blk_alloc ?_ _)); refine blk_far ?_ NB143_141.out _; (with_reducible repeat (first | refine blk_drewN ?_ _ | refine blk_drew ?_ | refine blk_alloc ?_ _)); refine blk_far ?_ NB143_141.out _; (with_reducible repeat (first | refine blk_drewN ?_ _ | refine blk_drew ?_ | refine blk_alloc ?_ _)); exact BK143.out⟩, ⟨by repeat (first | (with_reducible first | exact HB.out | apply below_alloc | apply pw_below_drewN | apply below_drew1 | refine below_set ?_ GE141.out | refine below_set ?_ GE143.out) | exact HB.out)⟩⟩
                                        · rw [if_neg c79] at H
                                          have c79b0 : ((Int.tmod ((rd_T54 l1 x36_2).f0) 7) == 5) = false := beq_eq_false_iff_ne.mpr c79
                                          have c79b1 : ((Int.tmod ((rd_T54 l1 x36_2).f0) 7) != 5) = true := bne_iff_ne.mpr c79
                                          replace H := Option.bind_eq_some_iff.mp H
                                          obtain ⟨⟨t162, t163, t164, t165, t166⟩, A850, H⟩ := H
                                          replace H : (binnaclelaw20_CreditGives.j5 kj67 l1 ji13 x8_2 x9_2 x10_2 (IntKind.u64.wrap (x11_2 - (mn x11_2 (IntKind.u64.wrap ((IntKind.u64.wrap (Int.tdiv ji13 2)) + 1))))) y132 (y132.length : Int) x24_1 l1 (l1.length : Int) x36_2 t162 t163 t164 t165 t166) = some r := H
                                          have A85 := Aside0.mk A850
                                          clear A850
                                          obtain ⟨ji86, hji86⟩ : ∃ j_ : Int, (mn x11_2 (IntKind.u64.wrap ((IntKind.u64.wrap (Int.tdiv ji13 2)) + 1))) = j_ := ⟨_, rfl⟩
                                          replace H : (binnaclelaw20_CreditGives.j5 kj67 l1 ji13 x8_2 x9_2 x10_2 (IntKind.u64.wrap (x11_2 - (ji86))) y132 (y132.length : Int) x24_1 l1 (l1.length : Int) x36_2 t162 t163 t164 t165 t166) = some r := by first | (rw [hji86] at H; exact H) | (simp only [hji86] at H ⊢; exact H)
                                          (try rw [hji86] at A85)
                                          have hji86_ : (if (IntKind.u64.wrap ((IntKind.u64.wrap (Int.tdiv ji13 2)) + 1)) < x11_2 then (IntKind.u64.wrap ((IntKind.u64.wrap (Int.tdiv ji13 2)) + 1)) else x11_2) = ji86 := hji86
                                          have H' := Aside0.mk H
                                          clear H
                                          have hnb87 := NB141_143.out
                                          have hnc87 := NB143_141.out
                                          have hcz88_0 : wc.cell? ⟨gb141, 0, none⟩ = some (.int .u64 x142000_2) := (blk_cell BK141.out 0).trans rfl
                                          have hcz88_1 : wc.cell? ⟨gb141, 1, none⟩ = some (.int .u64 x142001_2) := (blk_cell BK141.out 1).trans rfl
                                          have hcz88_2 : wc.cell? ⟨gb141, 2, none⟩ = some (.int .u64 x142002_2) := (blk_cell BK141.out 2).trans rfl
                                          have hcz88_3 : wc.cell? ⟨gb141, 3, none⟩ = some (.int .u64 x142003_2) := (blk_cell BK141.out 3).trans rfl
                                          have hcz88_4 : wc.cell? ⟨gb141, 4, none⟩ = some (.int .u64 x142004_2) := (blk_cell BK141.out 4).trans rfl
                                          have hfz88_0 := blk_frozen BK141.out 0
                                          have hfz88_1 := blk_frozen BK141.out 1
                                          have hfz88_2 := blk_frozen BK141.out 2
                                          have hfz88_3 := blk_frozen BK141.out 3
                                          have hfz88_4 := blk_frozen BK141.out 4
                                          go_wp2_with (first | ((with_reducible refine gate_callee (f := 32) rfl ?_); refine goesL_ (some 49) rfl rfl Try.func32 (by kernel_rfl) rfl #[.agg #[.int .u64 x142000_2, .int .u64 x142001_2, .int .u64 x142002_2, .int .u64 x142003_2, .int .u64 x142004_2]] rfl (by (try simp only [List.map_toArray, List.map_cons, List.map_nil]); first | done | rfl | (simp only [List.length_drop, List.length_take]; rfl)) ?_; (with_reducible refine (credit_Given_Lost.calls x142000_2 x142001_2 x142002_2 x142003_2 x142004_2 t162 t163 t164 t165 t166 _ A85.out).mono ?_); rintro e w89 ⟨rfl, hb⟩; refine ⟨_, rfl, ?_⟩; have n0_ := Aside0.mk (Kd.R_below (by (with_reducible repeat (first | apply Kd.R_alloc | apply Kd.R_drewN | apply Kd.R_drew)); exact HO_22.out) hb); have n1_ := Aside0.mk (blk_below (g := gb141) (o := .cells #[.int .u64 x142000_2, .int .u64 x142001_2, .int .u64 x142002_2, .int .u64 x142003_2, .int .u64 x142004_2] 51 (0, 0)) (by (with_reducible repeat (first | refine blk_drewN ?_ _ | refine blk_drew ?_ | refine blk_alloc ?_ _)); exact BK141.out) hb); have n2_ := Aside0.mk (blk_below (g := gb143) (o := .cells #[.int .u8 ((rd_T54 l1 x36_2).f0), .int .u16 ((rd_T54 l1 x36_2).f1), .int .u64 ((rd_T54 l1 x36_2).f2), .bool ((rd_T54 l1 x36_2).f3)] 54 (0, 0)) (by (with_reducible repeat (first | refine blk_drewN ?_ _ | refine blk_drew ?_ | refine blk_alloc ?_ _)); exact BK143.out) hb); have n3_ := Aside0.mk (below_step (by repeat (first | (with_reducible first | exact HB.out | apply below_alloc | apply pw_below_drewN | apply below_drew1 | refine below_set ?_ GE141.out | refine below_set ?_ GE143.out) | exact HB.out)) hb); clear HO_22; clear BK141; clear BK143; clear HB; have HO_22 := n0_; have BK141 := n1_; have BK143 := n2_; have HB := n3_; clear n0_ n1_ n2_ n3_; (try clear hb); (try clear hb2); (try clear hk); (try clear hi); have hcz90_0 : w89.cell? ⟨gb141, 0, none⟩ = some (.int .u64 x142000_2) := (blk_cell BK141.out 0).trans rfl; have hcz90_1 : w89.cell? ⟨gb141, 1, none⟩ = some (.int .u64 x142001_2) := (blk_cell BK141.out 1).trans rfl; have hcz90_2 : w89.cell? ⟨gb141, 2, none⟩ = some (.int .u64 x142002_2) := (blk_cell BK141.out 2).trans rfl; have hcz90_3 : w89.cell? ⟨gb141, 3, none⟩ = some (.int .u64 x142003_2) := (blk_cell BK141.out 3).trans rfl; have hcz90_4 : w89.cell? ⟨gb141, 4, none⟩ = some (.int .u64 x142004_2) := (blk_cell BK141.out 4).trans rfl; have hfz90_0 := blk_frozen BK141.out 0; have hfz90_1 := blk_frozen BK141.out 1; have hfz90_2 := blk_frozen BK141.out 2; have hfz90_3 := blk_frozen BK141.out 3; have hfz90_4 := blk_frozen BK141.out 4))
                                          go_meet
                                          case rel => exact ⟨_, (x8_2), (x9_2), (x10_2), (IntKind.u64.wrap (x11_2 - (ji86))), (t162), (t163), (t164), (t165), (t166), (by first | rfl | (simp; done) | (simp [*]; done)), (by first | rfl | (simp; done) | (simp [*]; done)), (by first | rfl | (simp; done) | (simp [*]; done)), (by first | rfl | (simp; done) | (simp only [← hji86] <;> (first | rfl | simp)) | (simp [*]; done)), H', ⟨by have := HK1.out; have := HK2.out; have := HJ30.out; have := HJ67.out; first | omega | exact Nat.le_refl _⟩, ⟨by (with_reducible repeat (first | apply Kd.R_alloc | apply Kd.R_drewN | apply Kd.R_drew)); exact Kd.R_mono (Kd.R_far (p := ⟨gb141, 4, none⟩) (Kd.R_far (p := ⟨gb141, 3, none⟩) (Kd.R_far (p := ⟨gb141, 2, none⟩) (Kd.R_far (p := ⟨gb141, 1, none⟩) (Kd.R_far (p := ⟨gb141, 0, none⟩) (Kd.R_types HO_22.out BK141.out (by decide)) (fun _ hk => hk.2) (.int .u64 t162)) (fun _ hk => hk.2) (.int .u64 t163)) (fun _ hk => hk.2) (.int .u64 t164)) (fun _ hk => hk.2) (.int .u64 t165)) (fun _ hk => hk.2) (.int .u64 t166)) (fun _ hk => trivial)⟩, ⟨by (with_reducible repeat (first | refine blk_drewN ?_ _ | refine blk_drew ?_ | refine blk_alloc ?_ _)); refine blk_put (cs := #[.int .u64 t162, .int .u64 t163, .int .u64 t164, .int .u64 t165, .int .u64 x142004_2]) ?_ 4 _ rfl; (with_reducible repeat (first | refine blk_drewN ?_ _ | refine blk_drew ?_ | refine blk_alloc ?_ _)); refine blk_put (cs := #[.int .u64 t162, .int .u64 t163, .int .u64 t164, .int .u64 x142003_2, .int .u64 x142004_2]) ?_ 3 _ rfl; (with_reducible repeat (first | refine blk_drewN ?_ _ | refine blk_drew ?_ | refine blk_alloc ?_ _)); refine blk_put (cs := #[.int .u64 t162, .int .u64 t163, .int .u64 x142002_2, .int .u64 x142003_2, .int .u64 x142004_2]) ?_ 2 _ rfl; (with_reducible repeat (first | refine blk_drewN ?_ _ | refine blk_drew ?_ | refine blk_alloc ?_ _)); refine blk_put (cs := #[.int .u64 t162, .int .u64 x142001_2, .int .u64 x142002_2, .int .u64 x142003_2, .int .u64 x142004_2]) ?_ 1 _ rfl; (with_reducible repeat (first | refine blk_drewN ?_ _ | refine blk_drew ?_ | refine blk_alloc ?_ _)); refine blk_put (cs := #[.int .u64 x142000_2, .int .u64 x142001_2, .int .u64 x142002_2, .int .u64 x142003_2, .int .u64 x142004_2]) ?_ 0 _ rfl; (with_reducible repeat (first | refine blk_drewN ?_ _ | refine blk_drew ?_ | refine blk_alloc ?_ _)); exact BK141.out⟩, ⟨by (with_reducible repeat (first | refine blk_drewN ?_ _ | refine blk_drew ?_ | refine blk_alloc ?_ _)); refine blk_far ?_ NB143_141.out _; (with_reducible repeat (first | refine blk_drewN ?_ _ | refine blk_drew ?_ | refine blk_alloc ?_ _)); refine blk_far ?_ NB143_141.out _; (with_reducible repeat (first | refine blk_drewN ?_ _ | refine blk_drew ?_ | refine blk_alloc ?_ _)); refine blk_far ?_ NB143_141.out _; (with_reducible repeat (first | refine blk_drewN ?_ _ | refine blk_drew ?_ | refine blk_alloc ?_ _)); refine blk_far ?_ NB143_141.out _; (with_reducible repeat (first | refine blk_drewN ?_ _ | refine blk_drew ?_ | refine blk_alloc ?_ _)); refine blk_far ?_ NB143_141.out _; (with_reducible repeat (first | refine blk_drewN ?_ _ | refine blk_drew ?_ | refine blk_alloc ?_ _)); exact BK143.out⟩, ⟨by repeat (first | (with_reducible first | exact HB.out | apply below_alloc | apply pw_below_drewN | apply below_drew1 | refine below_set ?_ GE141.out | refine below_set ?_ GE143.out) | exact HB.out)⟩⟩
                          case rest =>
                            clear HC25
                            try clear c1
                            try clear p1
                            try clear q1
                            try clear hx1
                            try clear c2
                            try clear p2
                            try clear c3
                            try clear c4
                            try clear c5
                            try clear c6
                            try clear p6
                            try clear c7
                            try clear c8
                            try clear c9
                            try clear c9b0
                            try clear c10
                            try clear c10b0
                            try clear c11
                            try clear c11b0
                            try clear p13
                            try clear q13
                            try clear hx13
                            try clear p14
                            try clear q14
                            try clear hx14
                            try clear c17
                            try clear c17b0
                            try clear c18
                            try clear c18b0
                            try clear c19
                            try clear c19b0
                            try clear c20
                            try clear c20b0
                            try clear c22
                            try clear c26
                            try clear c27
                            try clear c28
                            try clear c29
                            try clear c30
                            try clear c31
                            try clear c32
                            try clear c32b0
                            try clear c32b1
                            try clear c33
                            try clear c33b0
                            try clear c33b1
                            try clear c34
                            try clear c36
                            try clear c36b0
                            try clear c38
                            try clear c42
                            try clear c43
                            try clear c45
                            try clear c45b0
                            try clear c45b1
                            try clear c46
                            try clear c47
                            try clear c49
                            try clear c51
                            try clear c52
                            try clear c52b0
                            try clear c52b1
                            try clear c53
                            try clear c57
                            try clear c58
                            try clear c61
                            try clear p64
                            try clear c65
                            try clear c66
                            try clear c69
                            try clear c69b0
                            try clear c69b1
                            try clear c70
                            try clear c75
                            try clear c79
                            try clear c79b0
                            try clear c79b1
                            try clear c81
                            try clear c87
                            try clear hcz16_0
                            try clear hcz16_1
                            try clear hcz16_2
                            try clear hcz16_3
                            try clear hcz16_4
                            try clear hcz23_0
                            try clear hcz23_1
                            try clear hcz23_2
                            try clear hcz23_3
                            try clear hcz28_0
                            try clear hcz28_1
                            try clear hcz28_2
                            try clear hcz28_3
                            try clear hcz30_0
                            try clear hcz30_1
                            try clear hcz30_2
                            try clear hcz30_3
                            try clear hcz39_0
                            try clear hcz39_1
                            try clear hcz39_2
                            try clear hcz39_3
                            try clear hcz39_4
                            try clear hcz44_0
                            try clear hcz44_1
                            try clear hcz44_2
                            try clear hcz44_3
                            try clear hcz44_4
                            try clear hcz48_0
                            try clear hcz48_1
                            try clear hcz48_2
                            try clear hcz48_3
                            try clear hcz48_4
                            try clear hcz50_0
                            try clear hcz50_1
                            try clear hcz50_2
                            try clear hcz50_3
                            try clear hcz50_4
                            try clear hcz54_0
                            try clear hcz54_1
                            try clear hcz54_2
                            try clear hcz54_3
                            try clear hcz54_4
                            try clear hcz59_0
                            try clear hcz59_1
                            try clear hcz59_2
                            try clear hcz59_3
                            try clear hcz59_4
                            try clear hcz60_0
                            try clear hcz60_1
                            try clear hcz60_2
                            try clear hcz60_3
                            try clear hcz60_4
                            try clear hcz62_0
                            try clear hcz62_1
                            try clear hcz62_2
                            try clear hcz62_3
                            try clear hcz62_4
                            try clear hcz67_0
                            try clear hcz67_1
                            try clear hcz67_2
                            try clear hcz67_3
                            try clear hcz67_4
                            try clear hcz76_0
                            try clear hcz76_1
                            try clear hcz76_2
                            try clear hcz76_3
                            try clear hcz76_4
                            try clear hcz78_0
                            try clear hcz78_1
                            try clear hcz78_2
                            try clear hcz78_3
                            try clear hcz78_4
                            try clear hcz82_0
                            try clear hcz82_1
                            try clear hcz82_2
                            try clear hcz82_3
                            try clear hcz82_4
                            try clear hcz84_0
                            try clear hcz84_1
                            try clear hcz84_2
                            try clear hcz84_3
                            try clear hcz84_4
                            try clear hcz88_0
                            try clear hcz88_1
                            try clear hcz88_2
                            try clear hcz88_3
                            try clear hcz88_4
                            try clear hcz90_0
                            try clear hcz90_1
                            try clear hcz90_2
                            try clear hcz90_3
                            try clear hcz90_4
                            try clear hfz16_0
                            try clear hfz16_1
                            try clear hfz16_2
                            try clear hfz16_3
                            try clear hfz16_4
                            try clear hfz23_0
                            try clear hfz23_1
                            try clear hfz23_2
                            try clear hfz23_3
                            try clear hfz28_0
                            try clear hfz28_1
                            try clear hfz28_2
                            try clear hfz28_3
                            try clear hfz30_0
                            try clear hfz30_1
                            try clear hfz30_2
                            try clear hfz30_3
                            try clear hfz39_0
                            try clear hfz39_1
                            try clear hfz39_2
                            try clear hfz39_3
                            try clear hfz39_4
                            try clear hfz44_0
                            try clear hfz44_1
                            try clear hfz44_2
                            try clear hfz44_3
                            try clear hfz44_4
                            try clear hfz48_0
                            try clear hfz48_1
                            try clear hfz48_2
                            try clear hfz48_3
                            try clear hfz48_4
                            try clear hfz50_0
                            try clear hfz50_1
                            try clear hfz50_2
                            try clear hfz50_3
                            try clear hfz50_4
                            try clear hfz54_0
                            try clear hfz54_1
                            try clear hfz54_2
                            try clear hfz54_3
                            try clear hfz54_4
                            try clear hfz59_0
                            try clear hfz59_1
                            try clear hfz59_2
                            try clear hfz59_3
                            try clear hfz59_4
                            try clear hfz60_0
                            try clear hfz60_1
                            try clear hfz60_2
                            try clear hfz60_3
                            try clear hfz60_4
                            try clear hfz62_0
                            try clear hfz62_1
                            try clear hfz62_2
                            try clear hfz62_3
                            try clear hfz62_4
                            try clear hfz67_0
                            try clear hfz67_1
                            try clear hfz67_2
                            try clear hfz67_3
                            try clear hfz67_4
                            try clear hfz76_0
                            try clear hfz76_1
                            try clear hfz76_2
                            try clear hfz76_3
                            try clear hfz76_4
                            try clear hfz78_0
                            try clear hfz78_1
                            try clear hfz78_2
                            try clear hfz78_3
                            try clear hfz78_4
                            try clear hfz82_0
                            try clear hfz82_1
                            try clear hfz82_2
                            try clear hfz82_3
                            try clear hfz82_4
                            try clear hfz84_0
                            try clear hfz84_1
                            try clear hfz84_2
                            try clear hfz84_3
                            try clear hfz84_4
                            try clear hfz88_0
                            try clear hfz88_1
                            try clear hfz88_2
                            try clear hfz88_3
                            try clear hfz88_4
                            try clear hfz90_0
                            try clear hfz90_1
                            try clear hfz90_2
                            try clear hfz90_3
                            try clear hfz90_4
                            try clear hx135_0
                            try clear hx142_0
                            try clear hx142_1
                            try clear hx142_2
                            try clear hx142_3
                            try clear p1
                            try clear p13
                            try clear p135
                            try clear p14
                            try clear p142
                            try clear p2
                            try clear p6
                            try clear p64
                            try clear q1
                            try clear q13
                            try clear q135
                            try clear q14
                            try clear q142
                            obtain ⟨kq, x8_24, x9_24, x10_24, x11_24, x142000_24, x142001_24, x142002_24, x142003_24, x142004_24, rfl, rfl, rfl, rfl, HA, HJ24, HO_22, BK141, BK143, HB⟩ := hcut
                            cases kq with
                            | zero => exact absurd HA.out (by simp [binnaclelaw20_CreditGives.j5])
                            | succ kj24 =>
                              have H := HA.out
                              clear HA
                              simp only [binnaclelaw20_CreditGives.j5] at H
                              by_cases c91 : x142000_24 = x8_24
                              · rw [if_pos c91] at H
                                have c91b0 : (x142000_24 == x8_24) = true := beq_iff_eq.mpr c91
                                have c91b1 : (x142000_24 != x8_24) = false := bne_eq_false_iff_eq.mpr c91
                                clear c91
                                by_cases c92 : x142001_24 = x9_24
                                · rw [if_pos c92] at H
                                  have c92b0 : (x142001_24 == x9_24) = true := beq_iff_eq.mpr c92
                                  have c92b1 : (x142001_24 != x9_24) = false := bne_eq_false_iff_eq.mpr c92
                                  clear c92
                                  by_cases c93 : x142002_24 = x10_24
                                  · rw [if_pos c93] at H
                                    have c93b0 : (x142002_24 == x10_24) = true := beq_iff_eq.mpr c93
                                    have c93b1 : (x142002_24 != x10_24) = false := bne_eq_false_iff_eq.mpr c93
                                    clear c93
                                    by_cases c94 : x142003_24 = ji13
                                    · rw [if_pos c94] at H
                                      have c94b0 : (x142003_24 == ji13) = true := beq_iff_eq.mpr c94
                                      have c94b1 : (x142003_24 != ji13) = false := bne_eq_false_iff_eq.mpr c94
                                      clear c94
                                      replace H := Option.bind_eq_some_iff.mp H
                                      obtain ⟨t167, A950, H⟩ := H
                                      replace H : (if t167 = x11_24 then ((credit_Given_Wants.f x142000_24 x142001_24 x142002_24 x142003_24 x142004_24).bind fun t168 => (if (t168 != (decide ((IntKind.u64.wrap (x8_24 - x11_24)) > (IntKind.u64.wrap (Int.tdiv ji13 2))))) = true then (some false) else (if x9_24 > x8_24 then (some false) else (if x10_24 > x9_24 then (some false) else (binnaclelaw20_CreditGives.l1 kj24 l1 ji13 x8_24 x9_24 x10_24 x11_24 y132 (y132.length : Int) x24_1 l1 (l1.length : Int) (wrap64 (x36_2 + 1)) x142000_24 x142001_24 x142002_24 x142003_24 x142004_24))))) else (some false)) = some r := H
                                      have A95 := Aside0.mk A950
                                      clear A950
                                      by_cases c96 : t167 = x11_24
                                      · rw [if_pos c96] at H
                                        have c96b0 : (t167 == x11_24) = true := beq_iff_eq.mpr c96
                                        have c96b1 : (t167 != x11_24) = false := bne_eq_false_iff_eq.mpr c96
                                        clear c96
                                        replace H := Option.bind_eq_some_iff.mp H
                                        obtain ⟨t168, A970, H⟩ := H
                                        replace H : (if (t168 != (decide ((IntKind.u64.wrap (x8_24 - x11_24)) > (IntKind.u64.wrap (Int.tdiv ji13 2))))) = true then (some false) else (if x9_24 > x8_24 then (some false) else (if x10_24 > x9_24 then (some false) else (binnaclelaw20_CreditGives.l1 kj24 l1 ji13 x8_24 x9_24 x10_24 x11_24 y132 (y132.length : Int) x24_1 l1 (l1.length : Int) (wrap64 (x36_2 + 1)) x142000_24 x142001_24 x142002_24 x142003_24 x142004_24)))) = some r := H
                                        have A97 := Aside0.mk A970
                                        clear A970
                                        by_cases c98 : (t168 != (decide ((IntKind.u64.wrap (x8_24 - x11_24)) > (IntKind.u64.wrap (Int.tdiv ji13 2))))) = true
                                        · rw [if_pos c98] at H
                                          have c98b0 : (t168 != (decide ((IntKind.u64.wrap (x8_24 - x11_24)) > (IntKind.u64.wrap (Int.tdiv ji13 2))))) = true := c98
                                          (try (have c98b1 : decide (t168 = (decide ((IntKind.u64.wrap (x8_24 - x11_24)) > (IntKind.u64.wrap (Int.tdiv ji13 2))))) = false := by simpa using c98))
                                          (try (have c98b2 : (t168 == (decide ((IntKind.u64.wrap (x8_24 - x11_24)) > (IntKind.u64.wrap (Int.tdiv ji13 2))))) = false := by simpa using c98))
                                          (try (have c98b3 : ¬ (t168 = (decide ((IntKind.u64.wrap (x8_24 - x11_24)) > (IntKind.u64.wrap (Int.tdiv ji13 2))))) := by simpa using c98))
                                          clear c98
                                          obtain rfl := Option.some.inj H
                                          have hnb99 := NB141_143.out
                                          have hnc99 := NB143_141.out
                                          have hcz100_0 : wc.cell? ⟨gb141, 0, none⟩ = some (.int .u64 x142000_24) := (blk_cell BK141.out 0).trans rfl
                                          have hcz100_1 : wc.cell? ⟨gb141, 1, none⟩ = some (.int .u64 x142001_24) := (blk_cell BK141.out 1).trans rfl
                                          have hcz100_2 : wc.cell? ⟨gb141, 2, none⟩ = some (.int .u64 x142002_24) := (blk_cell BK141.out 2).trans rfl
                                          have hcz100_3 : wc.cell? ⟨gb141, 3, none⟩ = some (.int .u64 x142003_24) := (blk_cell BK141.out 3).trans rfl
                                          have hcz100_4 : wc.cell? ⟨gb141, 4, none⟩ = some (.int .u64 x142004_24) := (blk_cell BK141.out 4).trans rfl
                                          have hfz100_0 := blk_frozen BK141.out 0
                                          have hfz100_1 := blk_frozen BK141.out 1
                                          have hfz100_2 := blk_frozen BK141.out 2
                                          have hfz100_3 := blk_frozen BK141.out 3
                                          have hfz100_4 := blk_frozen BK141.out 4
                                          go_wp2_with (first | (go_at_call 33; (with_reducible refine (credit_Given_Last.calls x142000_24 x142001_24 x142002_24 x142003_24 x142004_24 t167 _ A95.out).mono ?_); rintro e w101 ⟨rfl, hb⟩; have n0_ := Aside0.mk (Kd.R_below (by (with_reducible repeat (first | apply Kd.R_alloc | apply Kd.R_drewN | apply Kd.R_drew)); exact HO_22.out) hb); have n1_ := Aside0.mk (blk_below (g := gb141) (o := .cells #[.int .u64 x142000_24, .int .u64 x142001_24, .int .u64 x142002_24, .int .u64 x142003_24, .int .u64 x142004_24] 51 (0, 0)) (by (with_reducible repeat (first | refine blk_drewN ?_ _ | refine blk_drew ?_ | refine blk_alloc ?_ _)); exact BK141.out) hb); have n2_ := Aside0.mk (blk_below (g := gb143) (o := .cells #[.int .u8 ((rd_T54 l1 x36_2).f0), .int .u16 ((rd_T54 l1 x36_2).f1), .int .u64 ((rd_T54 l1 x36_2).f2), .bool ((rd_T54 l1 x36_2).f3)] 54 (0, 0)) (by (with_reducible repeat (first | refine blk_drewN ?_ _ | refine blk_drew ?_ | refine blk_alloc ?_ _)); exact BK143.out) hb); have n3_ := Aside0.mk (below_step (by repeat (first | (with_reducible first | exact HB.out | apply below_alloc | apply pw_below_drewN | apply below_drew1 | refine below_set ?_ GE141.out | refine below_set ?_ GE143.out) | exact HB.out)) hb); clear HO_22; clear BK141; clear BK143; clear HB; have HO_22 := n0_; have BK141 := n1_; have BK143 := n2_; have HB := n3_; clear n0_ n1_ n2_ n3_; (try clear hb); (try clear hb2); (try clear hk); (try clear hi); have hcz102_0 : w101.cell? ⟨gb141, 0, none⟩ = some (.int .u64 x142000_24) := (blk_cell BK141.out 0).trans rfl; have hcz102_1 : w101.cell? ⟨gb141, 1, none⟩ = some (.int .u64 x142001_24) := (blk_cell BK141.out 1).trans rfl; have hcz102_2 : w101.cell? ⟨gb141, 2, none⟩ = some (.int .u64 x142002_24) := (blk_cell BK141.out 2).trans rfl; have hcz102_3 : w101.cell? ⟨gb141, 3, none⟩ = some (.int .u64 x142003_24) := (blk_cell BK141.out 3).trans rfl; have hcz102_4 : w101.cell? ⟨gb141, 4, none⟩ = some (.int .u64 x142004_24) := (blk_cell BK141.out 4).trans rfl; have hfz102_0 := blk_frozen BK141.out 0; have hfz102_1 := blk_frozen BK141.out 1; have hfz102_2 := blk_frozen BK141.out 2; have hfz102_3 := blk_frozen BK141.out 3; have hfz102_4 := blk_frozen BK141.out 4) | (go_at_call 34; (with_reducible refine (credit_Given_Wants.calls x142000_24 x142001_24 x142002_24 x142003_24 x142004_24 t168 _ A97.out).mono ?_); rintro e w103 ⟨rfl, hb⟩; have n0_ := Aside0.mk (Kd.R_below (by (with_reducible repeat (first | apply Kd.R_alloc | apply Kd.R_drewN | apply Kd.R_drew)); exact HO_22.out) hb); have n1_ := Aside0.mk (blk_below (g := gb141) (o := .cells #[.int .u64 x142000_24, .int .u64 x142001_24, .int .u64 x142002_24, .int .u64 x142003_24, .int .u64 x142004_24] 51 (0, 0)) (by (with_reducible repeat (first | refine blk_drewN ?_ _ | refine blk_drew ?_ | refine blk_alloc ?_ _)); exact BK141.out) hb); have n2_ := Aside0.mk (blk_below (g := gb143) (o := .cells #[.int .u8 ((rd_T54 l1 x36_2).f0), .int .u16 ((rd_T54 l1 x36_2).f1), .int .u64 ((rd_T54 l1 x36_2).f2), .bool ((rd_T54 l1 x36_2).f3)] 54 (0, 0)) (by (with_reducible repeat (first | refine blk_drewN ?_ _ | refine blk_drew ?_ | refine blk_alloc ?_ _)); exact BK143.out) hb); have n3_ := Aside0.mk (below_step (by repeat (first | (with_reducible first | exact HB.out | apply below_alloc | apply pw_below_drewN | apply below_drew1 | refine below_set ?_ GE141.out | refine below_set ?_ GE143.out) | exact HB.out)) hb); clear HO_22; clear BK141; clear BK143; clear HB; have HO_22 := n0_; have BK141 := n1_; have BK143 := n2_; have HB := n3_; clear n0_ n1_ n2_ n3_; (try clear hb); (try clear hb2); (try clear hk); (try clear hi)))
                                          go_ret
                                          exact ⟨by first | rfl | (simp [errW_none, errW_some] <;> rfl) | (simp only [← hji13]; first | rfl | (simp [errW_none, errW_some] <;> rfl)) | (simp [*, errW_none, errW_some] <;> rfl), by repeat (first | (with_reducible first | exact HB.out | apply below_alloc | apply pw_below_drewN | apply below_drew1 | refine below_set ?_ GE141.out | refine below_set ?_ GE143.out) | exact HB.out)⟩
                                        · rw [if_neg c98] at H
                                          have c98b0 : (t168 != (decide ((IntKind.u64.wrap (x8_24 - x11_24)) > (IntKind.u64.wrap (Int.tdiv ji13 2))))) = false := by simpa using c98
                                          (try (have c98b1 : decide (t168 = (decide ((IntKind.u64.wrap (x8_24 - x11_24)) > (IntKind.u64.wrap (Int.tdiv ji13 2))))) = true := by simpa using c98))
                                          (try (have c98b2 : (t168 == (decide ((IntKind.u64.wrap (x8_24 - x11_24)) > (IntKind.u64.wrap (Int.tdiv ji13 2))))) = true := by simpa using c98))
                                          clear c98
                                          by_cases c104 : x9_24 > x8_24
                                          · rw [if_pos c104] at H
                                            have c104b0 : decide (x8_24 < x9_24) = true := decide_eq_true c104
                                            clear c104
                                            obtain rfl := Option.some.inj H
                                            have hnb105 := NB141_143.out
                                            have hnc105 := NB143_141.out
                                            have hcz106_0 : wc.cell? ⟨gb141, 0, none⟩ = some (.int .u64 x142000_24) := (blk_cell BK141.out 0).trans rfl
                                            have hcz106_1 : wc.cell? ⟨gb141, 1, none⟩ = some (.int .u64 x142001_24) := (blk_cell BK141.out 1).trans rfl
                                            have hcz106_2 : wc.cell? ⟨gb141, 2, none⟩ = some (.int .u64 x142002_24) := (blk_cell BK141.out 2).trans rfl
                                            have hcz106_3 : wc.cell? ⟨gb141, 3, none⟩ = some (.int .u64 x142003_24) := (blk_cell BK141.out 3).trans rfl
                                            have hcz106_4 : wc.cell? ⟨gb141, 4, none⟩ = some (.int .u64 x142004_24) := (blk_cell BK141.out 4).trans rfl
                                            have hfz106_0 := blk_frozen BK141.out 0
                                            have hfz106_1 := blk_frozen BK141.out 1
                                            have hfz106_2 := blk_frozen BK141.out 2
                                            have hfz106_3 := blk_frozen BK141.out 3
                                            have hfz106_4 := blk_frozen BK141.out 4
                                            go_wp2_with (first | (go_at_call 33; (with_reducible refine (credit_Given_Last.calls x142000_24 x142001_24 x142002_24 x142003_24 x142004_24 t167 _ A95.out).mono ?_); rintro e w107 ⟨rfl, hb⟩; have n0_ := Aside0.mk (Kd.R_below (by (with_reducible repeat (first | apply Kd.R_alloc | apply Kd.R_drewN | apply Kd.R_drew)); exact HO_22.out) hb); have n1_ := Aside0.mk (blk_below (g := gb141) (o := .cells #[.int .u64 x142000_24, .int .u64 x142001_24, .int .u64 x142002_24, .int .u64 x142003_24, .int .u64 x142004_24] 51 (0, 0)) (by (with_reducible repeat (first | refine blk_drewN ?_ _ | refine blk_drew ?_ | refine blk_alloc ?_ _)); exact BK141.out) hb); have n2_ := Aside0.mk (blk_below (g := gb143) (o := .cells #[.int .u8 ((rd_T54 l1 x36_2).f0), .int .u16 ((rd_T54 l1 x36_2).f1), .int .u64 ((rd_T54 l1 x36_2).f2), .bool ((rd_T54 l1 x36_2).f3)] 54 (0, 0)) (by (with_reducible repeat (first | refine blk_drewN ?_ _ | refine blk_drew ?_ | refine blk_alloc ?_ _)); exact BK143.out) hb); have n3_ := Aside0.mk (below_step (by repeat (first | (with_reducible first | exact HB.out | apply below_alloc | apply pw_below_drewN | apply below_drew1 | refine below_set ?_ GE141.out | refine below_set ?_ GE143.out) | exact HB.out)) hb); clear HO_22; clear BK141; clear BK143; clear HB; have HO_22 := n0_; have BK141 := n1_; have BK143 := n2_; have HB := n3_; clear n0_ n1_ n2_ n3_; (try clear hb); (try clear hb2); (try clear hk); (try clear hi); have hcz108_0 : w107.cell? ⟨gb141, 0, none⟩ = some (.int .u64 x142000_24) := (blk_cell BK141.out 0).trans rfl; have hcz108_1 : w107.cell? ⟨gb141, 1, none⟩ = some (.int .u64 x142001_24) := (blk_cell BK141.out 1).trans rfl; have hcz108_2 : w107.cell? ⟨gb141, 2, none⟩ = some (.int .u64 x142002_24) := (blk_cell BK141.out 2).trans rfl; have hcz108_3 : w107.cell? ⟨gb141, 3, none⟩ = some (.int .u64 x142003_24) := (blk_cell BK141.out 3).trans rfl; have hcz108_4 : w107.cell? ⟨gb141, 4, none⟩ = some (.int .u64 x142004_24) := (blk_cell BK141.out 4).trans rfl; have hfz108_0 := blk_frozen BK141.out 0; have hfz108_1 := blk_frozen BK141.out 1; have hfz108_2 := blk_frozen BK141.out 2; have hfz108_3 := blk_frozen BK141.out 3; have hfz108_4 := blk_frozen BK141.out 4) | (go_at_call 34; (with_reducible refine (credit_Given_Wants.calls x142000_24 x142001_24 x142002_24 x142003_24 x142004_24 t168 _ A97.out).mono ?_); rintro e w109 ⟨rfl, hb⟩; have n0_ := Aside0.mk (Kd.R_below (by (with_reducible repeat (first | apply Kd.R_alloc | apply Kd.R_drewN | apply Kd.R_drew)); exact HO_22.out) hb); have n1_ := Aside0.mk (blk_below (g := gb141) (o := .cells #[.int .u64 x142000_24, .int .u64 x142001_24, .int .u64 x142002_24, .int .u64 x142003_24, .int .u64 x142004_24] 51 (0, 0)) (by (with_reducible repeat (first | refine blk_drewN ?_ _ | refine blk_drew ?_ | refine blk_alloc ?_ _)); exact BK141.out) hb); have n2_ := Aside0.mk (blk_below (g := gb143) (o := .cells #[.int .u8 ((rd_T54 l1 x36_2).f0), .int .u16 ((rd_T54 l1 x36_2).f1), .int .u64 ((rd_T54 l1 x36_2).f2), .bool ((rd_T54 l1 x36_2).f3)] 54 (0, 0)) (by (with_reducible repeat (first | refine blk_drewN ?_ _ | refine blk_drew ?_ | refine blk_alloc ?_ _)); exact BK143.out) hb); have n3_ := Aside0.mk (below_step (by repeat (first | (with_reducible first | exact HB.out | apply below_alloc | apply pw_below_drewN | apply below_drew1 | refine below_set ?_ GE141.out | refine below_set ?_ GE143.out) | exact HB.out)) hb); clear HO_22; clear BK141; clear BK143; clear HB; have HO_22 := n0_; have BK141 := n1_; have BK143 := n2_; have HB := n3_; clear n0_ n1_ n2_ n3_; (try clear hb); (try clear hb2); (try clear hk); (try clear hi)))
                                            go_ret
                                            exact ⟨by first | rfl | (simp [errW_none, errW_some] <;> rfl) | (simp only [← hji13]; first | rfl | (simp [errW_none, errW_some] <;> rfl)) | (simp [*, errW_none, errW_some] <;> rfl), by repeat (first | (with_reducible first | exact HB.out | apply below_alloc | apply pw_below_drewN | apply below_drew1 | refine below_set ?_ GE141.out | refine below_set ?_ GE143.out) | exact HB.out)⟩
                                          · rw [if_neg c104] at H
                                            have c104b0 : decide (x8_24 < x9_24) = false := decide_eq_false c104
                                            clear c104
                                            by_cases c110 : x10_24 > x9_24
                                            · rw [if_pos c110] at H
                                              have c110b0 : decide (x9_24 < x10_24) = true := decide_eq_true c110
                                              clear c110
                                              obtain rfl := Option.some.inj H
                                              have hnb111 := NB141_143.out
                                              have hnc111 := NB143_141.out
                                              have hcz112_0 : wc.cell? ⟨gb141, 0, none⟩ = some (.int .u64 x142000_24) := (blk_cell BK141.out 0).trans rfl
                                              have hcz112_1 : wc.cell? ⟨gb141, 1, none⟩ = some (.int .u64 x142001_24) := (blk_cell BK141.out 1).trans rfl
                                              have hcz112_2 : wc.cell? ⟨gb141, 2, none⟩ = some (.int .u64 x142002_24) := (blk_cell BK141.out 2).trans rfl
                                              have hcz112_3 : wc.cell? ⟨gb141, 3, none⟩ = some (.int .u64 x142003_24) := (blk_cell BK141.out 3).trans rfl
                                              have hcz112_4 : wc.cell? ⟨gb141, 4, none⟩ = some (.int .u64 x142004_24) := (blk_cell BK141.out 4).trans rfl
                                              have hfz112_0 := blk_frozen BK141.out 0
                                              have hfz112_1 := blk_frozen BK141.out 1
                                              have hfz112_2 := blk_frozen BK141.out 2
                                              have hfz112_3 := blk_frozen BK141.out 3
                                              have hfz112_4 := blk_frozen BK141.out 4
                                              go_wp2_with (first | (go_at_call 33; (with_reducible refine (credit_Given_Last.calls x142000_24 x142001_24 x142002_24 x142003_24 x142004_24 t167 _ A95.out).mono ?_); rintro e w113 ⟨rfl, hb⟩; have n0_ := Aside0.mk (Kd.R_below (by (with_reducible repeat (first | apply Kd.R_alloc | apply Kd.R_drewN | apply Kd.R_drew)); exact HO_22.out) hb); have n1_ := Aside0.mk (blk_below (g := gb141) (o := .cells #[.int .u64 x142000_24, .int .u64 x142001_24, .int .u64 x142002_24, .int .u64 x142003_24, .int .u64 x142004_24] 51 (0, 0)) (by (with_reducible repeat (first | refine blk_drewN ?_ _ | refine blk_drew ?_ | refine blk_alloc ?_ _)); exact BK141.out) hb); have n2_ := Aside0.mk (blk_below (g := gb143) (o := .cells #[.int .u8 ((rd_T54 l1 x36_2).f0), .int .u16 ((rd_T54 l1 x36_2).f1), .int .u64 ((rd_T54 l1 x36_2).f2), .bool ((rd_T54 l1 x36_2).f3)] 54 (0, 0)) (by (with_reducible repeat (first | refine blk_drewN ?_ _ | refine blk_drew ?_ | refine blk_alloc ?_ _)); exact BK143.out) hb); have n3_ := Aside0.mk (below_step (by repeat (first | (with_reducible first | exact HB.out | apply below_alloc | apply pw_below_drewN | apply below_drew1 | refine below_set ?_ GE141.out | refine below_set ?_ GE143.out) | exact HB.out)) hb); clear HO_22; clear BK141; clear BK143; clear HB; have HO_22 := n0_; have BK141 := n1_; have BK143 := n2_; have HB := n3_; clear n0_ n1_ n2_ n3_; (try clear hb); (try clear hb2); (try clear hk); (try clear hi); have hcz114_0 : w113.cell? ⟨gb141, 0, none⟩ = some (.int .u64 x142000_24) := (blk_cell BK141.out 0).trans rfl; have hcz114_1 : w113.cell? ⟨gb141, 1, none⟩ = some (.int .u64 x142001_24) := (blk_cell BK141.out 1).trans rfl; have hcz114_2 : w113.cell? ⟨gb141, 2, none⟩ = some (.int .u64 x142002_24) := (blk_cell BK141.out 2).trans rfl; have hcz114_3 : w113.cell? ⟨gb141, 3, none⟩ = some (.int .u64 x142003_24) := (blk_cell BK141.out 3).trans rfl; have hcz114_4 : w113.cell? ⟨gb141, 4, none⟩ = some (.int .u64 x142004_24) := (blk_cell BK141.out 4).trans rfl; have hfz114_0 := blk_frozen BK141.out 0; have hfz114_1 := blk_frozen BK141.out 1; have hfz114_2 := blk_frozen BK141.out 2; have hfz114_3 := blk_frozen BK141.out 3; have hfz114_4 := blk_frozen BK141.out 4) | (go_at_call 34; (with_reducible refine (credit_Given_Wants.calls x142000_24 x142001_24 x142002_24 x142003_24 x142004_24 t168 _ A97.out).mono ?_); rintro e w115 ⟨rfl, hb⟩; have n0_ := Aside0.mk (Kd.R_below (by (with_reducible repeat (first | apply Kd.R_alloc | apply Kd.R_drewN | apply Kd.R_drew)); exact HO_22.out) hb); have n1_ := Aside0.mk (blk_below (g := gb141) (o := .cells #[.int .u64 x142000_24, .int .u64 x142001_24, .int .u64 x142002_24, .int .u64 x142003_24, .int .u64 x142004_24] 51 (0, 0)) (by (with_reducible repeat (first | refine blk_drewN ?_ _ | refine blk_drew ?_ | refine blk_alloc ?_ _)); exact BK141.out) hb); have n2_ := Aside0.mk (blk_below (g := gb143) (o := .cells #[.int .u8 ((rd_T54 l1 x36_2).f0), .int .u16 ((rd_T54 l1 x36_2).f1), .int .u64 ((rd_T54 l1 x36_2).f2), .bool ((rd_T54 l1 x36_2).f3)] 54 (0, 0)) (by (with_reducible repeat (first | refine blk_drewN ?_ _ | refine blk_drew ?_ | refine blk_alloc ?_ _)); exact BK143.out) hb); have n3_ := Aside0.mk (below_step (by repeat (first | (with_reducible first | exact HB.out | apply below_alloc | apply pw_below_drewN | apply below_drew1 | refine below_set ?_ GE141.out | refine below_set ?_ GE143.out) | exact HB.out)) hb); clear HO_22; clear BK141; clear BK143; clear HB; have HO_22 := n0_; have BK141 := n1_; have BK143 := n2_; have HB := n3_; clear n0_ n1_ n2_ n3_; (try clear hb); (try clear hb2); (try clear hk); (try clear hi)))
                                              go_ret
                                              exact ⟨by first | rfl | (simp [errW_none, errW_some] <;> rfl) | (simp only [← hji13]; first | rfl | (simp [errW_none, errW_some] <;> rfl)) | (simp [*, errW_none, errW_some] <;> rfl), by repeat (first | (with_reducible first | exact HB.out | apply below_alloc | apply pw_below_drewN | apply below_drew1 | refine below_set ?_ GE141.out | refine below_set ?_ GE143.out) | exact HB.out)⟩
                                            · rw [if_neg c110] at H
                                              have c110b0 : decide (x9_24 < x10_24) = false := decide_eq_false c110
                                              clear c110
                                              have H' := Aside0.mk H
                                              clear H
                                              have hnb116 := NB141_143.out
                                              have hnc116 := NB143_141.out
                                              have hcz117_0 : wc.cell? ⟨gb141, 0, none⟩ = some (.int .u64 x142000_24) := (blk_cell BK141.out 0).trans rfl
                                              have hcz117_1 : wc.cell? ⟨gb141, 1, none⟩ = some (.int .u64 x142001_24) := (blk_cell BK141.out 1).trans rfl
                                              have hcz117_2 : wc.cell? ⟨gb141, 2, none⟩ = some (.int .u64 x142002_24) := (blk_cell BK141.out 2).trans rfl
                                              have hcz117_3 : wc.cell? ⟨gb141, 3, none⟩ = some (.int .u64 x142003_24) := (blk_cell BK141.out 3).trans rfl
                                              have hcz117_4 : wc.cell? ⟨gb141, 4, none⟩ = some (.int .u64 x142004_24) := (blk_cell BK141.out 4).trans rfl
                                              have hfz117_0 := blk_frozen BK141.out 0
                                              have hfz117_1 := blk_frozen BK141.out 1
                                              have hfz117_2 := blk_frozen BK141.out 2
                                              have hfz117_3 := blk_frozen BK141.out 3
                                              have hfz117_4 := blk_frozen BK141.out 4
                                              go_wp2_with (first | (go_at_call 33; (with_reducible refine (credit_Given_Last.calls x142000_24 x142001_24 x142002_24 x142003_24 x142004_24 t167 _ A95.out).mono ?_); rintro e w118 ⟨rfl, hb⟩; have n0_ := Aside0.mk (Kd.R_below (by (with_reducible repeat (first | apply Kd.R_alloc | apply Kd.R_drewN | apply Kd.R_drew)); exact HO_22.out) hb); have n1_ := Aside0.mk (blk_below (g := gb141) (o := .cells #[.int .u64 x142000_24, .int .u64 x142001_24, .int .u64 x142002_24, .int .u64 x142003_24, .int .u64 x142004_24] 51 (0, 0)) (by (with_reducible repeat (first | refine blk_drewN ?_ _ | refine blk_drew ?_ | refine blk_alloc ?_ _)); exact BK141.out) hb); have n2_ := Aside0.mk (blk_below (g := gb143) (o := .cells #[.int .u8 ((rd_T54 l1 x36_2).f0), .int .u16 ((rd_T54 l1 x36_2).f1), .int .u64 ((rd_T54 l1 x36_2).f2), .bool ((rd_T54 l1 x36_2).f3)] 54 (0, 0)) (by (with_reducible repeat (first | refine blk_drewN ?_ _ | refine blk_drew ?_ | refine blk_alloc ?_ _)); exact BK143.out) hb); have n3_ := Aside0.mk (below_step (by repeat (first | (with_reducible first | exact HB.out | apply below_alloc | apply pw_below_drewN | apply below_drew1 | refine below_set ?_ GE141.out | refine below_set ?_ GE143.out) | exact HB.out)) hb); clear HO_22; clear BK141; clear BK143; clear HB; have HO_22 := n0_; have BK141 := n1_; have BK143 := n2_; have HB := n3_; clear n0_ n1_ n2_ n3_; (try clear hb); (try clear hb2); (try clear hk); (try clear hi); have hcz119_0 : w118.cell? ⟨gb141, 0, none⟩ = some (.int .u64 x142000_24) := (blk_cell BK141.out 0).trans rfl; have hcz119_1 : w118.cell? ⟨gb141, 1, none⟩ = some (.int .u64 x142001_24) := (blk_cell BK141.out 1).trans rfl; have hcz119_2 : w118.cell? ⟨gb141, 2, none⟩ = some (.int .u64 x142002_24) := (blk_cell BK141.out 2).trans rfl; have hcz119_3 : w118.cell? ⟨gb141, 3, none⟩ = some (.int .u64 x142003_24) := (blk_cell BK141.out 3).trans rfl; have hcz119_4 : w118.cell? ⟨gb141, 4, none⟩ = some (.int .u64 x142004_24) := (blk_cell BK141.out 4).trans rfl; have hfz119_0 := blk_frozen BK141.out 0; have hfz119_1 := blk_frozen BK141.out 1; have hfz119_2 := blk_frozen BK141.out 2; have hfz119_3 := blk_frozen BK141.out 3; have hfz119_4 := blk_frozen BK141.out 4) | (go_at_call 34; (with_reducible refine (credit_Given_Wants.calls x142000_24 x142001_24 x142002_24 x142003_24 x142004_24 t168 _ A97.out).mono ?_); rintro e w120 ⟨rfl, hb⟩; have n0_ := Aside0.mk (Kd.R_below (by (with_reducible repeat (first | apply Kd.R_alloc | apply Kd.R_drewN | apply Kd.R_drew)); exact HO_22.out) hb); have n1_ := Aside0.mk (blk_below (g := gb141) (o := .cells #[.int .u64 x142000_24, .int .u64 x142001_24, .int .u64 x142002_24, .int .u64 x142003_24, .int .u64 x142004_24] 51 (0, 0)) (by (with_reducible repeat (first | refine blk_drewN ?_ _ | refine blk_drew ?_ | refine blk_alloc ?_ _)); exact BK141.out) hb); have n2_ := Aside0.mk (blk_below (g := gb143) (o := .cells #[.int .u8 ((rd_T54 l1 x36_2).f0), .int .u16 ((rd_T54 l1 x36_2).f1), .int .u64 ((rd_T54 l1 x36_2).f2), .bool ((rd_T54 l1 x36_2).f3)] 54 (0, 0)) (by (with_reducible repeat (first | refine blk_drewN ?_ _ | refine blk_drew ?_ | refine blk_alloc ?_ _)); exact BK143.out) hb); have n3_ := Aside0.mk (below_step (by repeat (first | (with_reducible first | exact HB.out | apply below_alloc | apply pw_below_drewN | apply below_drew1 | refine below_set ?_ GE141.out | refine below_set ?_ GE143.out) | exact HB.out)) hb); clear HO_22; clear BK141; clear BK143; clear HB; have HO_22 := n0_; have BK141 := n1_; have BK143 := n2_; have HB := n3_; clear n0_ n1_ n2_ n3_; (try clear hb); (try clear hb2); (try clear hk); (try clear hi)))
                                              go_roundg kj24
                                              case measure => have := HK1.out; have := HK2.out; have := HJ24.out; omega
                                              case rel => exact ⟨(x8_24), (x9_24), (x10_24), (x11_24), (wrap64 (x36_2 + 1)), (x142000_24), (x142001_24), (x142002_24), (x142003_24), (x142004_24), (by first | rfl | (simp; done) | (simp [*]; done)), (by first | rfl | (simp; done) | (simp [*]; done)), (by first | rfl | (simp; done) | (simp [*]; done)), (by first | rfl | (simp; done) | (simp [*]; done)), (by first | rfl | (simp; done) | (simp [*]; done)), H', ⟨by have := HK1.out; have := HK2.out; have := HJ24.out; omega⟩, ⟨by (with_reducible repeat (first | apply Kd.R_alloc | apply Kd.R_drewN | apply Kd.R_drew)); exact HO_22.out⟩, ⟨by (with_reducible repeat (first | refine blk_drewN ?_ _ | refine blk_drew ?_ | refine blk_alloc ?_ _)); exact BK141.out⟩, ⟨by repeat (first | (with_reducible first | exact HB.out | apply below_alloc | apply pw_below_drewN | apply below_drew1 | refine below_set ?_ GE141.out | refine below_set ?_ GE143.out) | exact HB.out)⟩⟩
                                      · rw [if_neg c96] at H
                                        have c96b0 : (t167 == x11_24) = false := beq_eq_false_iff_ne.mpr c96
                                        have c96b1 : (t167 != x11_24) = true := bne_iff_ne.mpr c96
                                        obtain rfl := Option.some.inj H
                                        have hnb121 := NB141_143.out
                                        have hnc121 := NB143_141.out
                                        have hcz122_0 : wc.cell? ⟨gb141, 0, none⟩ = some (.int .u64 x142000_24) := (blk_cell BK141.out 0).trans rfl
                                        have hcz122_1 : wc.cell? ⟨gb141, 1, none⟩ = some (.int .u64 x142001_24) := (blk_cell BK141.out 1).trans rfl
                                        have hcz122_2 : wc.cell? ⟨gb141, 2, none⟩ = some (.int .u64 x142002_24) := (blk_cell BK141.out 2).trans rfl
                                        have hcz122_3 : wc.cell? ⟨gb141, 3, none⟩ = some (.int .u64 x142003_24) := (blk_cell BK141.out 3).trans rfl
                                        have hcz122_4 : wc.cell? ⟨gb141, 4, none⟩ = some (.int .u64 x142004_24) := (blk_cell BK141.out 4).trans rfl
                                        have hfz122_0 := blk_frozen BK141.out 0
                                        have hfz122_1 := blk_frozen BK141.out 1
                                        have hfz122_2 := blk_frozen BK141.out 2
                                        have hfz122_3 := blk_frozen BK141.out 3
                                        have hfz122_4 := blk_frozen BK141.out 4
                                        go_wp2_with (first | (go_at_call 33; (with_reducible refine (credit_Given_Last.calls x142000_24 x142001_24 x142002_24 x142003_24 x142004_24 t167 _ A95.out).mono ?_); rintro e w123 ⟨rfl, hb⟩; have n0_ := Aside0.mk (Kd.R_below (by (with_reducible repeat (first | apply Kd.R_alloc | apply Kd.R_drewN | apply Kd.R_drew)); exact HO_22.out) hb); have n1_ := Aside0.mk (blk_below (g := gb141) (o := .cells #[.int .u64 x142000_24, .int .u64 x142001_24, .int .u64 x142002_24, .int .u64 x142003_24, .int .u64 x142004_24] 51 (0, 0)) (by (with_reducible repeat (first | refine blk_drewN ?_ _ | refine blk_drew ?_ | refine blk_alloc ?_ _)); exact BK141.out) hb); have n2_ := Aside0.mk (blk_below (g := gb143) (o := .cells #[.int .u8 ((rd_T54 l1 x36_2).f0), .int .u16 ((rd_T54 l1 x36_2).f1), .int .u64 ((rd_T54 l1 x36_2).f2), .bool ((rd_T54 l1 x36_2).f3)] 54 (0, 0)) (by (with_reducible repeat (first | refine blk_drewN ?_ _ | refine blk_drew ?_ | refine blk_alloc ?_ _)); exact BK143.out) hb); have n3_ := Aside0.mk (below_step (by repeat (first | (with_reducible first | exact HB.out | apply below_alloc | apply pw_below_drewN | apply below_drew1 | refine below_set ?_ GE141.out | refine below_set ?_ GE143.out) | exact HB.out)) hb); clear HO_22; clear BK141; clear BK143; clear HB; have HO_22 := n0_; have BK141 := n1_; have BK143 := n2_; have HB := n3_; clear n0_ n1_ n2_ n3_; (try clear hb); (try clear hb2); (try clear hk); (try clear hi)))
                                        go_ret
                                        exact ⟨by first | rfl | (simp [errW_none, errW_some] <;> rfl) | (simp only [← hji13]; first | rfl | (simp [errW_none, errW_some] <;> rfl)) | (simp [*, errW_none, errW_some] <;> rfl), by repeat (first | (with_reducible first | exact HB.out | apply below_alloc | apply pw_below_drewN | apply below_drew1 | refine below_set ?_ GE141.out | refine below_set ?_ GE143.out) | exact HB.out)⟩
                                    · rw [if_neg c94] at H
                                      have c94b0 : (x142003_24 == ji13) = false := beq_eq_false_iff_ne.mpr c94
                                      have c94b1 : (x142003_24 != ji13) = true := bne_iff_ne.mpr c94
                                      obtain rfl := Option.some.inj H
                                      have hnb124 := NB141_143.out
                                      have hnc124 := NB143_141.out
                                      have hcz125_0 : wc.cell? ⟨gb141, 0, none⟩ = some (.int .u64 x142000_24) := (blk_cell BK141.out 0).trans rfl
                                      have hcz125_1 : wc.cell? ⟨gb141, 1, none⟩ = some (.int .u64 x142001_24) := (blk_cell BK141.out 1).trans rfl
                                      have hcz125_2 : wc.cell? ⟨gb141, 2, none⟩ = some (.int .u64 x142002_24) := (blk_cell BK141.out 2).trans rfl
                                      have hcz125_3 : wc.cell? ⟨gb141, 3, none⟩ = some (.int .u64 x142003_24) := (blk_cell BK141.out 3).trans rfl
                                      have hcz125_4 : wc.cell? ⟨gb141, 4, none⟩ = some (.int .u64 x142004_24) := (blk_cell BK141.out 4).trans rfl
                                      have hfz125_0 := blk_frozen BK141.out 0
                                      have hfz125_1 := blk_frozen BK141.out 1
                                      have hfz125_2 := blk_frozen BK141.out 2
                                      have hfz125_3 := blk_frozen BK141.out 3
                                      have hfz125_4 := blk_frozen BK141.out 4
                                      go_wp2
                                      go_ret
                                      exact ⟨by first | rfl | (simp [errW_none, errW_some] <;> rfl) | (simp only [← hji13]; first | rfl | (simp [errW_none, errW_some] <;> rfl)) | (simp [*, errW_none, errW_some] <;> rfl), by repeat (first | (with_reducible first | exact HB.out | apply below_alloc | apply pw_below_drewN | apply below_drew1 | refine below_set ?_ GE141.out | refine below_set ?_ GE143.out) | exact HB.out)⟩
                                  · rw [if_neg c93] at H
                                    have c93b0 : (x142002_24 == x10_24) = false := beq_eq_false_iff_ne.mpr c93
                                    have c93b1 : (x142002_24 != x10_24) = true := bne_iff_ne.mpr c93
                                    obtain rfl := Option.some.inj H
                                    have hnb126 := NB141_143.out
                                    have hnc126 := NB143_141.out
                                    have hcz127_0 : wc.cell? ⟨gb141, 0, none⟩ = some (.int .u64 x142000_24) := (blk_cell BK141.out 0).trans rfl
                                    have hcz127_1 : wc.cell? ⟨gb141, 1, none⟩ = some (.int .u64 x142001_24) := (blk_cell BK141.out 1).trans rfl
                                    have hcz127_2 : wc.cell? ⟨gb141, 2, none⟩ = some (.int .u64 x142002_24) := (blk_cell BK141.out 2).trans rfl
                                    have hcz127_3 : wc.cell? ⟨gb141, 3, none⟩ = some (.int .u64 x142003_24) := (blk_cell BK141.out 3).trans rfl
                                    have hcz127_4 : wc.cell? ⟨gb141, 4, none⟩ = some (.int .u64 x142004_24) := (blk_cell BK141.out 4).trans rfl
                                    have hfz127_0 := blk_frozen BK141.out 0
                                    have hfz127_1 := blk_frozen BK141.out 1
                                    have hfz127_2 := blk_frozen BK141.out 2
                                    have hfz127_3 := blk_frozen BK141.out 3
                                    have hfz127_4 := blk_frozen BK141.out 4
                                    go_wp2
                                    go_ret
                                    exact ⟨by first | rfl | (simp [errW_none, errW_some] <;> rfl) | (simp only [← hji13]; first | rfl | (simp [errW_none, errW_some] <;> rfl)) | (simp [*, errW_none, errW_some] <;> rfl), by repeat (first | (with_reducible first | exact HB.out | apply below_alloc | apply pw_below_drewN | apply below_drew1 | refine below_set ?_ GE141.out | refine below_set ?_ GE143.out) | exact HB.out)⟩
                                · rw [if_neg c92] at H
                                  have c92b0 : (x142001_24 == x9_24) = false := beq_eq_false_iff_ne.mpr c92
                                  have c92b1 : (x142001_24 != x9_24) = true := bne_iff_ne.mpr c92
                                  obtain rfl := Option.some.inj H
                                  have hnb128 := NB141_143.out
                                  have hnc128 := NB143_141.out
                                  have hcz129_0 : wc.cell? ⟨gb141, 0, none⟩ = some (.int .u64 x142000_24) := (blk_cell BK141.out 0).trans rfl
                                  have hcz129_1 : wc.cell? ⟨gb141, 1, none⟩ = some (.int .u64 x142001_24) := (blk_cell BK141.out 1).trans rfl
                                  have hcz129_2 : wc.cell? ⟨gb141, 2, none⟩ = some (.int .u64 x142002_24) := (blk_cell BK141.out 2).trans rfl
                                  have hcz129_3 : wc.cell? ⟨gb141, 3, none⟩ = some (.int .u64 x142003_24) := (blk_cell BK141.out 3).trans rfl
                                  have hcz129_4 : wc.cell? ⟨gb141, 4, none⟩ = some (.int .u64 x142004_24) := (blk_cell BK141.out 4).trans rfl
                                  have hfz129_0 := blk_frozen BK141.out 0
                                  have hfz129_1 := blk_frozen BK141.out 1
                                  have hfz129_2 := blk_frozen BK141.out 2
                                  have hfz129_3 := blk_frozen BK141.out 3
                                  have hfz129_4 := blk_frozen BK141.out 4
                                  go_wp2
                                  go_ret
                                  exact ⟨by first | rfl | (simp [errW_none, errW_some] <;> rfl) | (simp only [← hji13]; first | rfl | (simp [errW_none, errW_some] <;> rfl)) | (simp [*, errW_none, errW_some] <;> rfl), by repeat (first | (with_reducible first | exact HB.out | apply below_alloc | apply pw_below_drewN | apply below_drew1 | refine below_set ?_ GE141.out | refine below_set ?_ GE143.out) | exact HB.out)⟩
                              · rw [if_neg c91] at H
                                have c91b0 : (x142000_24 == x8_24) = false := beq_eq_false_iff_ne.mpr c91
                                have c91b1 : (x142000_24 != x8_24) = true := bne_iff_ne.mpr c91
                                obtain rfl := Option.some.inj H
                                have hnb130 := NB141_143.out
                                have hnc130 := NB143_141.out
                                have hcz131_0 : wc.cell? ⟨gb141, 0, none⟩ = some (.int .u64 x142000_24) := (blk_cell BK141.out 0).trans rfl
                                have hcz131_1 : wc.cell? ⟨gb141, 1, none⟩ = some (.int .u64 x142001_24) := (blk_cell BK141.out 1).trans rfl
                                have hcz131_2 : wc.cell? ⟨gb141, 2, none⟩ = some (.int .u64 x142002_24) := (blk_cell BK141.out 2).trans rfl
                                have hcz131_3 : wc.cell? ⟨gb141, 3, none⟩ = some (.int .u64 x142003_24) := (blk_cell BK141.out 3).trans rfl
                                have hcz131_4 : wc.cell? ⟨gb141, 4, none⟩ = some (.int .u64 x142004_24) := (blk_cell BK141.out 4).trans rfl
                                have hfz131_0 := blk_frozen BK141.out 0
                                have hfz131_1 := blk_frozen BK141.out 1
                                have hfz131_2 := blk_frozen BK141.out 2
                                have hfz131_3 := blk_frozen BK141.out 3
                                have hfz131_4 := blk_frozen BK141.out 4
                                go_wp2
                                go_ret
                                exact ⟨by first | rfl | (simp [errW_none, errW_some] <;> rfl) | (simp only [← hji13]; first | rfl | (simp [errW_none, errW_some] <;> rfl)) | (simp [*, errW_none, errW_some] <;> rfl), by repeat (first | (with_reducible first | exact HB.out | apply below_alloc | apply pw_below_drewN | apply below_drew1 | refine below_set ?_ GE141.out | refine below_set ?_ GE143.out) | exact HB.out)⟩
                      · rw [if_neg c19] at H
                        exact absurd H (by simp)
                    · rw [if_neg c18] at H
                      exact absurd H (by simp)
                  · rw [if_neg c17] at H
                    have c17b0 : decide (x36_2 < (l1.length : Int)) = false := decide_eq_false c17
                    clear c17
                    have H' := Aside0.mk H
                    clear H
                    go_wp2
                    go_roundg k2
                    case measure => have := HK1.out; have := HK2.out; omega
                    case rel => exact ⟨(wrap64 (x24_1 + 1)), (by first | rfl | (simp; done) | (simp [*]; done)), H', ⟨by have := HK1.out; have := HK2.out; omega⟩, ⟨by (with_reducible repeat (first | apply Kd.R_alloc | apply Kd.R_drewN | apply Kd.R_drew)); exact HO_22.out⟩, ⟨by repeat (first | (with_reducible first | exact HB.out | apply below_alloc | apply pw_below_drewN | apply below_drew1 | refine below_set ?_ GE141.out) | exact HB.out)⟩⟩
            · rw [if_neg c11] at H
              exact absurd H (by simp)
          · rw [if_neg c10] at H
            exact absurd H (by simp)
        · rw [if_neg c9] at H
          have c9b0 : decide (x24_1 < (y132.length : Int)) = false := decide_eq_false c9
          clear c9
          obtain rfl := Option.some.inj H
          go_wp2
          go_ret
          exact ⟨by first | rfl | (simp [errW_none, errW_some] <;> rfl) | (simp [*, errW_none, errW_some] <;> rfl), by repeat (first | (with_reducible first | exact HB.out | apply below_alloc | apply pw_below_drewN | apply below_drew1) | exact HB.out)⟩
  · replace c4 := Bool.eq_false_iff.mpr c4
    subst c4
    have H1 : (some false) = some r := by rw [if_neg (show ¬ (false = true) by decide)] at H; exact H
    clear H
    have H := H1
    clear H1
    obtain rfl := Option.some.inj H
    go_enter Try.func7, Try.ntmps7
    go_wp2_with (first | ((with_reducible refine gate_callee (f := 26) rfl ?_); refine goesL_ (some 17) rfl rfl Try.func26 (by kernel_rfl) rfl #[] rfl (by (try simp only [List.map_toArray, List.map_cons, List.map_nil]); first | done | rfl | (simp only [List.length_drop, List.length_take]; rfl)) ?_; (with_reducible refine (binnaclelaw20_Awake.calls  false _ A3.out).mono ?_); rintro e w132 ⟨rfl, hb⟩; refine ⟨_, rfl, ?_⟩; have n0_ := Aside0.mk (below_step (by repeat (first | (with_reducible first | exact HB.out | apply below_alloc | apply pw_below_drewN | apply below_drew1) | exact HB.out)) hb); clear HB; have HB := n0_; clear n0_; (try clear hb); (try clear hb2); (try clear hk); (try clear hi)))
    go_ret
    exact ⟨by first | rfl | (simp [errW_none, errW_some] <;> rfl) | (simp [*, errW_none, errW_some] <;> rfl), by repeat (first | (with_reducible first | exact HB.out | apply below_alloc | apply pw_below_drewN | apply below_drew1) | exact HB.out)⟩

end Go.Proofs.Ytloiihbhpmmaiaa.PCreditGives
