/- What pnum.Whole answers, for every row of bytes and every greatest number: its contract. No condition. -/
import Derived.Test.YtloiihbhpmmaiaaProg
import Derived.Test.YtloiihbhpmmaiaaWMore
import Derived.WalkKit
import Derived.OpenShut
import Derived.Lib.Hide
import Derived.Deep.DeepCutAuto
import Derived.Deep.CutBlock
namespace Go.Proofs.Ytloiihbhpmmaiaa.Whole
open Go.RowKit Go.Proofs.YtloiihbhpmmaiaaW.PrintWords Go.Proofs.YtloiihbhpmmaiaaW.PrintLast Go.Proofs.YtloiihbhpmmaiaaW.PrintMore
attribute [local go_sem] max2_int min2_int

theorem u64_id {n : Int} (h0 : 0 ≤ n) (h1 : n < 18446744073709551616) : IntKind.u64.wrap n = n := by rw [IntKind.wrap_u64]; omega

/-- The number that bytes are, the highest first. -/
def val (xs : List Int) : Int := xs.foldl (fun n c => n * 256 + c) 0
theorem val_snoc (xs : List Int) (c : Int) : val (xs ++ [c]) = val xs * 256 + c := by simp [val]

theorem step_or (x c : Int) (h0 : 0 ≤ x) (h1 : x < 281474976710656) (c0 : 0 ≤ c) (c1 : c ≤ 255) : bits .or .u64 (x * 256) c = x * 256 + c := by
  obtain ⟨a, rfl⟩ := Int.eq_ofNat_of_zero_le h0
  obtain ⟨b, rfl⟩ := Int.eq_ofNat_of_zero_le c0
  have e : ((a : Int) * 256) = ((a * 256 : Nat) : Int) := by omega
  rw [e, u64_or_nat (a * 256) b (by omega) (by omega), nat_join 8 (a * 256) b (by omega) (by omega)]
  omega
theorem val_take (xs : List Int) (j : Nat) (hj : j < xs.length) : val (xs.take (j + 1)) = val (xs.take j) * 256 + rd xs j := by
  rw [List.take_succ_eq_append_getElem hj, val_snoc]
  congr 1
  unfold rd
  rw [Int.toNat_natCast, List.getD_eq_getElem?_getD, List.getElem?_eq_getElem hj]; rfl
theorem rd_in {xs : List Int} (hx : ∀ x ∈ xs, 0 ≤ x ∧ x ≤ 255) (j : Int) : 0 ≤ rd xs j ∧ rd xs j ≤ 255 := by
  unfold rd
  rw [List.getD_eq_getElem?_getD]
  by_cases h : j.toNat < xs.length
  · rw [List.getElem?_eq_getElem h]
    exact hx _ (List.getElem_mem h)
  · rw [List.getElem?_eq_none (by omega)]
    exact ⟨by decide, by decide⟩
theorem val_bound (xs : List Int) (hx : ∀ x ∈ xs, 0 ≤ x ∧ x ≤ 255) (j : Nat) (hj : j ≤ xs.length) : 0 ≤ val (xs.take j) ∧ val (xs.take j) < 256 ^ j := by
  induction j with
  | zero => exact ⟨by simp [val], by simp [val]⟩
  | succ j ih =>
    have h1 := ih (by omega)
    have h2 := rd_in hx j
    rw [val_take xs j (by omega), Int.pow_succ]
    omega

/-- The nearest of the numbers that end so. -/
def near (n e win : Int) : Int :=
  if e - e % win + n + win / 2 ≤ e ∧ e - e % win + n < 4611686018427387904 - win then e - e % win + n + win
  else if e - e % win + n > e + win / 2 ∧ e - e % win + n ≥ win then e - e % win + n - win
  else e - e % win + n

theorem mask (e n : Int) (i : Nat) (hi : i ≤ 32) (h0 : 0 ≤ e) (h1 : e < 4611686018427387904) (n0 : 0 ≤ n) (n1 : n < 2 ^ i) : bits .or .u64 (bits .andNot .u64 e (2 ^ i - 1)) n = e - e % 2 ^ i + n := by
  obtain ⟨a, rfl⟩ := Int.eq_ofNat_of_zero_le h0
  obtain ⟨b, rfl⟩ := Int.eq_ofNat_of_zero_le n0
  have hp : (2 : Nat) ^ i ≤ 2 ^ 32 := Nat.pow_le_pow_right (by omega) hi
  have hp0 : 0 < (2 : Nat) ^ i := Nat.pow_pos (by omega)
  have ec : ((2 : Int) ^ i - 1) = ((2 ^ i - 1 : Nat) : Int) := by
    rw [Int.ofNat_sub hp0]; simp
  have eb : b < 2 ^ i := by
    have : ((b : Nat) : Int) < ((2 ^ i : Nat) : Int) := by simpa using n1
    omega
  rw [ec, u64_andNot_nat a (2 ^ i - 1) (by omega) (by omega)]
  have em : a &&& (18446744073709551615 - (2 ^ i - 1)) = a - a % 2 ^ i := by
    have e1 : 18446744073709551615 - (2 ^ i - 1) = 2 ^ 64 - 2 ^ i := by omega
    rw [e1]
    have := nat_midmask 64 i a (by omega)
    rw [this, Nat.mod_eq_of_lt (by omega)]
    have := Nat.div_add_mod a (2 ^ i)
    rw [Nat.mul_comm] at this
    omega
  have ed : (a - a % 2 ^ i) % 2 ^ i = 0 := by
    have := Nat.div_add_mod a (2 ^ i)
    have e2 : a - a % 2 ^ i = 2 ^ i * (a / 2 ^ i) := by omega
    rw [e2]; exact Nat.mul_mod_right _ _
  rw [em, u64_or_nat _ _ (by omega) (by omega), nat_join i _ b ed eb]
  have hm := Nat.mod_le a (2 ^ i)
  have e3 : ((a : Int) % 2 ^ i) = ((a % 2 ^ i : Nat) : Int) := by simp
  rw [e3]; omega

/-- What is answered: the number, the error. -/
def whole (xs : List Int) (g : Int) : Int × Int :=
  if xs.length < 1 ∨ 4 < xs.length then (0, 6)
  else if g ≥ 4611686018427387903 then (0, 2)
  else (near (val xs) (if g < -1 then 0 else g + 1) (256 ^ xs.length), 0)
theorem whole_eq (xs : List Int) (g m : Int) (h1 : 1 ≤ xs.length) (h4 : xs.length ≤ 4) (hm : (if g < -1 then -1 else g) = m) (hg : g ≤ 9223372036854775807) :
    (m ≥ 4611686018427387903 → whole xs g = (0, 2)) ∧ (m < 4611686018427387903 → -1 ≤ m ∧ whole xs g = (near (val xs) (m + 1) (256 ^ xs.length), 0)) ∧ m ≤ 9223372036854775807 := by
  unfold whole
  rw [if_neg (show ¬ (xs.length < 1 ∨ 4 < xs.length) by omega)]
  by_cases hg1 : g < -1
  · rw [if_pos hg1] at hm ⊢
    subst hm
    rw [if_neg (by omega)]
    exact ⟨fun h => by omega, fun _ => ⟨by omega, rfl⟩, by omega⟩
  · rw [if_neg hg1] at hm ⊢
    subst hm
    exact ⟨fun h => by rw [if_pos h], fun h => ⟨by omega, by rw [if_neg (by omega)]⟩, hg⟩

/-! WALKS -/

set_option maxRecDepth 100000 in
set_option maxHeartbeats 2000000 in
theorem whole1 {w : World} {A : Option Addr} {cap : Nat} {xs : List Int} (hC : Kd.C (Kd.int .u8) w A xs.length xs) (hx : ∀ x ∈ xs, 0 ≤ x ∧ x ≤ 255) (h1 : xs.length = 1) (g m : Int) (hg : g ≤ 9223372036854775807) (hm : (if g < -1 then -1 else g) = m) :
    Calls Try.prog 17 #[.slice A xs.length cap, .int .i64 g] w fun e w' => e = .returned (.tuple #[.int .u64 (whole xs g).1, .int .i64 (whole xs g).2]) ∧ w = w' := by
  have hb := whole_eq xs g m (by omega) (by omega) hm hg
  rw [h1, show (256 : Int) ^ 1 = 256 from by decide] at hb
  have hv0 := val_bound xs hx xs.length (Nat.le_refl _)
  rw [List.take_length, h1] at hv0
  have hv : 0 ≤ val xs ∧ val xs < 256 := hv0
  clear hv0
  obtain ⟨ad, rfl, hcell⟩ : ∃ ad, A = some ad ∧ ∀ j : Nat, j < xs.length → w.cell? (ad.add j) = some (.int .u8 (rd xs j)) := by
    obtain ⟨ad, e, _⟩ := Kd.at_int hC 0 (by omega) (by omega)
    refine ⟨ad, e, fun j hj => ?_⟩
    obtain ⟨ad', e', h⟩ := Kd.at_int hC j (by omega) (by omega)
    rw [e] at e'
    injection e' with e'
    subst e'
    simpa using h
  clear hC
  have H := Lib.hid hcell
  have HB := Lib.hid hb
  have HV := Lib.hid hv
  have HX := Lib.hid hx
  have HM := Lib.hid hm
  clear hcell hb hv hx hm hg
  have hT : xs.take xs.length = xs := List.take_length
  rw [h1] at hT
  have HT := Lib.hid hT
  clear hT
  generalize hwr : whole xs g = R at *
  clear hwr
  go_enter Try.func17, Try.ntmps17
  go_wp2_with fail
  go_loop [6, 23] (fun v i => ∃ j : Nat, j ≤ xs.length ∧ i = .int .i64 j ∧ v = .int .u64 (val (xs.take j))) (fun _ i => xs.length - (intOf i).toNat)
  case atStart => exact ⟨0, Nat.zero_le _, rfl, rfl⟩
  case round =>
    obtain ⟨j, hj, rfl, rfl⟩ := hrel
    by_cases hlt : j < 1
    · have hc := H.out j (by omega)
      have hb := rd_in HX.out j
      have hv : 0 ≤ val (xs.take j) ∧ val (xs.take j) < 281474976710656 := by
        have := val_bound xs HX.out j (by omega)
        have h2 : (256 : Int) ^ j ≤ 256 ^ 6 := by
          have : j = 0 ∨ j = 1 ∨ j = 2 ∨ j = 3 := by omega
          rcases this with rfl | rfl | rfl | rfl <;> decide
        omega
      have hn := val_take xs j (by omega)
      have HN := Lib.hid hn
      clear hn
      generalize val (xs.take j) = v at *
      generalize rd xs j = c at *
      go_wp2
      go_round
      case rel => exact ⟨j + 1, by omega, by go_num, by rw [HN.out, step_or v c hv.1 hv.2 hb.1 hb.2]⟩
      case measure => simp [intOf]; omega
    · have ej : j = 1 := by omega
      subst ej
      rw [HT.out]
      generalize hvx : val xs = v at *
      clear hvx
      have hm' := HM.out
      by_cases hbig : m ≥ 4611686018427387903
      · have hb : decide ((4611686018427387903 : Int) < IntKind.u64.wrap (wrap64 (m + 1))) = true := by
          rw [decide_eq_true_iff, IntKind.wrap_u64]
          have : m ≤ 9223372036854775807 := HB.out.2.2
          unfold wrap64; omega
        have e := HB.out.1 hbig
        subst e
        clear HM H HB HV HX HT hbig
        go_wp2
        go_ret2
        exact ⟨rfl, rfl⟩
      · obtain ⟨hm0, hr⟩ := HB.out.2.1 (by omega)
        have HR := Lib.hid hr
        clear hr HM H HB HX HT
        have hT : decide ((4611686018427387903 : Int) < m + 1) = false := by simp; omega
        have hm1 : m + 1 < 4611686018427387904 := by omega
        have E0 : 0 ≤ m + 1 := by omega
        clear hbig
        go_upto_region 9 with (fail)
        go_upto_region 10 with (fail)
        have hk := HR.out
        have HR2 := Lib.hid hk
        clear HR hk
        generalize m + 1 = E at *
        have hP := mask E v (8 * 1) (by omega) E0 hm1 HV.out.1 (by have := HV.out.2; simpa using this)
        have HE := Lib.hid (And.intro E0 hm1)
        clear E0 hm1 hm0
        go_upto_region 15 with (fail)
        have hP' : bits BinOp.or IntKind.u64 (bits BinOp.andNot IntKind.u64 E 255) v = E - E % 256 + v := hP
        clear hP
        have HP := Lib.hid hP'
        clear hP'
        generalize bits BinOp.or IntKind.u64 (bits BinOp.andNot IntKind.u64 E 255) v = P at *
        have hv := HV.out
        have he := HE.out
        have hp := HP.out
        have w1 : IntKind.u64.wrap (P + 128) = P + 128 := by rw [IntKind.wrap_u64]; omega
        have w2 : IntKind.u64.wrap (E + 128) = E + 128 := by rw [IntKind.wrap_u64]; omega
        have w3 : IntKind.u64.wrap (P + 256) = P + 256 := by rw [IntKind.wrap_u64]; omega
        have W4 : 256 ≤ P → IntKind.u64.wrap (P - 256) = P - 256 := fun _ => by rw [IntKind.wrap_u64]; omega
        have hr : R = (if P + 128 ≤ E ∧ P < 4611686018427387648 then P + 256 else if P > E + 128 ∧ P ≥ 256 then P - 256 else P, 0) := by
          rw [HR2.out, hp]; rfl
        have HR3 := Lib.hid hr
        have H4 := Lib.hid W4
        clear hr W4 HR2 HP HE HV hp he hv
        by_cases hA : P + 128 ≤ E
        · have hA1 : decide (P + 128 ≤ E) = true := decide_eq_true hA
          by_cases hB : P < 4611686018427387648
          · have hB1 : decide (P < 4611686018427387648) = true := decide_eq_true hB
            have hr := HR3.out
            rw [if_pos ⟨hA, hB⟩] at hr
            have HR4 := Lib.hid hr
            clear hr HR3 H4 hA hB
            go_wp2
            go_ret2
            have e := HR4.out
            subst e
            exact ⟨rfl, rfl⟩
          · have hB1 : decide (P < 4611686018427387648) = false := decide_eq_false hB
            have hC1 : decide (E + 128 < P) = false := decide_eq_false (by omega)
            have hr := HR3.out
            rw [if_neg (by omega), if_neg (by omega)] at hr
            have HR4 := Lib.hid hr
            clear hr HR3 H4 hA hB
            go_wp2
            go_ret2
            have e := HR4.out
            subst e
            exact ⟨rfl, rfl⟩
        · have hA1 : decide (P + 128 ≤ E) = false := decide_eq_false hA
          by_cases hC : E + 128 < P
          · have hC1 : decide (E + 128 < P) = true := decide_eq_true hC
            by_cases hD : 256 ≤ P
            · have hD1 : decide (256 ≤ P) = true := decide_eq_true hD
              have hr := HR3.out
              rw [if_neg (by omega), if_pos ⟨hC, hD⟩] at hr
              have HR4 := Lib.hid hr
              have w4 := H4.out hD
              clear hr HR3 H4 hA hC hD
              go_wp2
              go_ret2
              have e := HR4.out
              subst e
              exact ⟨rfl, rfl⟩
            · have hD1 : decide (256 ≤ P) = false := decide_eq_false hD
              have hr := HR3.out
              rw [if_neg (by omega), if_neg (by omega)] at hr
              have HR4 := Lib.hid hr
              clear hr HR3 H4 hA hC hD
              go_wp2
              go_ret2
              have e := HR4.out
              subst e
              exact ⟨rfl, rfl⟩
          · have hC1 : decide (E + 128 < P) = false := decide_eq_false hC
            have hr := HR3.out
            rw [if_neg (by omega), if_neg (by omega)] at hr
            have HR4 := Lib.hid hr
            clear hr HR3 H4 hA hC
            go_wp2
            go_ret2
            have e := HR4.out
            subst e
            exact ⟨rfl, rfl⟩

set_option maxRecDepth 100000 in
set_option maxHeartbeats 2000000 in
theorem whole2 {w : World} {A : Option Addr} {cap : Nat} {xs : List Int} (hC : Kd.C (Kd.int .u8) w A xs.length xs) (hx : ∀ x ∈ xs, 0 ≤ x ∧ x ≤ 255) (h1 : xs.length = 2) (g m : Int) (hg : g ≤ 9223372036854775807) (hm : (if g < -1 then -1 else g) = m) :
    Calls Try.prog 17 #[.slice A xs.length cap, .int .i64 g] w fun e w' => e = .returned (.tuple #[.int .u64 (whole xs g).1, .int .i64 (whole xs g).2]) ∧ w = w' := by
  have hb := whole_eq xs g m (by omega) (by omega) hm hg
  rw [h1, show (256 : Int) ^ 2 = 65536 from by decide] at hb
  have hv0 := val_bound xs hx xs.length (Nat.le_refl _)
  rw [List.take_length, h1] at hv0
  have hv : 0 ≤ val xs ∧ val xs < 65536 := hv0
  clear hv0
  obtain ⟨ad, rfl, hcell⟩ : ∃ ad, A = some ad ∧ ∀ j : Nat, j < xs.length → w.cell? (ad.add j) = some (.int .u8 (rd xs j)) := by
    obtain ⟨ad, e, _⟩ := Kd.at_int hC 0 (by omega) (by omega)
    refine ⟨ad, e, fun j hj => ?_⟩
    obtain ⟨ad', e', h⟩ := Kd.at_int hC j (by omega) (by omega)
    rw [e] at e'
    injection e' with e'
    subst e'
    simpa using h
  clear hC
  have H := Lib.hid hcell
  have HB := Lib.hid hb
  have HV := Lib.hid hv
  have HX := Lib.hid hx
  have HM := Lib.hid hm
  clear hcell hb hv hx hm hg
  have hT : xs.take xs.length = xs := List.take_length
  rw [h1] at hT
  have HT := Lib.hid hT
  clear hT
  generalize hwr : whole xs g = R at *
  clear hwr
  go_enter Try.func17, Try.ntmps17
  go_wp2_with fail
  go_loop [6, 23] (fun v i => ∃ j : Nat, j ≤ xs.length ∧ i = .int .i64 j ∧ v = .int .u64 (val (xs.take j))) (fun _ i => xs.length - (intOf i).toNat)
  case atStart => exact ⟨0, Nat.zero_le _, rfl, rfl⟩
  case round =>
    obtain ⟨j, hj, rfl, rfl⟩ := hrel
    by_cases hlt : j < 2
    · have hc := H.out j (by omega)
      have hb := rd_in HX.out j
      have hv : 0 ≤ val (xs.take j) ∧ val (xs.take j) < 281474976710656 := by
        have := val_bound xs HX.out j (by omega)
        have h2 : (256 : Int) ^ j ≤ 256 ^ 6 := by
          have : j = 0 ∨ j = 1 ∨ j = 2 ∨ j = 3 := by omega
          rcases this with rfl | rfl | rfl | rfl <;> decide
        omega
      have hn := val_take xs j (by omega)
      have HN := Lib.hid hn
      clear hn
      generalize val (xs.take j) = v at *
      generalize rd xs j = c at *
      go_wp2
      go_round
      case rel => exact ⟨j + 1, by omega, by go_num, by rw [HN.out, step_or v c hv.1 hv.2 hb.1 hb.2]⟩
      case measure => simp [intOf]; omega
    · have ej : j = 2 := by omega
      subst ej
      rw [HT.out]
      generalize hvx : val xs = v at *
      clear hvx
      have hm' := HM.out
      by_cases hbig : m ≥ 4611686018427387903
      · have hb : decide ((4611686018427387903 : Int) < IntKind.u64.wrap (wrap64 (m + 1))) = true := by
          rw [decide_eq_true_iff, IntKind.wrap_u64]
          have : m ≤ 9223372036854775807 := HB.out.2.2
          unfold wrap64; omega
        have e := HB.out.1 hbig
        subst e
        clear HM H HB HV HX HT hbig
        go_wp2
        go_ret2
        exact ⟨rfl, rfl⟩
      · obtain ⟨hm0, hr⟩ := HB.out.2.1 (by omega)
        have HR := Lib.hid hr
        clear hr HM H HB HX HT
        have hT : decide ((4611686018427387903 : Int) < m + 1) = false := by simp; omega
        have hm1 : m + 1 < 4611686018427387904 := by omega
        have E0 : 0 ≤ m + 1 := by omega
        clear hbig
        go_upto_region 9 with (fail)
        go_upto_region 10 with (fail)
        have hk := HR.out
        have HR2 := Lib.hid hk
        clear HR hk
        generalize m + 1 = E at *
        have hP := mask E v (8 * 2) (by omega) E0 hm1 HV.out.1 (by have := HV.out.2; simpa using this)
        have HE := Lib.hid (And.intro E0 hm1)
        clear E0 hm1 hm0
        go_upto_region 15 with (fail)
        have hP' : bits BinOp.or IntKind.u64 (bits BinOp.andNot IntKind.u64 E 65535) v = E - E % 65536 + v := hP
        clear hP
        have HP := Lib.hid hP'
        clear hP'
        generalize bits BinOp.or IntKind.u64 (bits BinOp.andNot IntKind.u64 E 65535) v = P at *
        have hv := HV.out
        have he := HE.out
        have hp := HP.out
        have w1 : IntKind.u64.wrap (P + 32768) = P + 32768 := by rw [IntKind.wrap_u64]; omega
        have w2 : IntKind.u64.wrap (E + 32768) = E + 32768 := by rw [IntKind.wrap_u64]; omega
        have w3 : IntKind.u64.wrap (P + 65536) = P + 65536 := by rw [IntKind.wrap_u64]; omega
        have W4 : 65536 ≤ P → IntKind.u64.wrap (P - 65536) = P - 65536 := fun _ => by rw [IntKind.wrap_u64]; omega
        have hr : R = (if P + 32768 ≤ E ∧ P < 4611686018427322368 then P + 65536 else if P > E + 32768 ∧ P ≥ 65536 then P - 65536 else P, 0) := by
          rw [HR2.out, hp]; rfl
        have HR3 := Lib.hid hr
        have H4 := Lib.hid W4
        clear hr W4 HR2 HP HE HV hp he hv
        by_cases hA : P + 32768 ≤ E
        · have hA1 : decide (P + 32768 ≤ E) = true := decide_eq_true hA
          by_cases hB : P < 4611686018427322368
          · have hB1 : decide (P < 4611686018427322368) = true := decide_eq_true hB
            have hr := HR3.out
            rw [if_pos ⟨hA, hB⟩] at hr
            have HR4 := Lib.hid hr
            clear hr HR3 H4 hA hB
            go_wp2
            go_ret2
            have e := HR4.out
            subst e
            exact ⟨rfl, rfl⟩
          · have hB1 : decide (P < 4611686018427322368) = false := decide_eq_false hB
            have hC1 : decide (E + 32768 < P) = false := decide_eq_false (by omega)
            have hr := HR3.out
            rw [if_neg (by omega), if_neg (by omega)] at hr
            have HR4 := Lib.hid hr
            clear hr HR3 H4 hA hB
            go_wp2
            go_ret2
            have e := HR4.out
            subst e
            exact ⟨rfl, rfl⟩
        · have hA1 : decide (P + 32768 ≤ E) = false := decide_eq_false hA
          by_cases hC : E + 32768 < P
          · have hC1 : decide (E + 32768 < P) = true := decide_eq_true hC
            by_cases hD : 65536 ≤ P
            · have hD1 : decide (65536 ≤ P) = true := decide_eq_true hD
              have hr := HR3.out
              rw [if_neg (by omega), if_pos ⟨hC, hD⟩] at hr
              have HR4 := Lib.hid hr
              have w4 := H4.out hD
              clear hr HR3 H4 hA hC hD
              go_wp2
              go_ret2
              have e := HR4.out
              subst e
              exact ⟨rfl, rfl⟩
            · have hD1 : decide (65536 ≤ P) = false := decide_eq_false hD
              have hr := HR3.out
              rw [if_neg (by omega), if_neg (by omega)] at hr
              have HR4 := Lib.hid hr
              clear hr HR3 H4 hA hC hD
              go_wp2
              go_ret2
              have e := HR4.out
              subst e
              exact ⟨rfl, rfl⟩
          · have hC1 : decide (E + 32768 < P) = false := decide_eq_false hC
            have hr := HR3.out
            rw [if_neg (by omega), if_neg (by omega)] at hr
            have HR4 := Lib.hid hr
            clear hr HR3 H4 hA hC
            go_wp2
            go_ret2
            have e := HR4.out
            subst e
            exact ⟨rfl, rfl⟩

set_option maxRecDepth 100000 in
set_option maxHeartbeats 2000000 in
theorem whole3 {w : World} {A : Option Addr} {cap : Nat} {xs : List Int} (hC : Kd.C (Kd.int .u8) w A xs.length xs) (hx : ∀ x ∈ xs, 0 ≤ x ∧ x ≤ 255) (h1 : xs.length = 3) (g m : Int) (hg : g ≤ 9223372036854775807) (hm : (if g < -1 then -1 else g) = m) :
    Calls Try.prog 17 #[.slice A xs.length cap, .int .i64 g] w fun e w' => e = .returned (.tuple #[.int .u64 (whole xs g).1, .int .i64 (whole xs g).2]) ∧ w = w' := by
  have hb := whole_eq xs g m (by omega) (by omega) hm hg
  rw [h1, show (256 : Int) ^ 3 = 16777216 from by decide] at hb
  have hv0 := val_bound xs hx xs.length (Nat.le_refl _)
  rw [List.take_length, h1] at hv0
  have hv : 0 ≤ val xs ∧ val xs < 16777216 := hv0
  clear hv0
  obtain ⟨ad, rfl, hcell⟩ : ∃ ad, A = some ad ∧ ∀ j : Nat, j < xs.length → w.cell? (ad.add j) = some (.int .u8 (rd xs j)) := by
    obtain ⟨ad, e, _⟩ := Kd.at_int hC 0 (by omega) (by omega)
    refine ⟨ad, e, fun j hj => ?_⟩
    obtain ⟨ad', e', h⟩ := Kd.at_int hC j (by omega) (by omega)
    rw [e] at e'
    injection e' with e'
    subst e'
    simpa using h
  clear hC
  have H := Lib.hid hcell
  have HB := Lib.hid hb
  have HV := Lib.hid hv
  have HX := Lib.hid hx
  have HM := Lib.hid hm
  clear hcell hb hv hx hm hg
  have hT : xs.take xs.length = xs := List.take_length
  rw [h1] at hT
  have HT := Lib.hid hT
  clear hT
  generalize hwr : whole xs g = R at *
  clear hwr
  go_enter Try.func17, Try.ntmps17
  go_wp2_with fail
  go_loop [6, 23] (fun v i => ∃ j : Nat, j ≤ xs.length ∧ i = .int .i64 j ∧ v = .int .u64 (val (xs.take j))) (fun _ i => xs.length - (intOf i).toNat)
  case atStart => exact ⟨0, Nat.zero_le _, rfl, rfl⟩
  case round =>
    obtain ⟨j, hj, rfl, rfl⟩ := hrel
    by_cases hlt : j < 3
    · have hc := H.out j (by omega)
      have hb := rd_in HX.out j
      have hv : 0 ≤ val (xs.take j) ∧ val (xs.take j) < 281474976710656 := by
        have := val_bound xs HX.out j (by omega)
        have h2 : (256 : Int) ^ j ≤ 256 ^ 6 := by
          have : j = 0 ∨ j = 1 ∨ j = 2 ∨ j = 3 := by omega
          rcases this with rfl | rfl | rfl | rfl <;> decide
        omega
      have hn := val_take xs j (by omega)
      have HN := Lib.hid hn
      clear hn
      generalize val (xs.take j) = v at *
      generalize rd xs j = c at *
      go_wp2
      go_round
      case rel => exact ⟨j + 1, by omega, by go_num, by rw [HN.out, step_or v c hv.1 hv.2 hb.1 hb.2]⟩
      case measure => simp [intOf]; omega
    · have ej : j = 3 := by omega
      subst ej
      rw [HT.out]
      generalize hvx : val xs = v at *
      clear hvx
      have hm' := HM.out
      by_cases hbig : m ≥ 4611686018427387903
      · have hb : decide ((4611686018427387903 : Int) < IntKind.u64.wrap (wrap64 (m + 1))) = true := by
          rw [decide_eq_true_iff, IntKind.wrap_u64]
          have : m ≤ 9223372036854775807 := HB.out.2.2
          unfold wrap64; omega
        have e := HB.out.1 hbig
        subst e
        clear HM H HB HV HX HT hbig
        go_wp2
        go_ret2
        exact ⟨rfl, rfl⟩
      · obtain ⟨hm0, hr⟩ := HB.out.2.1 (by omega)
        have HR := Lib.hid hr
        clear hr HM H HB HX HT
        have hT : decide ((4611686018427387903 : Int) < m + 1) = false := by simp; omega
        have hm1 : m + 1 < 4611686018427387904 := by omega
        have E0 : 0 ≤ m + 1 := by omega
        clear hbig
        go_upto_region 9 with (fail)
        go_upto_region 10 with (fail)
        have hk := HR.out
        have HR2 := Lib.hid hk
        clear HR hk
        generalize m + 1 = E at *
        have hP := mask E v (8 * 3) (by omega) E0 hm1 HV.out.1 (by have := HV.out.2; simpa using this)
        have HE := Lib.hid (And.intro E0 hm1)
        clear E0 hm1 hm0
        go_upto_region 15 with (fail)
        have hP' : bits BinOp.or IntKind.u64 (bits BinOp.andNot IntKind.u64 E 16777215) v = E - E % 16777216 + v := hP
        clear hP
        have HP := Lib.hid hP'
        clear hP'
        generalize bits BinOp.or IntKind.u64 (bits BinOp.andNot IntKind.u64 E 16777215) v = P at *
        have hv := HV.out
        have he := HE.out
        have hp := HP.out
        have w1 : IntKind.u64.wrap (P + 8388608) = P + 8388608 := by rw [IntKind.wrap_u64]; omega
        have w2 : IntKind.u64.wrap (E + 8388608) = E + 8388608 := by rw [IntKind.wrap_u64]; omega
        have w3 : IntKind.u64.wrap (P + 16777216) = P + 16777216 := by rw [IntKind.wrap_u64]; omega
        have W4 : 16777216 ≤ P → IntKind.u64.wrap (P - 16777216) = P - 16777216 := fun _ => by rw [IntKind.wrap_u64]; omega
        have hr : R = (if P + 8388608 ≤ E ∧ P < 4611686018410610688 then P + 16777216 else if P > E + 8388608 ∧ P ≥ 16777216 then P - 16777216 else P, 0) := by
          rw [HR2.out, hp]; rfl
        have HR3 := Lib.hid hr
        have H4 := Lib.hid W4
        clear hr W4 HR2 HP HE HV hp he hv
        by_cases hA : P + 8388608 ≤ E
        · have hA1 : decide (P + 8388608 ≤ E) = true := decide_eq_true hA
          by_cases hB : P < 4611686018410610688
          · have hB1 : decide (P < 4611686018410610688) = true := decide_eq_true hB
            have hr := HR3.out
            rw [if_pos ⟨hA, hB⟩] at hr
            have HR4 := Lib.hid hr
            clear hr HR3 H4 hA hB
            go_wp2
            go_ret2
            have e := HR4.out
            subst e
            exact ⟨rfl, rfl⟩
          · have hB1 : decide (P < 4611686018410610688) = false := decide_eq_false hB
            have hC1 : decide (E + 8388608 < P) = false := decide_eq_false (by omega)
            have hr := HR3.out
            rw [if_neg (by omega), if_neg (by omega)] at hr
            have HR4 := Lib.hid hr
            clear hr HR3 H4 hA hB
            go_wp2
            go_ret2
            have e := HR4.out
            subst e
            exact ⟨rfl, rfl⟩
        · have hA1 : decide (P + 8388608 ≤ E) = false := decide_eq_false hA
          by_cases hC : E + 8388608 < P
          · have hC1 : decide (E + 8388608 < P) = true := decide_eq_true hC
            by_cases hD : 16777216 ≤ P
            · have hD1 : decide (16777216 ≤ P) = true := decide_eq_true hD
              have hr := HR3.out
              rw [if_neg (by omega), if_pos ⟨hC, hD⟩] at hr
              have HR4 := Lib.hid hr
              have w4 := H4.out hD
              clear hr HR3 H4 hA hC hD
              go_wp2
              go_ret2
              have e := HR4.out
              subst e
              exact ⟨rfl, rfl⟩
            · have hD1 : decide (16777216 ≤ P) = false := decide_eq_false hD
              have hr := HR3.out
              rw [if_neg (by omega), if_neg (by omega)] at hr
              have HR4 := Lib.hid hr
              clear hr HR3 H4 hA hC hD
              go_wp2
              go_ret2
              have e := HR4.out
              subst e
              exact ⟨rfl, rfl⟩
          · have hC1 : decide (E + 8388608 < P) = false := decide_eq_false hC
            have hr := HR3.out
            rw [if_neg (by omega), if_neg (by omega)] at hr
            have HR4 := Lib.hid hr
            clear hr HR3 H4 hA hC
            go_wp2
            go_ret2
            have e := HR4.out
            subst e
            exact ⟨rfl, rfl⟩

set_option maxRecDepth 100000 in
set_option maxHeartbeats 2000000 in
theorem whole4 {w : World} {A : Option Addr} {cap : Nat} {xs : List Int} (hC : Kd.C (Kd.int .u8) w A xs.length xs) (hx : ∀ x ∈ xs, 0 ≤ x ∧ x ≤ 255) (h1 : xs.length = 4) (g m : Int) (hg : g ≤ 9223372036854775807) (hm : (if g < -1 then -1 else g) = m) :
    Calls Try.prog 17 #[.slice A xs.length cap, .int .i64 g] w fun e w' => e = .returned (.tuple #[.int .u64 (whole xs g).1, .int .i64 (whole xs g).2]) ∧ w = w' := by
  have hb := whole_eq xs g m (by omega) (by omega) hm hg
  rw [h1, show (256 : Int) ^ 4 = 4294967296 from by decide] at hb
  have hv0 := val_bound xs hx xs.length (Nat.le_refl _)
  rw [List.take_length, h1] at hv0
  have hv : 0 ≤ val xs ∧ val xs < 4294967296 := hv0
  clear hv0
  obtain ⟨ad, rfl, hcell⟩ : ∃ ad, A = some ad ∧ ∀ j : Nat, j < xs.length → w.cell? (ad.add j) = some (.int .u8 (rd xs j)) := by
    obtain ⟨ad, e, _⟩ := Kd.at_int hC 0 (by omega) (by omega)
    refine ⟨ad, e, fun j hj => ?_⟩
    obtain ⟨ad', e', h⟩ := Kd.at_int hC j (by omega) (by omega)
    rw [e] at e'
    injection e' with e'
    subst e'
    simpa using h
  clear hC
  have H := Lib.hid hcell
  have HB := Lib.hid hb
  have HV := Lib.hid hv
  have HX := Lib.hid hx
  have HM := Lib.hid hm
  clear hcell hb hv hx hm hg
  have hT : xs.take xs.length = xs := List.take_length
  rw [h1] at hT
  have HT := Lib.hid hT
  clear hT
  generalize hwr : whole xs g = R at *
  clear hwr
  go_enter Try.func17, Try.ntmps17
  go_wp2_with fail
  go_loop [6, 23] (fun v i => ∃ j : Nat, j ≤ xs.length ∧ i = .int .i64 j ∧ v = .int .u64 (val (xs.take j))) (fun _ i => xs.length - (intOf i).toNat)
  case atStart => exact ⟨0, Nat.zero_le _, rfl, rfl⟩
  case round =>
    obtain ⟨j, hj, rfl, rfl⟩ := hrel
    by_cases hlt : j < 4
    · have hc := H.out j (by omega)
      have hb := rd_in HX.out j
      have hv : 0 ≤ val (xs.take j) ∧ val (xs.take j) < 281474976710656 := by
        have := val_bound xs HX.out j (by omega)
        have h2 : (256 : Int) ^ j ≤ 256 ^ 6 := by
          have : j = 0 ∨ j = 1 ∨ j = 2 ∨ j = 3 := by omega
          rcases this with rfl | rfl | rfl | rfl <;> decide
        omega
      have hn := val_take xs j (by omega)
      have HN := Lib.hid hn
      clear hn
      generalize val (xs.take j) = v at *
      generalize rd xs j = c at *
      go_wp2
      go_round
      case rel => exact ⟨j + 1, by omega, by go_num, by rw [HN.out, step_or v c hv.1 hv.2 hb.1 hb.2]⟩
      case measure => simp [intOf]; omega
    · have ej : j = 4 := by omega
      subst ej
      rw [HT.out]
      generalize hvx : val xs = v at *
      clear hvx
      have hm' := HM.out
      by_cases hbig : m ≥ 4611686018427387903
      · have hb : decide ((4611686018427387903 : Int) < IntKind.u64.wrap (wrap64 (m + 1))) = true := by
          rw [decide_eq_true_iff, IntKind.wrap_u64]
          have : m ≤ 9223372036854775807 := HB.out.2.2
          unfold wrap64; omega
        have e := HB.out.1 hbig
        subst e
        clear HM H HB HV HX HT hbig
        go_wp2
        go_ret2
        exact ⟨rfl, rfl⟩
      · obtain ⟨hm0, hr⟩ := HB.out.2.1 (by omega)
        have HR := Lib.hid hr
        clear hr HM H HB HX HT
        have hT : decide ((4611686018427387903 : Int) < m + 1) = false := by simp; omega
        have hm1 : m + 1 < 4611686018427387904 := by omega
        have E0 : 0 ≤ m + 1 := by omega
        clear hbig
        go_upto_region 9 with (fail)
        go_upto_region 10 with (fail)
        have hk := HR.out
        have HR2 := Lib.hid hk
        clear HR hk
        generalize m + 1 = E at *
        have hP := mask E v (8 * 4) (by omega) E0 hm1 HV.out.1 (by have := HV.out.2; simpa using this)
        have HE := Lib.hid (And.intro E0 hm1)
        clear E0 hm1 hm0
        go_upto_region 15 with (fail)
        have hP' : bits BinOp.or IntKind.u64 (bits BinOp.andNot IntKind.u64 E 4294967295) v = E - E % 4294967296 + v := hP
        clear hP
        have HP := Lib.hid hP'
        clear hP'
        generalize bits BinOp.or IntKind.u64 (bits BinOp.andNot IntKind.u64 E 4294967295) v = P at *
        have hv := HV.out
        have he := HE.out
        have hp := HP.out
        have w1 : IntKind.u64.wrap (P + 2147483648) = P + 2147483648 := by rw [IntKind.wrap_u64]; omega
        have w2 : IntKind.u64.wrap (E + 2147483648) = E + 2147483648 := by rw [IntKind.wrap_u64]; omega
        have w3 : IntKind.u64.wrap (P + 4294967296) = P + 4294967296 := by rw [IntKind.wrap_u64]; omega
        have W4 : 4294967296 ≤ P → IntKind.u64.wrap (P - 4294967296) = P - 4294967296 := fun _ => by rw [IntKind.wrap_u64]; omega
        have hr : R = (if P + 2147483648 ≤ E ∧ P < 4611686014132420608 then P + 4294967296 else if P > E + 2147483648 ∧ P ≥ 4294967296 then P - 4294967296 else P, 0) := by
          rw [HR2.out, hp]; rfl
        have HR3 := Lib.hid hr
        have H4 := Lib.hid W4
        clear hr W4 HR2 HP HE HV hp he hv
        by_cases hA : P + 2147483648 ≤ E
        · have hA1 : decide (P + 2147483648 ≤ E) = true := decide_eq_true hA
          by_cases hB : P < 4611686014132420608
          · have hB1 : decide (P < 4611686014132420608) = true := decide_eq_true hB
            have hr := HR3.out
            rw [if_pos ⟨hA, hB⟩] at hr
            have HR4 := Lib.hid hr
            clear hr HR3 H4 hA hB
            go_wp2
            go_ret2
            have e := HR4.out
            subst e
            exact ⟨rfl, rfl⟩
          · have hB1 : decide (P < 4611686014132420608) = false := decide_eq_false hB
            have hC1 : decide (E + 2147483648 < P) = false := decide_eq_false (by omega)
            have hr := HR3.out
            rw [if_neg (by omega), if_neg (by omega)] at hr
            have HR4 := Lib.hid hr
            clear hr HR3 H4 hA hB
            go_wp2
            go_ret2
            have e := HR4.out
            subst e
            exact ⟨rfl, rfl⟩
        · have hA1 : decide (P + 2147483648 ≤ E) = false := decide_eq_false hA
          by_cases hC : E + 2147483648 < P
          · have hC1 : decide (E + 2147483648 < P) = true := decide_eq_true hC
            by_cases hD : 4294967296 ≤ P
            · have hD1 : decide (4294967296 ≤ P) = true := decide_eq_true hD
              have hr := HR3.out
              rw [if_neg (by omega), if_pos ⟨hC, hD⟩] at hr
              have HR4 := Lib.hid hr
              have w4 := H4.out hD
              clear hr HR3 H4 hA hC hD
              go_wp2
              go_ret2
              have e := HR4.out
              subst e
              exact ⟨rfl, rfl⟩
            · have hD1 : decide (4294967296 ≤ P) = false := decide_eq_false hD
              have hr := HR3.out
              rw [if_neg (by omega), if_neg (by omega)] at hr
              have HR4 := Lib.hid hr
              clear hr HR3 H4 hA hC hD
              go_wp2
              go_ret2
              have e := HR4.out
              subst e
              exact ⟨rfl, rfl⟩
          · have hC1 : decide (E + 2147483648 < P) = false := decide_eq_false hC
            have hr := HR3.out
            rw [if_neg (by omega), if_neg (by omega)] at hr
            have HR4 := Lib.hid hr
            clear hr HR3 H4 hA hC
            go_wp2
            go_ret2
            have e := HR4.out
            subst e
            exact ⟨rfl, rfl⟩

/-! BAD LENGTHS, AND THE CONTRACT -/
set_option maxRecDepth 100000 in
set_option maxHeartbeats 1000000 in
theorem whole_bad {w : World} {A : Option Addr} {cap : Nat} {xs : List Int} (h : xs.length < 1 ∨ 4 < xs.length) (hlen : xs.length ≤ 140737488355328) (g : Int) :
    Calls Try.prog 17 #[.slice A xs.length cap, .int .i64 g] w fun e w' => e = .returned (.tuple #[.int .u64 (whole xs g).1, .int .i64 (whole xs g).2]) ∧ w = w' := by
  have hr : whole xs g = (0, 6) := by unfold whole; rw [if_pos h]
  rw [hr]
  clear hr
  rcases h with h | h
  · go_enter Try.func17, Try.ntmps17
    go_wp2
    go_ret2
    exact ⟨rfl, rfl⟩
  · go_enter Try.func17, Try.ntmps17
    go_wp2
    go_ret2
    exact ⟨rfl, rfl⟩

theorem whole_calls {w : World} {A : Option Addr} {cap : Nat} {xs : List Int} (hC : Kd.C (Kd.int .u8) w A xs.length xs) (hx : ∀ x ∈ xs, 0 ≤ x ∧ x ≤ 255) (hlen : xs.length ≤ 140737488355328) (g : Int) (hg : g ≤ 9223372036854775807) :
    Calls Try.prog 17 #[.slice A xs.length cap, .int .i64 g] w fun e w' => e = .returned (.tuple #[.int .u64 (whole xs g).1, .int .i64 (whole xs g).2]) ∧ w = w' := by
  by_cases h : xs.length < 1 ∨ 4 < xs.length
  · exact whole_bad h hlen g
  · have h4 : xs.length = 1 ∨ xs.length = 2 ∨ xs.length = 3 ∨ xs.length = 4 := by omega
    rcases h4 with h4 | h4 | h4 | h4
    · exact whole1 hC hx h4 g _ hg rfl
    · exact whole2 hC hx h4 g _ hg rfl
    · exact whole3 hC hx h4 g _ hg rfl
    · exact whole4 hC hx h4 g _ hg rfl
end Go.Proofs.Ytloiihbhpmmaiaa.Whole
