/- The call of the law EventChecks answers true for every input, and nothing that was there has changed. No condition. -/
import Derived.Test.YtclmnpdabnogkaaFitWalk
import Derived.Test.YtclmnpdabnogkaaChkPure
namespace Go.Proofs.Ytclmnpdabnogkaa.ChecksWalk
open Go.RowKit Go.Proofs.Ytclmnpdabnogkaa.PEventChecks Go.Proofs.Ytclmnpdabnogkaa.EvPure Go.Proofs.Ytclmnpdabnogkaa.EvCalls Go.Proofs.Ytclmnpdabnogkaa.EvClone Go.Proofs.Ytclmnpdabnogkaa.EvLight Go.Proofs.Ytclmnpdabnogkaa.EvOwn Go.Proofs.Ytclmnpdabnogkaa.FitWalk Go.Proofs.Ytclmnpdabnogkaa.ChkPure Go.Proofs.YtclmnpdabnogkaaW.PrintWords Go.Proofs.YtclmnpdabnogkaaW.PrintLast Go.Proofs.YtclmnpdabnogkaaW.PrintMore

set_option maxRecDepth 100000 in
set_option maxHeartbeats 4000000 in
theorem walk {w : World} (k a : Int) (A2 A3 : Option Addr) (c2 c3 : Nat) (l2 l3 : List Int) (kk : Int) (h2 : (Kd.int .u64).C w A2 l2.length l2) (hc2 : l2.length ≤ c2) (h3 : (Kd.int .u8).C w A3 l3.length l3) (hc3 : l3.length ≤ c3)
    (hk : 0 ≤ k) (hk9 : k ≤ 255) (ha : 0 ≤ a) (ha9 : a ≤ 18446744073709551615) (hkk : 0 ≤ kk) (hkk9 : kk ≤ 255) (hr2 : ∀ x ∈ l2, 0 ≤ x ∧ x ≤ 18446744073709551615) :
    Calls Try.prog 5 #[.agg #[.int .u8 k, .int .u64 a, .slice A2 l2.length c2, .slice A3 l3.length c3], .int .u8 kk] w fun e w' => e = .returned (.bool true) ∧ Below w.heap.size w w' := by
  have H2 := Lib.hid h2
  have H3 := Lib.hid h3
  have HR2 := Lib.hid hr2
  clear h2 h3 hr2
  go_enter Try.func5, Try.ntmps5
  go_upto_region 1 with (fail)
  have k1 := blk_new w (EvOwn.Ev k a A2 l2.length c2 A3 l3.length c3)
  have hb1 := below_alloc (Below.refl w.heap.size w) (EvOwn.Ev k a A2 l2.length c2 A3 l3.length c3)
  show Code.wp _ _ _ _ (w.alloc (EvOwn.Ev k a A2 l2.length c2 A3 l3.length c3))
  generalize w.alloc (EvOwn.Ev k a A2 l2.length c2 A3 l3.length c3) = w1 at *
  have HB := Lib.hid hb1
  have K1 := Lib.hid k1
  clear hb1 k1
  go_wp2_with fail
  refine (awake_calls _).mono ?_
  rintro e w2 ⟨rfl, hb2⟩
  have k1 := blk_below K1.out hb2
  have hb := below_step HB.out hb2
  clear K1 HB hb2
  have K1 := Lib.hid k1
  have HB := Lib.hid hb
  clear k1 hb
  obtain ⟨a0, a1, a2, a3⟩ := ev_cells K1.out
  go_wp2_with fail
  have hl := light_one k a A2 A3 c2 c3 l2 l3 _ _ (blk_new w2 _) (Kd.C_below H2.out (below_alloc HB.out _)) hc2 (Kd.C_below H3.out (below_alloc HB.out _)) hc3
  refine hl.mono ?_
  clear hl
  rintro e w3 ⟨rfl, hb3⟩
  have hb := below_step (below_alloc HB.out _) hb3
  have k1 := blk_below (blk_alloc K1.out _) hb3
  clear a0 a1 a2 a3 K1 HB hb3
  have K1 := Lib.hid k1
  have HB := Lib.hid hb
  clear k1 hb
  obtain ⟨lt, hlt⟩ : ∃ lt, sh ⟨k, a, l2, l3⟩ = lt := ⟨_, rfl⟩
  rw [hlt]
  cases lt with
  | false =>
    go_wp2_with fail
    go_ret
    exact ⟨rfl, HB.out⟩
  | true =>
    have hlen : l2.length ≤ 30 ∧ l3.length ≤ 100 := by simpa [sh] using hlt
    clear hlt
    obtain ⟨n1, n2⟩ := hlen
    obtain ⟨a0, a1, a2, a3⟩ := ev_cells K1.out
    go_wp2_with fail
    refine (many_all k hk hk9 _).mono ?_
    rintro e w4 ⟨m, d, rfl, hmc, hb4⟩
    have hb := below_step HB.out hb4
    have k1 := blk_below K1.out hb4
    clear a0 a1 a2 a3 K1 HB hb4
    have K1 := Lib.hid k1
    have HB := Lib.hid hb
    have HM := Lib.hid hmc
    clear k1 hb hmc
    obtain ⟨a0, a1, a2, a3⟩ := ev_cells K1.out
    go_upto_region 13 with (fail)
    go_loopw [8, 26] (fun v i wr => ∃ j : Nat, j ≤ l2.length ∧ v = .bool (gt l2 j) ∧ i = .int .i64 j ∧ Below w4.heap.size w4 wr) (fun _ i _ => l2.length - (intOf i).toNat)
    case atStart => exact ⟨0, Nat.zero_le _, by simp [gt], rfl, Below.refl _ _⟩
    case round =>
      obtain ⟨j, hj, rfl, rfl, hb⟩ := hrel
      have k1 := blk_below K1.out hb
      have HW := Lib.hid hb
      have hb := below_step HB.out hb
      have K5 := Lib.hid k1
      have HB5 := Lib.hid hb
      clear k1 hb a0 a1 a2 a3
      by_cases hjl : j < l2.length
      · obtain ⟨ad, rfl, hc⟩ := Kd.at_int (Kd.C_below H2.out HB5.out) j (by omega) (by omega)
        rw [Int.toNat_natCast] at hc
        have HS := Lib.hid (gt_succ l2 j hjl)
        have l1 : (j : Int) < (l2.length : Int) := by omega
        generalize rd l2 j = x at *
        generalize gt l2 j = g0 at *
        cases g0 with
        | true =>
          go_wp2_with fail
          go_roundw
          case rel => exact ⟨j + 1, by omega, by rw [HS.out]; rfl, by go_num, HW.out⟩
          case measure => simp [intOf]; omega
        | false =>
          by_cases hx : 4611686018427387903 < x
          · have hx' : decide (4611686018427387903 < x) = true := by simpa using hx
            clear hx
            go_wp2_with fail
            go_roundw
            case rel => exact ⟨j + 1, by omega, by rw [HS.out, hx']; rfl, by go_num, HW.out⟩
            case measure => simp [intOf]; omega
          · have hx' : decide (4611686018427387903 < x) = false := by simpa using hx
            clear hx
            go_wp2_with fail
            go_roundw
            case rel => exact ⟨j + 1, by omega, by rw [HS.out, hx']; rfl, by go_num, HW.out⟩
            case measure => simp [intOf]; omega
      · have hje : j = l2.length := by omega
        subst hje
        have l1 : decide ((l2.length : Int) < (l2.length : Int)) = false := decide_eq_false (by omega)
        clear K1 HB HW hjl
        obtain ⟨a0, a1, a2, a3⟩ := ev_cells K5.out
        have hm9 : -1 ≤ m ∧ m ≤ 8 := by
          rcases HM.out with ⟨t, ht, _, rfl, _⟩ | ⟨_, rfl, _⟩
          · have := row_short t ht; unfold EvPure.mn at *; omega
          · omega
        have HGE : ∃ ge, gt l2 l2.length = ge := ⟨_, rfl⟩
        obtain ⟨ge, hge⟩ := HGE
        obtain ⟨wv, hwv⟩ : ∃ wv, wt m d a l2 l3 = wv := ⟨_, rfl⟩
        have HWV := Lib.hid hwv
        unfold wt at hwv
        rw [hge] at hwv
        rw [hge]
        go_upto_block 2 with (fail)
        go_cut [7] (fun v wx => v = .int .i64 wv ∧ Below wr.heap.size wr wx)
        case first =>
          by_cases h1 : m < 0
          · have g1 : decide (m < 0) = true := decide_eq_true h1
            rw [if_pos h1] at hwv
            clear h1
            have HWW := Lib.hid hwv
            clear hwv
            go_wp2_with fail
            go_meet
            case rel => exact ⟨by rw [← HWW.out], Below.refl _ _⟩
          rw [if_neg h1] at hwv
          have g1 : decide (m < 0) = false := decide_eq_false h1
          by_cases h2 : a > 1125899906842624
          · have g2 : decide (1125899906842624 < a) = true := decide_eq_true h2
            rw [if_pos h2] at hwv
            clear h1 h2
            have HWW := Lib.hid hwv
            clear hwv
            go_wp2_with fail
            go_meet
            case rel => exact ⟨by rw [← HWW.out], Below.refl _ _⟩
          rw [if_neg h2] at hwv
          have g2 : decide (1125899906842624 < a) = false := decide_eq_false h2
          by_cases h3 : (l2.length : Int) ≠ m
          · have g3 : ((l2.length : Int) != m) = true := by simpa using h3
            rw [if_pos h3] at hwv
            clear h1 h2 h3
            have HWW := Lib.hid hwv
            clear hwv
            go_wp2_with fail
            go_meet
            case rel => exact ⟨by rw [← HWW.out], Below.refl _ _⟩
          rw [if_neg h3] at hwv
          have g3 : ((l2.length : Int) != m) = false := by simpa using h3
          by_cases h4 : (l3.length : Int) > 20
          · have g4 : decide ((20 : Int) < (l3.length : Int)) = true := decide_eq_true h4
            rw [if_pos (Or.inl h4)] at hwv
            clear h1 h2 h3 h4
            have HWW := Lib.hid hwv
            clear hwv
            go_wp2_with fail
            go_meet
            case rel => exact ⟨by rw [← HWW.out], Below.refl _ _⟩
          have g4 : decide ((20 : Int) < (l3.length : Int)) = false := decide_eq_false h4
          cases d with
          | true =>
            rw [if_neg (by first | (rintro (h | ⟨_, h⟩) <;> omega) | (rintro (h | ⟨h, _⟩); omega; cases h))] at hwv
            clear h1 h2 h3 h4
            cases ge with
            | true =>
              rw [if_pos rfl] at hwv
              have HWW := Lib.hid hwv
              clear hwv
              go_wp2_with fail
              go_meet
              case rel => exact ⟨by rw [← HWW.out], Below.refl _ _⟩
            | false =>
              rw [if_neg (by simp)] at hwv
              have HWW := Lib.hid hwv
              clear hwv
              go_wp2_with fail
              go_meet
              case rel => exact ⟨by rw [← HWW.out], Below.refl _ _⟩
          | false =>
            by_cases h5 : (l3.length : Int) > 0
            · have g5 : 0 < l3.length := by omega
              rw [if_pos (Or.inr ⟨rfl, h5⟩)] at hwv
              clear h1 h2 h3 h4 h5
              have HWW := Lib.hid hwv
              clear hwv
              go_wp2_with fail
              go_meet
              case rel => exact ⟨by rw [← HWW.out], Below.refl _ _⟩
            · have g5 : ¬ 0 < l3.length := by omega
              rw [if_neg (by first | (rintro (h | ⟨_, h⟩) <;> omega) | (rintro (h | ⟨h, _⟩); omega; cases h))] at hwv
              clear h1 h2 h3 h4 h5
              cases ge with
              | true =>
                rw [if_pos rfl] at hwv
                have HWW := Lib.hid hwv
                clear hwv
                go_wp2_with fail
                go_meet
                case rel => exact ⟨by rw [← HWW.out], Below.refl _ _⟩
              | false =>
                rw [if_neg (by simp)] at hwv
                have HWW := Lib.hid hwv
                clear hwv
                go_wp2_with fail
                go_meet
                case rel => exact ⟨by rw [← HWW.out], Below.refl _ _⟩
        case rest =>
          obtain ⟨rfl, hbx⟩ := hcut
          have hb6 := below_step HB5.out hbx
          have k6 := blk_below K5.out hbx
          clear K5 HB5 hbx a0 a1 a2 a3 hb hwv hge
          have HB := Lib.hid hb6
          have K1 := Lib.hid k6
          clear hb6 k6
          obtain ⟨a0, a1, a2, a3⟩ := ev_cells K1.out
          go_wp2_with fail
          refine (check_calls k a A2 A3 c2 c3 l2 l3 m d _ (Kd.C_below H2.out HB.out) hc2 (Kd.C_below H3.out HB.out) hc3 (by omega) HM.out).mono ?_
          rintro e w7 ⟨rfl, hb7⟩
          rw [HWV.out]
          have hb := below_step HB.out hb7
          have k1 := blk_below K1.out hb7
          clear a0 a1 a2 a3 K1 HB hb7
          have K1 := Lib.hid k1
          have HB := Lib.hid hb
          clear k1 hb
          obtain ⟨a0, a1, a2, a3⟩ := ev_cells K1.out
          have ge1 : (wv == wv) = true := by simp
          go_wp2_with fail
          refine (fit_calls k a A2 A3 c2 c3 l2 l3 kk _ (Kd.C_below H2.out HB.out) (Kd.C_below H3.out HB.out) n1 n2 ha ha9 hkk hkk9 HR2.out).mono ?_
          rintro e w8 ⟨B2, B3, d2, d3, m2, m3, rfl, ⟨q1, q2, q3, q4⟩, q5, q6, q7, q8, hb8⟩
          have hb := below_step HB.out hb8
          clear a0 a1 a2 a3 K1 HB hb8
          have HB := Lib.hid hb
          clear hb
          obtain ⟨t, ht⟩ : ∃ t : Nat, kk % 19 = t := ⟨(kk % 19).toNat, by omega⟩
          rw [ht, Int.toNat_natCast] at q1 q4
          have hw0 : wt (EvPure.mn t) (dt t) (a % 1125899906842625) m2 m3 = 0 := by
            have hg : gt m2 m2.length = false := by
              cases h : gt m2 m2.length with
              | false => rfl
              | true =>
                unfold gt at h
                rw [List.take_length] at h
                obtain ⟨x, hx, hp⟩ := List.any_eq_true.1 h
                have := q2 x hx
                simp at hp
                omega
            unfold wt
            rw [if_neg (by omega), if_neg (by omega), if_neg (by simpa using q1), if_neg, hg]
            · rfl
            · rintro (h | ⟨h, h'⟩)
              · omega
              · have := q4 h; omega
          have HW0 := Lib.hid hw0
          clear hw0
          go_wp2_with fail
          refine (check_calls ((t : Int) + 1) (a % 1125899906842625) B2 B3 d2 d3 m2 m3 (EvPure.mn t) (dt t) _ q5 q6 q7 q8 (by have := row_short t (by omega); unfold EvPure.mn at *; omega) (.inl ⟨t, by omega, rfl, rfl, rfl⟩)).mono ?_
          rw [HW0.out]
          rintro e w9 ⟨rfl, hb9⟩
          have HE := Lib.hid (below_step HB.out hb9)
          clear q1 q2 q3 q4 q5 q6 q7 q8 hb9
          go_wp2_with fail
          go_ret
          exact ⟨rfl, HE.out⟩
theorem rowWalk {W : World} (cs0 : Array Value) (x : S40) (K0 : k40.K W x cs0.toList)
    (w0 : (Lit.int .u8 x.f0).wf = true ∧ (Lit.int .u64 x.f1).wf = true ∧ (x.f2.length * 8 ≤ reachBytes ∧ ∀ y ∈ x.f2, (Lit.int .u64 y).wf = true) ∧ (x.f3.length * 1 ≤ reachBytes ∧ ∀ y ∈ x.f3, (Lit.int .u8 y).wf = true))
    (k : Int) (wk : (Lit.int .u8 k).wf = true) :
    Calls Try.prog 5 #[.agg cs0, .int .u8 k] W fun e w' => e = .returned (.bool true) ∧ Below W.heap.size W w' := by
  obtain ⟨A2, c2, A3, c3, e0, h2, g2, h3, g3⟩ := k40_open K0
  obtain rfl : cs0 = #[.int .u8 x.f0, .int .u64 x.f1, .slice A2 x.f2.length c2, .slice A3 x.f3.length c3] := Array.toList_inj.1 e0
  have ka := bounds_u8 w0.1
  have aa := bounds_u64 w0.2.1
  have kk := bounds_u8 wk
  exact walk x.f0 x.f1 A2 A3 c2 c3 x.f2 x.f3 k g2 h2 g3 h3 ka.1 ka.2 aa.1 aa.2 kk.1 kk.2 (fun z hz => bounds_u64 (w0.2.2.1.2 z hz))
end Go.Proofs.Ytclmnpdabnogkaa.ChecksWalk
