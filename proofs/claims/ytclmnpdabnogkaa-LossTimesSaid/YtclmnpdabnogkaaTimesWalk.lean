/- The call of the law LossTimes answers true for every input, and nothing that was there has changed. No condition. -/
import Derived.Test.YtclmnpdabnogkaaTimesPure
import Derived.Test.YtclmnpdabnogkaaLossAwake
import Derived.Test.YtclmnpdabnogkaaLossList
namespace Go.Proofs.Ytclmnpdabnogkaa.TimesWalk
open Go.RowKit Go.Proofs.Ytclmnpdabnogkaa.PLossTimes Go.Proofs.Ytclmnpdabnogkaa.EvClone Go.Proofs.Ytclmnpdabnogkaa.LossIn Go.Proofs.Ytclmnpdabnogkaa.LossLed Go.Proofs.Ytclmnpdabnogkaa.LossCame Go.Proofs.Ytclmnpdabnogkaa.LossFind Go.Proofs.Ytclmnpdabnogkaa.LossSent Go.Proofs.Ytclmnpdabnogkaa.LossMore Go.Proofs.Ytclmnpdabnogkaa.LossList Go.Proofs.Ytclmnpdabnogkaa.TimesPure Go.Proofs.YtclmnpdabnogkaaW.PrintWords Go.Proofs.YtclmnpdabnogkaaW.PrintLast Go.Proofs.YtclmnpdabnogkaaW.PrintMore

/-- The time of the first j packets. -/
def tm (l : List Int) (j : Nat) : Int := (l.take j).sum
def pk (l : List Int) (j : Nat) : S56 := ⟨j, tm l (j + 1), 1, true, true⟩
def pks (l : List Int) (n : Nat) : List S56 := (List.range n).map (pk l)
theorem tm_succ (l : List Int) (j : Nat) (h : j < l.length) : tm l (j + 1) = tm l j + rd l j := by
  unfold tm rd
  rw [List.take_add_one, List.getElem?_eq_getElem h, Int.toNat_natCast, List.getD_eq_getElem?_getD, List.getElem?_eq_getElem h, List.sum_append]
  simp
theorem tm_bound (l : List Int) (hl : ∀ x ∈ l, 0 ≤ x ∧ x ≤ 65535) : ∀ j, j ≤ l.length → 0 ≤ tm l j ∧ tm l j ≤ j * 65535
  | 0, _ => by simp [tm]
  | j + 1, h => by
    have ih := tm_bound l hl j (by omega)
    have hx := hl (rd l j) (by unfold rd; rw [Int.toNat_natCast, List.getD_eq_getElem?_getD, List.getElem?_eq_getElem (by omega)]; exact List.getElem_mem _)
    rw [tm_succ l j (by omega)]
    omega
theorem pks_mem {l : List Int} {n : Nat} {p : S56} (h : p ∈ pks l n) : ∃ i, i < n ∧ p = pk l i := by
  obtain ⟨i, hi, rfl⟩ := List.mem_map.1 h
  exact ⟨i, List.mem_range.1 hi, rfl⟩
theorem pks_succ (l : List Int) (n : Nat) : pks l (n + 1) = pks l n ++ [pk l n] := by unfold pks; rw [List.range_succ, List.map_append]; rfl
theorem lost_meas (t v : Int) (_h0 : 0 ≤ t) (_h1 : t ≤ 4294967295) : ∃ D, rtt_Rtt_Lost.f t t t v true = some D := ⟨_, rfl⟩
theorem meas (t : Int) (h0 : 0 ≤ t) (h1 : t ≤ 4294967295) : rtt_Rtt_Measure.f 0 0 0 333000 166500 false t 0 0 = some (t, t, t, IntKind.u64.wrap (Int.tdiv t 2), true) := by
  have : mn t 1125899906842624 = t := by unfold mn; split <;> omega
  unfold rtt_Rtt_Measure.f
  rw [if_neg (by simp), this]

theorem pks_has (l : List Int) (n i : Nat) (h : i < n) : (((pks l n).filter (isx (i : Int))).length = 0) = False := by
  refine eq_false (fun h0 => ?_)
  have : pk l i ∈ (pks l n).filter (isx (i : Int)) := List.mem_filter.2 ⟨List.mem_map.2 ⟨i, List.mem_range.2 h, rfl⟩, by simp [isx, pk]⟩
  rw [List.eq_nil_of_length_eq_zero h0] at this
  cases this
theorem pks_small {l : List Int} {n : Nat} (hn : n ≤ 60) {p : S56} (h : p ∈ pks l n) : 0 ≤ p.f0 ∧ p.f0 ≤ 4611686018427387904 := by
  obtain ⟨i, hi, rfl⟩ := pks_mem h
  show 0 ≤ (i : Int) ∧ (i : Int) ≤ _
  omega
set_option maxRecDepth 100000 in
set_option maxHeartbeats 8000000 in
theorem walk {w : World} (A : Option Addr) (c : Nat) (l : List Int) (k now took : Int) (h : (Kd.int .u16).C w A l.length l) (hr : ∀ x ∈ l, 0 ≤ x ∧ x ≤ 65535) (hk : 0 ≤ k) (hk9 : k ≤ 255) (hn : 0 ≤ now) (hn9 : now ≤ 4294967295) (ht : 0 ≤ took) (ht9 : took ≤ 4294967295) :
    Calls Try.prog 7 #[.slice A l.length c, .int .u8 k, .int .u32 now, .int .u32 took] w fun e w' => e = .returned (.bool true) ∧ Below w.heap.size w w' := by
  have H := Lib.hid h
  have HR := Lib.hid hr
  clear h hr
  go_enter Try.func7, Try.ntmps7
  go_wp2_with fail
  refine (LossAwake.awake_calls w).mono ?_
  rintro e w1 ⟨rfl, hb1⟩
  have HB := Lib.hid hb1
  clear hb1
  by_cases hl1 : l.length > 60
  · have g1 : decide ((l.length : Int) > 60) = true := decide_eq_true (by omega)
    go_wp2_with fail
    go_ret
    exact ⟨rfl, HB.out⟩
  have g1 : decide ((l.length : Int) > 60) = false := decide_eq_false (by omega)
  by_cases hl0 : l.length = 0
  · have g2 : ((l.length : Int) == 0) = true := by simp [hl0]
    go_wp2_with fail
    go_ret
    exact ⟨rfl, HB.out⟩
  have g2 : ((l.length : Int) == 0) = false := beq_eq_false_iff_ne.2 (by omega)
  go_wp2_with fail
  refine (new_calls w1).mono ?_
  rintro e w2 ⟨rfl, hl2, hb2⟩
  have hww : w.heap.size ≤ w1.heap.size := HB.out.size
  generalize w1.heap.size = g at *
  have HL := Lib.hid hl2
  have HB2 := Lib.hid hb2
  clear hl2 hb2 g1 g2
  go_upto_region 8 with (fail)
  go_loopw [10, 33] (fun tv i wr => ∃ (j : Nat) (B : Option Addr) (d : Nat) (la : Int) (wt : Bool) (ls : Int) (sm : Bool), j ≤ l.length ∧ tv = .int .u64 (tm l j) ∧ i = .int .i64 j ∧ Led wr g g B d (pks l j) (-1) la wt ls sm ∧ Below g w1 wr) (fun _ i _ => l.length - (intOf i).toNat)
  case atStart => exact ⟨0, none, 0, 0, false, 0, false, Nat.zero_le _, rfl, rfl, HL.out, HB2.out⟩
  case round =>
    clear HL HB2
    obtain ⟨j, B, d, la, wt, ls, sm, hj, rfl, rfl, hl2, hb2⟩ := hrel
    have HL := Lib.hid hl2
    have HB2 := Lib.hid hb2
    clear hl2 hb2
    have hgr : g ≤ wr.heap.size := Nat.le_of_lt (blk_lt HL.out.blk)
    by_cases hjl : j < l.length
    · obtain ⟨ad, rfl, hc⟩ := Kd.at_int (Kd.C_below H.out (HB.out.trans (HB2.out.mono hww))) j (by omega) (by omega)
      rw [Int.toNat_natCast] at hc
      have hx := HR.out (rd l j) (by unfold rd; rw [Int.toNat_natCast, List.getD_eq_getElem?_getD, List.getElem?_eq_getElem hjl]; exact List.getElem_mem _)
      have HT := Lib.hid (tm_succ l j hjl)
      have hb := tm_bound l HR.out j hj
      generalize rd l j = x at *
      obtain ⟨tj, htj⟩ : ∃ tj, tm l j = tj := ⟨_, rfl⟩
      rw [htj] at HT hb ⊢
      have l1 : (j : Int) < (l.length : Int) := by omega
      clear htj
      go_wp2_with fail
      have hs := sent_calls HL.out hgr (j : Int) (tj + x) 1 (by
        intro y hy
        obtain ⟨i, hi, rfl⟩ := pks_mem hy
        show (i : Int) < j
        omega) (by unfold pks; simp; omega) (by omega) (by omega)
      refine hs.mono ?_
      clear hs
      rintro e w3 ⟨rfl, B', d', hl3, hb3⟩
      have HL3 := Lib.hid (show Led w3 g g B' d' (pks l (j + 1)) (-1) la wt (tj + x) true by rw [pks_succ, show pk l j = ⟨j, tj + x, 1, true, true⟩ by unfold pk; rw [HT.out]]; exact hl3)
      have HB3 := Lib.hid (HB2.out.trans hb3)
      clear hl3 hb3
      go_wp2_with fail
      go_roundw
      case rel => exact ⟨j + 1, B', d', la, wt, tj + x, true, by omega, by rw [HT.out], by go_num, HL3.out, HB3.out⟩
      case measure => simp [intOf]; omega
    · have hje : j = l.length := by omega
      subst hje
      have l1 : decide ((l.length : Int) < (l.length : Int)) = false := decide_eq_false (by omega)
      clear hj hjl
      go_wp2_with fail
      refine (rtt_New.calls 0 0 333000 166500 false wr rfl).mono ?_
      rintro e w3 ⟨rfl, hb3⟩
      have hl3 := HL.out.below hb3
      have hb3' := HB2.out.trans (hb3.mono hgr)
      clear HL HB2 hb3
      have HL := Lib.hid hl3
      have HB2 := Lib.hid hb3'
      clear hl3 hb3'
      go_wp2_with fail
      refine (rtt_Rtt_Measure.calls 0 0 0 333000 166500 false took 0 0 _ _ _ _ _ w3 (meas took ht ht9)).mono ?_
      rintro e w4 ⟨rfl, hb4⟩
      have hl4 := HL.out.below (below_step hb4 (below_alloc (Below.refl _ _) (RB took took took (IntKind.u64.wrap (Int.tdiv took 2)) true)))
      have hb4' := HB2.out.trans ((below_step hb4 (below_alloc (Below.refl _ _) (RB took took took (IntKind.u64.wrap (Int.tdiv took 2)) true))).mono (Nat.le_of_lt (blk_lt HL.out.blk)))
      have k4 := blk_new w4 (RB took took took (IntKind.u64.wrap (Int.tdiv took 2)) true)
      have hgr4 : g ≠ w4.heap.size := by have := blk_lt (blk_below HL.out.blk hb4); omega
      clear HL HB2 hb4
      obtain ⟨D0, hD⟩ := lost_meas took (IntKind.u64.wrap (Int.tdiv took 2)) ht ht9
      generalize IntKind.u64.wrap (Int.tdiv took 2) = tv at *
      have HD := Lib.hid hD
      clear hD
      go_upto_region 14 with (fail)
      show Code.wp _ _ _ _ (w4.alloc (RB took took took tv true))
      generalize w4.alloc (RB took took took tv true) = w5 at *
      generalize w4.heap.size = gr at *
      have HL := Lib.hid hl4
      have HB2 := Lib.hid hb4'
      have KR := Lib.hid k4
      clear hl4 hb4' k4
      obtain ⟨n, hn0⟩ : ∃ n, l.length = n := ⟨_, rfl⟩
      have hnn : IntKind.u64.wrap (n : Int) = n := by rw [IntKind.wrap_u64]; omega
      have hn1 : (0 : Int) < n := by omega
      have hn2 : ¬ (n : Int) = 0 := by omega
      rw [hn0] at HL l1
      go_upto_region 15 with (fail)
      obtain ⟨x, hx⟩ : ∃ x : Nat, k % (n : Int) = x := ⟨(k % (n : Int)).toNat, by have := Int.emod_nonneg k hn2; omega⟩
      have hxn : x < n := by have := Int.emod_lt_of_pos k hn1; omega
      rw [hx]
      have k6 := blk_new w5 (.cells #[.int .u64 (x : Int), .int .u64 ((x : Int) + 1)] 65)
      have hl6 := HL.out.below (below_alloc (Below.refl _ _) (.cells #[.int .u64 (x : Int), .int .u64 ((x : Int) + 1)] 65))
      have hb6 := HB2.out.trans ((below_alloc (Below.refl w5.heap.size w5) (.cells #[.int .u64 (x : Int), .int .u64 ((x : Int) + 1)] 65)).mono (Nat.le_of_lt (blk_lt HL.out.blk)))
      have kr6 := blk_below KR.out (below_alloc (Below.refl w5.heap.size w5) (.cells #[.int .u64 (x : Int), .int .u64 ((x : Int) + 1)] 65))
      have hx1 : (x : Int) + 1 ≤ 60 := by omega
      clear hx HL HB2 KR
      go_wp2_with fail
      generalize w5.alloc (.cells #[.int .u64 (x : Int), .int .u64 ((x : Int) + 1)] 65) = w6 at *
      have hcm := came_calls hl6 (Nat.le_of_lt (blk_lt hl6.blk)) (x : Int) (n : Int) w5.heap.size 1 (blk_cell k6 0) (blk_cell k6 1) (by omega) (by omega) (by omega) (by omega) (by omega) (fun p hp => pks_small (by omega) hp) (by unfold pks; simp; omega)
      refine hcm.mono ?_
      clear hcm
      rintro e w7 ⟨C1, B1, cc1, b1, m1, rfl, hl7, hb7, hk7⟩
      rw [if_neg (by rw [pks_has l n x hxn]; exact id), show max (-1) (x : Int) = x by omega] at hl7
      have hm7 : ∀ p ∈ (pks l n).filter (fun p => !isx (x : Int) p), 0 ≤ p.f0 ∧ p.f0 ≤ 4611686018427387904 := fun p hp => pks_small (l := l) (n := n) (by omega) (List.mem_filter.1 hp).1
      have hn7 : ((pks l n).filter (fun p => !isx (x : Int) p)).length ≤ 200 := Nat.le_trans (List.length_filter_le _ _) (by unfold pks; simp; omega)
      have HB2 := Lib.hid (hb6.trans hb7)
      have KR := Lib.hid (hk7.blk kr6 (fun h => hgr4 h.symm) (by simp))
      have HL := Lib.hid hl7
      have HM := Lib.hid hm7
      generalize (pks l n).filter (fun p => !isx (x : Int) p) = L1 at *
      generalize ((pks l n).filter (isx (x : Int))).length = nc at *
      clear hl7 hb7 hk7 hb6 kr6 hl6 k6 hm7
      obtain ⟨q0, q1, q2, q3, q4⟩ := rb_cells KR.out
      go_wp2_with fail
      refine (find_calls HL.out (Nat.le_of_lt (blk_lt HL.out.blk)) now took took took tv true D0 HD.out (by omega) (by omega) HM.out hn7).mono ?_
      rintro e w8 ⟨C2, B2, cc2, b2, rfl, _, hl8, hb8, hk8⟩
      obtain ⟨m, hm⟩ : ∃ m, (L1.foldl (nxt (x : Int) now D0) (la, false)).1 = m := ⟨_, rfl⟩
      obtain ⟨wt2, hwt⟩ : ∃ wt2, (L1.foldl (nxt (x : Int) now D0) (la, false)).2 = wt2 := ⟨_, rfl⟩
      rw [hm, hwt] at hl8
      have hb8' := HB2.out.trans hb8
      have kr8 := hk8.blk KR.out (fun h => hgr4 h.symm) (by simp)
      have hn8 : (L1.filter (fun p => !isLost (x : Int) now D0 p)).length ≤ 200 := Nat.le_trans (List.length_filter_le _ _) hn7
      have hmm : ∀ p ∈ L1.filter (fun p => !isLost (x : Int) now D0 p), 0 ≤ p.f0 ∧ p.f0 ≤ 4611686018427387904 := fun p hp => HM.out p (List.mem_filter.1 hp).1
      have HNO := Lib.hid (show wt2 = false → ∀ p ∈ L1.filter (fun p => !isLost (x : Int) now D0 p), (x : Int) < p.f0 from fun h => none_waits (by omega) (hwt.trans h))
      have HYES := Lib.hid (show wt2 = true → _ from fun h => one_waits hn (hwt.trans h) hm)
      clear HB2 KR HL HM hm hwt hb8 hk8 q0 q1 q2 q3 q4
      generalize (L1.filter (isLost (x : Int) now D0)).length = nl at *
      generalize L1.filter (fun p => !isLost (x : Int) now D0 p) = L2 at *
      have HB2 := Lib.hid hb8'
      have KR := Lib.hid kr8
      have HL := Lib.hid hl8
      have HM := Lib.hid hmm
      clear hb8' kr8 hl8 hmm
      go_wp2_with fail
      obtain ⟨av, hav⟩ : ∃ av, (if wt2 = true then m else 0) = av := ⟨_, rfl⟩
      have hat := at_calls HL.out.blk
      rw [hav] at hat
      have HAV := Lib.hid hav
      refine hat.mono ?_
      clear hat hav
      rintro e w9 ⟨rfl, rfl⟩
      go_wp2_with fail
      refine (list_calls HL.out.blk (Kd.Q_reads' HL.out.q).2.2 hn8).mono ?_
      rintro e w10 ⟨B3, b3, rfl, _, _, hb10⟩
      have hl10 := HL.out.below hb10
      have hb10' := HB2.out.trans (hb10.mono (Nat.le_of_lt (blk_lt HL.out.blk)))
      have kr10 := blk_below KR.out hb10
      clear HL HB2 KR hb10
      have HL := Lib.hid hl10
      have HB2 := Lib.hid hb10'
      have KR := Lib.hid kr10
      clear hl10 hb10' kr10
      cases wt2 with
      | false =>
        have hn2' := HNO.out rfl
        have HN2 := Lib.hid hn2'
        clear HYES HNO hn2'
        go_wp2_with fail
        refine (list_calls HL.out.blk (Kd.Q_reads' HL.out.q).2.2 hn8).mono ?_
        rintro e w11 ⟨B4, b4, rfl, _, hc11, hb11⟩
        have HC := Lib.hid hc11
        have hs11 := hb11.size
        have HE := Lib.hid (HB2.out.trans (hb11.mono (Nat.le_of_lt (blk_lt HL.out.blk))))
        clear hc11 hb11
        go_upto_region 21 with (fail)
        go_loopw [87] (fun i wy => ∃ j : Nat, j ≤ L2.length ∧ i = .int .i64 j ∧ Below w11.heap.size w11 wy) (fun i _ => L2.length - (intOf i).toNat)
        case atStart => exact ⟨0, Nat.zero_le _, rfl, Below.refl _ _⟩
        case round =>
          obtain ⟨j, hj, rfl, hby⟩ := hrel
          have HC2 := Lib.hid (Kd.C_below HC.out hby)
          have HY := Lib.hid hby
          clear hby
          by_cases hjl : j < L2.length
          · have e1 : (j : Int) < (L2.length : Int) := by omega
            obtain ⟨ad, rfl, p0, p1, p2, p3, p4⟩ := at_T56 HC2.out (j : Int) (by omega) (by omega)
            rw [Int.toNat_natCast] at p0 p1 p2 p3 p4
            have hp := HN2.out (rd_T56 L2 j) (by unfold rd_T56; rw [Int.toNat_natCast, List.getD_eq_getElem?_getD, List.getElem?_eq_getElem hjl]; exact List.getElem_mem _)
            generalize rd_T56 L2 j = p at *
            go_upto_region 23 with (fail)
            have kp := (pk_cells (blk_new wr (PK p))).1
            have HY2 := Lib.hid (below_step HY.out (below_alloc (Below.refl wr.heap.size wr) (PK p)))
            show Code.wp _ _ _ _ (wr.alloc (PK p))
            generalize wr.alloc (PK p) = wz at *
            have e2 : decide (p.f0 < (x : Int)) = false := decide_eq_false (by omega)
            clear HC2 HY p0 p1 p2 p3 p4
            go_wp2_with fail
            go_roundw
            case rel => exact ⟨j + 1, hjl, by go_num, HY2.out⟩
            case measure => simp [intOf]; omega
          · have hje : j = L2.length := by omega
            subst hje
            have e1 : decide ((L2.length : Int) < (L2.length : Int)) = false := decide_eq_false (by omega)
            have HF := Lib.hid (HB.out.trans ((HE.out.trans (HY.out.mono (by have := blk_lt HL.out.blk; omega))).mono hww))
            go_wp2_with fail
            go_ret
            exact ⟨rfl, HF.out⟩
      | true =>
        obtain rfl : m = av := HAV.out
        obtain ⟨⟨h1, h2⟩, h3, h4, h5⟩ := HYES.out rfl
        have H3 := Lib.hid h3
        have H4 := Lib.hid h4
        have H5 := Lib.hid h5
        clear h3 h4 h5 HNO HYES HAV
        obtain ⟨q0, q1, q2, q3, q4⟩ := rb_cells KR.out
        have g5 : decide (m ≤ now) = false := decide_eq_false (by omega)
        have g6 : 0 ≤ m - 1 := by omega
        go_wp2_with fail
        refine (find_calls HL.out (Nat.le_of_lt (blk_lt HL.out.blk)) (m - 1) took took took tv true D0 HD.out (by omega) (by omega) HM.out hn8).mono ?_
        rintro e w11 ⟨C3, B4, cc3, b4, rfl, _, hl11, hb11, hk11⟩
        rw [H4.out] at hl11
        rw [H3.out]
        have hb11' := HB2.out.trans hb11
        have kr11 := hk11.blk KR.out (fun h => hgr4 h.symm) (by simp)
        clear HB2 KR HL hb11 hk11 q0 q1 q2 q3 q4
        have HL := Lib.hid hl11
        have HB2 := Lib.hid hb11'
        have KR := Lib.hid kr11
        clear hl11 hb11' kr11
        go_wp2_with fail
        refine (list_calls HL.out.blk (Kd.Q_reads' HL.out.q).2.2 hn8).mono ?_
        rintro e w12 ⟨B5, b5, rfl, _, _, hb12⟩
        have hl12 := HL.out.below hb12
        have hb12' := HB2.out.trans (hb12.mono (Nat.le_of_lt (blk_lt HL.out.blk)))
        have kr12 := blk_below KR.out hb12
        clear HL HB2 KR hb12
        have HL := Lib.hid hl12
        have HB2 := Lib.hid hb12'
        have KR := Lib.hid kr12
        clear hl12 hb12' kr12
        obtain ⟨q0, q1, q2, q3, q4⟩ := rb_cells KR.out
        go_wp2_with fail
        refine (find_calls HL.out (Nat.le_of_lt (blk_lt HL.out.blk)) m took took took tv true D0 HD.out (by omega) (by omega) HM.out hn8).mono ?_
        rintro e w13 ⟨C4, B6, cc4, b6, rfl, _, hl13, hb13, hk13⟩
        have HF := Lib.hid (HB.out.trans ((HB2.out.trans hb13).mono hww))
        have hl5 := H5.out
        generalize (L2.filter (isLost (x : Int) m D0)).length = n5 at *
        have g7 : (0 : Int) < (n5 : Int) := by omega
        clear hl13 hb13 hk13
        go_wp2_with fail
        go_ret
        exact ⟨rfl, HF.out⟩
theorem rowWalk {W : World} (A : Option Addr) (len cap : Nat) (xs : List Int) (hl : xs.length = len) (_hc : len ≤ cap) (h : (Kd.int .u16).C W A len xs) (wf : xs.length * 2 ≤ reachBytes ∧ ∀ y ∈ xs, (Lit.int .u16 y).wf = true)
    (k : Int) (wk : (Lit.int .u8 k).wf = true) (now : Int) (wn : (Lit.int .u32 now).wf = true) (took : Int) (wt : (Lit.int .u32 took).wf = true) :
    Calls Try.prog 7 #[.slice A len cap, .int .u8 k, .int .u32 now, .int .u32 took] W fun e w' => e = .returned (.bool true) ∧ Below W.heap.size W w' := by
  subst hl
  have b1 := bounds_u8 wk
  have b2 := bounds_u32 wn
  have b3 := bounds_u32 wt
  exact walk A cap xs k now took h (fun x hx => bounds_u16 (wf.2 x hx)) b1.1 b1.2 b2.1 b2.2 b3.1 b3.2
end Go.Proofs.Ytclmnpdabnogkaa.TimesWalk
