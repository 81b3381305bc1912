/- The call of the law SpanAsks answers true for every input, and nothing that was there has changed. No condition. -/
import Derived.Test.YtiohjnhbapbglaaAsksPure
namespace Go.Proofs.Ytiohjnhbapbglaa.AsksWalk
open Go.RowKit Go.Proofs.Ytiohjnhbapbglaa.PSpanPlays Go.Proofs.Ytiohjnhbapbglaa.SpPure Go.Proofs.Ytiohjnhbapbglaa.SpLaw Go.Proofs.Ytiohjnhbapbglaa.SpSet Go.Proofs.Ytiohjnhbapbglaa.SpFind Go.Proofs.Ytiohjnhbapbglaa.SpCut Go.Proofs.Ytiohjnhbapbglaa.PartsPure Go.Proofs.Ytiohjnhbapbglaa.SpAct Go.Proofs.Ytiohjnhbapbglaa.SpCount Go.Proofs.Ytiohjnhbapbglaa.AsksPure Go.Proofs.YtiohjnhbapbglaaW.PrintWords Go.Proofs.YtiohjnhbapbglaaW.PrintLast Go.Proofs.YtiohjnhbapbglaaW.PrintMore

set_option maxRecDepth 100000 in
set_option maxHeartbeats 8000000 in
theorem walk {w : World} (A : Option Addr) (c : Nat) (acts : List S30) (r0_ : S28) (h : Kd.C k30 w A acts.length acts) (hr : ∀ x ∈ acts, Ok30 x) (hal : acts.length ≤ 140737488351232) (hr0 : 0 ≤ r0_.f0) (hr9 : r0_.f1 ≤ 18446744073709551615) :
    Calls Try.prog 4 #[.slice A acts.length c, .agg #[.int .u64 r0_.f0, .int .u64 r0_.f1]] w fun e w' => e = .returned (.bool true) ∧ Below w.heap.size w w' := by
  have kb := blk_new w (RG r0_)
  have hb0 := below_alloc (Below.refl w.heap.size w) (RG r0_)
  have hsz0 : w.heap.size < (w.alloc (RG r0_)).heap.size := blk_lt kb
  have H := Lib.hid h
  have HR := Lib.hid hr
  clear h hr
  go_enter Try.func4, Try.ntmps4
  go_upto_region 1 with (fail)
  show Code.wp _ _ _ _ (w.alloc (RG r0_))
  generalize w.alloc (RG r0_) = wa at *
  have HB0 := Lib.hid hb0
  have KB := Lib.hid kb
  clear hb0 kb
  go_wp2_with fail
  refine (SpAsk.awake_calls wa).mono ?_
  rintro e w1 ⟨rfl, hb1⟩
  have HB := Lib.hid (below_step HB0.out hb1)
  have KB1 := Lib.hid (blk_below KB.out hb1)
  have hsz1 : w.heap.size < w1.heap.size := blk_lt KB1.out
  clear hb1 HB0 KB hsz0
  go_wp2_with fail
  refine (new_calls 1000 w1).mono ?_
  rintro e w2 ⟨rfl, hs2, hb2⟩
  have hww : w.heap.size ≤ w1.heap.size := HB.out.size
  generalize w1.heap.size = g at *
  have HS := Lib.hid (show St w2 g g none 0 [] 1000 from hs2)
  have HB2 := Lib.hid hb2
  clear hs2 hb2
  go_upto_region 5 with (fail)
  go_loopw [20] (fun i wr => ∃ (j : Nat) (B : Option Addr) (d : Nat) (l : List S28), j ≤ acts.length ∧ i = .int .i64 j ∧ St wr g g B d l 1000 ∧ NF l ∧ Bd l ∧ l.length ≤ 60 ∧ l.length ≤ j ∧ Below g w1 wr) (fun i _ => acts.length - (intOf i).toNat)
  case atStart => exact ⟨0, none, 0, [], Nat.zero_le _, rfl, HS.out, trivial, (fun x hx => by cases hx), by simp, by simp, HB2.out⟩
  case round =>
    clear HS HB2
    obtain ⟨j, B, d, l, hj, rfl, hs, hnf, hbd, hl60, hlj, hb2⟩ := hrel
    have HS := Lib.hid hs
    have HB2 := Lib.hid hb2
    have HN := Lib.hid hnf
    have HD := Lib.hid hbd
    clear hs hb2 hnf hbd
    have hgr2 : g ≤ wr.heap.size := Nat.le_of_lt HS.out.lt
    by_cases hjl : j < acts.length
    · obtain ⟨ad, hA, p0, p1, p2, p3, p4, p5⟩ := at_30 (Kd.C_below H.out (HB.out.trans (HB2.out.mono hww))) (j : Int) (by omega) (by omega)
      subst hA
      rw [Int.toNat_natCast] at p0 p1 p2 p3 p4 p5
      have hx := HR.out (rd30 acts j) (by unfold rd30; rw [Int.toNat_natCast, List.getD_eq_getElem?_getD, List.getElem?_eq_getElem hjl]; exact List.getElem_mem _)
      generalize rd30 acts j = x at *
      have l1 : (j : Int) < (acts.length : Int) := by omega
      go_upto_region 7 with (fail)
      have k0 := blk_new wr (AC x)
      have hs0 := HS.out.below (below_alloc (Below.refl wr.heap.size wr) (AC x))
      have hb0 := HB2.out.trans ((below_alloc (Below.refl wr.heap.size wr) (AC x)).mono hgr2)
      show Code.wp _ _ _ _ (wr.alloc (AC x))
      clear HS HB2 p0 p1 p2 p3 p4 p5
      generalize wr.alloc (AC x) = w3 at *
      have HS := Lib.hid hs0
      have HB2 := Lib.hid hb0
      obtain ⟨p0, p1, p2, p3, p4, p5⟩ := ac_cells k0
      clear k0 hs0 hb0
      by_cases hj60 : j < 60
      · have l2 : (j : Int) < 60 := by omega
        go_wp2_with fail
        refine (range_calls x w3).mono ?_
        rintro e w4 ⟨rfl, hb4⟩
        have hbr := rng_bd x hx
        have hs4 := HS.out.below hb4
        have hb4' := HB2.out.trans (hb4.mono (Nat.le_of_lt HS.out.lt))
        clear HS HB2 hb4 p0 p1 p2 p3 p4 p5
        generalize rng x = r at *
        have HS := Lib.hid hs4
        have HB2 := Lib.hid hb4'
        clear hs4 hb4'
        go_wp2_with fail
        refine (add_calls HS.out (Nat.le_of_lt HS.out.lt) r (by omega)).mono ?_
        rintro e w5 ⟨hb5, _, h⟩
        have HB5 := Lib.hid (HB2.out.trans hb5)
        clear hb5
        rcases h with ⟨_, rfl, B', d', hs5⟩ | ⟨_, hlen, rfl, B', d', hs5⟩ | ⟨hlt, _, rfl, B', d', hs5⟩
        · have HS5 := Lib.hid hs5
          clear hs5
          go_wp2_with fail
          go_roundw
          case rel => exact ⟨j + 1, B', d', l, hjl, by go_num, HS5.out, HN.out, HD.out, hl60, by omega, HB5.out⟩
          case measure => simp [intOf]; omega
        · have := adds_len l false r
          omega
        · have HS5 := Lib.hid hs5
          have hal2 := adds_len l false r
          have HN5 := Lib.hid (adds_nf l r HN.out hlt)
          have HD5 := Lib.hid (adds_bd l false r HD.out hbr.1 hbr.2)
          clear hs5
          go_wp2_with fail
          go_roundw
          case rel => exact ⟨j + 1, B', d', adds l false r, hjl, by go_num, HS5.out, HN5.out, HD5.out, by omega, by omega, HB5.out⟩
          case measure => simp [intOf]; omega
      · have l2 : decide ((j : Int) < 60) = false := decide_eq_false (by omega)
        go_wp2_with fail
        go_roundw
        case rel => exact ⟨j + 1, B, d, l, hjl, by go_num, HS.out, HN.out, HD.out, hl60, by omega, HB2.out⟩
        case measure => simp [intOf]; omega
    · have hje : j = acts.length := by omega
      subst hje
      have l1 : decide ((acts.length : Int) < (acts.length : Int)) = false := decide_eq_false (by omega)
      clear hj hjl hlj HR
      have KR := Lib.hid ((HB2.out.block w.heap.size hsz1).trans KB1.out)
      clear KB1
      go_wp2_with fail
      refine (list_calls HS.out (by omega)).mono ?_
      rintro e w3 ⟨L, d3, rfl, hq3, hb3⟩
      have hs3 := HS.out.below hb3
      have hb3' := HB2.out.trans (hb3.mono hgr2)
      have kr3 := blk_below KR.out hb3
      clear HS HB2 hb3 KR
      have HS := Lib.hid hs3
      have HB2 := Lib.hid hb3'
      have HQ := Lib.hid (Kd.Q_lower hq3 hgr2)
      have KR := Lib.hid kr3
      clear hs3 hb3' hq3 kr3
      go_upto_region 13 with (fail)
      go_loopw [9, 36] (fun s i wr => ∃ j : Nat, j ≤ l.length ∧ s = .bool (offs r0_ (l.take j)) ∧ i = .int .i64 j ∧ Below w3.heap.size w3 wr) (fun _ i _ => l.length - (intOf i).toNat)
      case atStart => exact ⟨0, Nat.zero_le _, rfl, rfl, Below.refl _ _⟩
      case round =>
        obtain ⟨j, hj, rfl, rfl, hb⟩ := hrel
        have HBR := Lib.hid hb
        have HQR := Lib.hid (Kd.Q_below HQ.out hb)
        clear hb
        by_cases hjl : j < l.length
        · have e1 : (j : Int) < (l.length : Int) := by omega
          obtain ⟨ra, o, cap, hA, _⟩ := Kd.Q_form HQR.out (by omega)
          obtain rfl : L = some ⟨ra, o, none⟩ := by injection hA
          clear hA
          obtain ⟨p0, p1⟩ := SpAsk.row_cells HQR.out j hjl
          have HT := Lib.hid (offs_take r0_ l j hjl)
          generalize rd_T28 l (j : Int) = x at *
          generalize offs r0_ (l.take j) = b at *
          go_upto_region 15 with (fail)
          have kx := blk_new wr (RG x)
          have hb4 := HBR.out.trans ((below_alloc (Below.refl wr.heap.size wr) (RG x)).mono HBR.out.size)
          show Code.wp _ _ _ _ (wr.alloc (RG x))
          clear p0 p1
          generalize wr.alloc (RG x) = w4 at *
          have HB4 := Lib.hid hb4
          have kr4 := blk_below KR.out hb4
          obtain ⟨x0, x1⟩ := rg_cells kx
          obtain ⟨y0, y1⟩ := rg_cells kr4
          clear kx hb4 kr4
          have hc : (b = false) ∨ (b = true ∧ decide (x.f1 ≤ r0_.f0) = true) ∨ (b = true ∧ decide (x.f1 ≤ r0_.f0) = false ∧ decide (x.f0 ≥ r0_.f1) = true) ∨ (b = true ∧ decide (x.f1 ≤ r0_.f0) = false ∧ decide (x.f0 ≥ r0_.f1) = false) := by
            cases b <;> cases decide (x.f1 ≤ r0_.f0) <;> cases decide (x.f0 ≥ r0_.f1) <;> simp
          rcases hc with rfl | ⟨rfl, d1⟩ | ⟨rfl, d1, d2⟩ | ⟨rfl, d1, d2⟩
          · have HT2 := Lib.hid (show offs r0_ (l.take (j + 1)) = false by rw [HT.out]; rfl)
            go_wp2_with fail
            go_roundw
            case rel => exact ⟨j + 1, hjl, by rw [HT2.out], by go_num, HB4.out⟩
            case measure => simp [intOf]; omega
          · have HT2 := Lib.hid (show offs r0_ (l.take (j + 1)) = true by rw [HT.out, d1]; rfl)
            go_wp2_with fail
            go_roundw
            case rel => exact ⟨j + 1, hjl, by rw [HT2.out], by go_num, HB4.out⟩
            case measure => simp [intOf]; omega
          · have HT2 := Lib.hid (show offs r0_ (l.take (j + 1)) = true by rw [HT.out, d1, d2]; rfl)
            go_wp2_with fail
            go_roundw
            case rel => exact ⟨j + 1, hjl, by rw [HT2.out], by go_num, HB4.out⟩
            case measure => simp [intOf]; omega
          · have HT2 := Lib.hid (show offs r0_ (l.take (j + 1)) = false by rw [HT.out, d1, d2]; rfl)
            go_wp2_with fail
            go_roundw
            case rel => exact ⟨j + 1, hjl, by rw [HT2.out], by go_num, HB4.out⟩
            case measure => simp [intOf]; omega
        · have hje : j = l.length := by omega
          subst hje
          rw [List.take_length]
          have e1 : decide ((l.length : Int) < (l.length : Int)) = false := decide_eq_false (by omega)
          have hs4 := HS.out.below HBR.out
          have kr4 := blk_below KR.out HBR.out
          have hb4 := HB2.out.trans (HBR.out.mono (Nat.le_of_lt HS.out.lt))
          clear HS HB2 HQ HBR KR
          have HS := Lib.hid hs4
          have HB2 := Lib.hid hb4
          have HQ := HQR
          have KR := Lib.hid kr4
          clear hs4 hb4 HQR hjl hj kr4
          obtain ⟨b, hob⟩ : ∃ b, offs r0_ l = b := ⟨_, rfl⟩
          rw [hob]
          have HOB := Lib.hid hob
          clear hob
          go_upto_region 17 with (fail)
          go_wp2_with fail
          refine (copy_calls HS.out (by omega)).mono ?_
          rintro e w4 ⟨gt, B4, d4, rfl, ht4, hb4⟩
          -- REST
          have hgw : g ≤ wr.heap.size := Nat.le_of_lt HS.out.lt
          have HBW := Lib.hid hb4
          have HT := Lib.hid ht4
          obtain ⟨y0, y1⟩ := rg_cells (blk_below KR.out hb4)
          clear hb4 ht4
          go_wp2_with fail
          refine (add_calls HT.out HBW.out.size r0_ (by omega)).mono ?_
          rintro e w5 ⟨hb5, _, hcase⟩
          have HBW5 := Lib.hid (HBW.out.trans hb5)
          clear HBW HT hb5 y0 y1
          obtain ⟨y0, y1⟩ := rg_cells (blk_below KR.out HBW5.out)
          rcases hcase with ⟨hge, rfl, B5, d5, ht5⟩ | ⟨_, hlen, rfl, B5, d5, ht5⟩ | ⟨hlt, _, rfl, B5, d5, ht5⟩
          · have HT5 := Lib.hid ht5
            clear ht5
            go_wp2_with fail
            refine (SpAsk.covers_calls HT5.out r0_ (up_of_nf HN.out) (by omega)).mono ?_
            intro e w6 hcp
            obtain ⟨hb6, rfl⟩ : Below w5.heap.size w5 w6 ∧ e = .returned (.bool true) := by
              rcases hcp with ⟨h1, ⟨_, h2⟩ | ⟨h2, _⟩⟩
              · exact ⟨h1, h2⟩
              · omega
            have HBW6 := Lib.hid (HBW5.out.trans (hb6.mono HBW5.out.size))
            have HT6 := Lib.hid (HT5.out.below hb6)
            clear hcp hb6 HBW5 HT5 y0 y1
            obtain ⟨y0, y1⟩ := rg_cells (blk_below KR.out HBW6.out)
            go_wp2_with fail
            refine (count_calls HT6.out (by omega)).mono ?_
            rintro e w7 ⟨rfl, hb7⟩
            have HBW7 := Lib.hid (HBW6.out.trans (hb7.mono HBW6.out.size))
            have HT7 := Lib.hid (HT6.out.below hb7)
            clear hb7 HBW6 HT6 y0 y1
            obtain ⟨y0, y1⟩ := rg_cells (blk_below KR.out HBW7.out)
            obtain ⟨ct, hct⟩ : ∃ ct, IntKind.u64.wrap (cnt l) = ct := ⟨_, rfl⟩
            rw [hct]
            go_wp2_with fail
            refine (count_calls (HS.out.below HBW7.out) (by omega)).mono ?_
            rintro e w8 ⟨rfl, hb8⟩
            have HBW8 := Lib.hid (HBW7.out.trans (hb8.mono HBW7.out.size))
            have HT8 := Lib.hid (HT7.out.below hb8)
            clear hb8 HBW7 HT7 y0 y1
            obtain ⟨y0, y1⟩ := rg_cells (blk_below KR.out HBW8.out)
            rw [hct]
            clear hct
            have d1 : decide (ct < ct) = false := decide_eq_false (by omega)
            go_wp2_with fail
            refine (cut_calls HT8.out HBW8.out.size r0_ (by omega)).mono ?_
            rintro e w9 ⟨hb9, _, hcase⟩
            have HBW9 := Lib.hid (HBW8.out.trans hb9)
            clear HBW8 HT8 hb9 y0 y1
            obtain ⟨y0, y1⟩ := rg_cells (blk_below KR.out HBW9.out)
            rcases hcase with ⟨hge2, rfl, B9, d9, ht9⟩ | ⟨_, hlen, rfl, B9, d9, ht9⟩ | ⟨hlt2, _, rfl, B9, d9, ht9⟩
            · have d2 : decide (r0_.f0 < r0_.f1) = false := decide_eq_false (by omega)
              have d3 : decide (r0_.f0 ≥ r0_.f1) = true := decide_eq_true (by omega)
              have HF := Lib.hid (HB.out.trans ((HB2.out.trans (HBW9.out.mono hgw)).mono hww))
              clear HB HB2 HBW9
              cases b
              · go_wp2_with fail
                go_ret
                exact ⟨rfl, HF.out⟩
              · go_wp2_with fail
                go_ret
                exact ⟨rfl, HF.out⟩
            · omega
            · omega
          · have := adds_len l false r0_; omega
          · have HNM := Lib.hid (adds_nf l r0_ HN.out hlt)
            have HDM := Lib.hid (adds_bd l false r0_ HD.out hr0 hr9)
            have HAH := Lib.hid (adds_has l r0_)
            have HCM := Lib.hid (cnt_more l r0_ HN.out hlt).1
            have hml := adds_len l false r0_
            obtain ⟨m, hme⟩ : ∃ m, adds l false r0_ = m := ⟨_, rfl⟩
            rw [hme] at HNM HDM HAH HCM hml ht5
            have HME := Lib.hid hme
            clear hme
            have HT5 := Lib.hid ht5
            clear ht5
            go_wp2_with fail
            refine (SpAsk.covers_calls HT5.out r0_ (up_of_nf HNM.out) (by omega)).mono ?_
            intro e w6 hcp
            obtain ⟨hb6, rfl⟩ : Below w5.heap.size w5 w6 ∧ e = .returned (.bool true) := by
              rcases hcp with ⟨h1, ⟨h2, _⟩ | ⟨_, i, hi, h2⟩⟩
              · omega
              · exact ⟨h1, by rw [h2, (covers_iff HNM.out hlt hi).2 (HAH.out)]⟩
            have HBW6 := Lib.hid (HBW5.out.trans (hb6.mono HBW5.out.size))
            have HT6 := Lib.hid (HT5.out.below hb6)
            clear hcp hb6 HBW5 HT5 y0 y1
            obtain ⟨y0, y1⟩ := rg_cells (blk_below KR.out HBW6.out)
            go_wp2_with fail
            refine (count_calls HT6.out (by omega)).mono ?_
            rintro e w7 ⟨rfl, hb7⟩
            have HBW7 := Lib.hid (HBW6.out.trans (hb7.mono HBW6.out.size))
            have HT7 := Lib.hid (HT6.out.below hb7)
            clear hb7 HBW6 HT6 y0 y1
            obtain ⟨y0, y1⟩ := rg_cells (blk_below KR.out HBW7.out)
            obtain ⟨ct, hct⟩ : ∃ ct, IntKind.u64.wrap (cnt m) = ct := ⟨_, rfl⟩
            rw [hct]
            have HCT := Lib.hid hct
            clear hct
            go_wp2_with fail
            refine (count_calls (HS.out.below HBW7.out) (by omega)).mono ?_
            rintro e w8 ⟨rfl, hb8⟩
            have HBW8 := Lib.hid (HBW7.out.trans (hb8.mono HBW7.out.size))
            have HT8 := Lib.hid (HT7.out.below hb8)
            clear hb8 HBW7 HT7 y0 y1
            obtain ⟨y0, y1⟩ := rg_cells (blk_below KR.out HBW8.out)
            obtain ⟨cs, hcs⟩ : ∃ cs, IntKind.u64.wrap (cnt l) = cs := ⟨_, rfl⟩
            rw [hcs]
            have d1 : decide (ct < cs) = false := decide_eq_false (by rw [← hcs, ← HCT.out, cnt_wrap HN.out HD.out, cnt_wrap HNM.out HDM.out]; have := HCM.out; omega)
            clear hcs
            go_wp2_with fail
            refine (cut_calls HT8.out HBW8.out.size r0_ (by omega)).mono ?_
            rintro e w9 ⟨hb9, _, hcase⟩
            have HBW9 := Lib.hid (HBW8.out.trans hb9)
            clear HBW8 HT8 hb9 y0 y1
            obtain ⟨y0, y1⟩ := rg_cells (blk_below KR.out HBW9.out)
            rcases hcase with ⟨hge2, rfl, B9, d9, ht9⟩ | ⟨_, hlen, rfl, B9, d9, ht9⟩ | ⟨hlt2, _, rfl, B9, d9, ht9⟩
            · omega
            · have := cuts_len r0_ m; omega
            · have HT9 := Lib.hid ht9
              clear ht9
              have d2 : decide (r0_.f0 < r0_.f1) = true := decide_eq_true (by omega)
              have d3 : decide (r0_.f0 ≥ r0_.f1) = false := decide_eq_false (by omega)
              have HNC := Lib.hid (cuts_nf r0_ hlt m HNM.out)
              have hcl := cuts_len r0_ m
              go_wp2_with fail
              refine (SpAsk.has_calls HT9.out (r0_.f0) (up_of_nf HNC.out) (by omega)).mono ?_
              rintro e w10 ⟨i, hi, rfl, hb10⟩
              rw [has_not HNM.out hlt (n := r0_.f0) (by unfold isin; omega) hi]
              have HT10 := Lib.hid (HT9.out.below hb10)
              have HBW10 := Lib.hid (HBW9.out.trans (hb10.mono HBW9.out.size))
              clear HT9 HBW9 hi hb10 y0 y1
              obtain ⟨y0, y1⟩ := rg_cells (blk_below KR.out HBW10.out)
              have HT9 := HT10
              have HBW9 := HBW10
              clear HT10 HBW10
              have hwr : IntKind.u64.wrap (r0_.f1 - 1) = r0_.f1 - 1 := by rw [IntKind.wrap_u64]; omega
              go_wp2_with fail
              refine (SpAsk.has_calls HT9.out (r0_.f1 - 1) (up_of_nf HNC.out) (by omega)).mono ?_
              rintro e w11 ⟨i, hi, rfl, hb10⟩
              rw [has_not HNM.out hlt (n := r0_.f1 - 1) (by unfold isin; omega) hi]
              have HT10 := Lib.hid (HT9.out.below hb10)
              have HBW10 := Lib.hid (HBW9.out.trans (hb10.mono HBW9.out.size))
              clear HT9 HBW9 hi hb10 y0 y1
              obtain ⟨y0, y1⟩ := rg_cells (blk_below KR.out HBW10.out)
              have HT9 := HT10
              have HBW9 := HBW10
              clear HT10 HBW10
              clear hwr
              cases b
              · have HF := Lib.hid (HB.out.trans ((HB2.out.trans (HBW9.out.mono hgw)).mono hww))
                go_wp2_with fail
                go_ret
                exact ⟨rfl, HF.out⟩
              · have hcb : cuts r0_ m = l := by rw [← HME.out]; exact cut_back HN.out hlt HOB.out
                rw [hcb] at HT9
                clear hcb HNC hcl
                have e3 : ((l.length : Int) != (l.length : Int)) = false := by simp
                go_wp2_with fail
                refine (list_calls HT9.out (by omega)).mono ?_
                rintro e w12 ⟨P, d11, rfl, hq12, hb12⟩
                have HBW12 := Lib.hid (HBW9.out.trans (hb12.mono HBW9.out.size))
                have HL9 := Lib.hid (Kd.Q_below HQ.out HBW12.out)
                have HM9 := Lib.hid hq12
                clear hb12 hq12 HBW9 HT9 y0 y1 HS KR
                go_upto_region 30 with (fail)
                go_loopw [115] (fun i wy => ∃ j : Nat, j ≤ l.length ∧ i = .int .i64 j ∧ Below w12.heap.size w12 wy) (fun i _ => l.length - (intOf i).toNat)
                case atStart => exact ⟨0, Nat.zero_le _, rfl, Below.refl _ _⟩
                case round =>
                  obtain ⟨j, hj, rfl, hb⟩ := hrel
                  have HBR := Lib.hid hb
                  have hqa := Kd.Q_below HL9.out hb
                  have hqb := Kd.Q_below HM9.out hb
                  clear hb
                  by_cases hjl : j < l.length
                  · have e4 : (j : Int) < (l.length : Int) := by omega
                    obtain ⟨ra, oa, cap, hA, _⟩ := Kd.Q_form hqa (by omega)
                    obtain rfl : L = some ⟨ra, oa, none⟩ := by injection hA
                    obtain ⟨rb, ob, cap, hA2, _⟩ := Kd.Q_form hqb (by omega)
                    obtain rfl : P = some ⟨rb, ob, none⟩ := by injection hA2
                    clear hA hA2
                    obtain ⟨p0, p1⟩ := SpAsk.row_cells hqa j hjl
                    obtain ⟨q0, q1⟩ := SpAsk.row_cells hqb j hjl
                    generalize rd_T28 l (j : Int) = x at *
                    clear hqa hqb
                    go_upto_region 32 with (fail)
                    go_quiet (fail)
                    have HB5 := Lib.hid (HBR.out.trans ((pw_below_drewN (Below.refl wr.heap.size wr) nq).mono HBR.out.size))
                    go_wp2_with fail
                    go_roundw
                    case rel => exact ⟨j + 1, hjl, by go_num, HB5.out⟩
                    case measure => simp [intOf]; omega
                  · have hje : j = l.length := by omega
                    subst hje
                    have e4 : decide ((l.length : Int) < (l.length : Int)) = false := decide_eq_false (by omega)
                    have HF := Lib.hid (HB.out.trans ((HB2.out.trans ((HBW12.out.trans (HBR.out.mono HBW12.out.size)).mono hgw)).mono hww))
                    go_wp2_with fail
                    go_ret
                    exact ⟨rfl, HF.out⟩
theorem rowWalk {W : World} (A : Option Addr) (len cap : Nat) (xs : List S30) (hl : xs.length = len) (_hc : len ≤ cap) (h : Kd.C k30 W A len xs) (wf : xs.length * 32 ≤ reachBytes ∧ ∀ x ∈ xs, (Lit.int .u8 x.f0).wf = true ∧ (Lit.int .u8 x.f1).wf = true ∧ (Lit.int .u8 x.f2).wf = true ∧ ((Lit.int .u64 x.f3.f0).wf = true ∧ (Lit.int .u64 x.f3.f1).wf = true) ∧ True)
    (cs : Array Value) (x : S28) (hk : k28.K W x cs.toList) (wx : (Lit.int .u64 x.f0).wf = true ∧ (Lit.int .u64 x.f1).wf = true) :
    Calls Try.prog 4 #[.slice A len cap, .agg cs] W fun e w' => e = .returned (.bool true) ∧ Below W.heap.size W w' := by
  subst hl
  obtain rfl : cs = #[.int .u64 x.f0, .int .u64 x.f1] := Array.ext' (k28_open hk)
  have b0 := bounds_u64 wx.1
  have b1 := bounds_u64 wx.2
  have hb : xs.length ≤ 140737488351232 := by have := wf.1; unfold reachBytes at this; omega
  exact walk A cap xs x h (fun x hx => ⟨bounds_u64 (wf.2 x hx).2.2.2.1.1, bounds_u64 (wf.2 x hx).2.2.2.1.2⟩) hb b0.1 b1.2
end Go.Proofs.Ytiohjnhbapbglaa.AsksWalk
