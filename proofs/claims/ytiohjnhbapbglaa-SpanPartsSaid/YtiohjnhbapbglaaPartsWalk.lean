/- The call of the law SpanParts answers true for every input, and nothing that was there has changed. No condition. -/
import Derived.Test.YtiohjnhbapbglaaSpAct
namespace Go.Proofs.Ytiohjnhbapbglaa.PartsWalk
open Go.RowKit Go.Proofs.Ytiohjnhbapbglaa.PSpanPlays Go.Proofs.Ytiohjnhbapbglaa.SpPure Go.Proofs.Ytiohjnhbapbglaa.SpLaw Go.Proofs.Ytiohjnhbapbglaa.SpSet Go.Proofs.Ytiohjnhbapbglaa.SpCut Go.Proofs.Ytiohjnhbapbglaa.PartsPure Go.Proofs.Ytiohjnhbapbglaa.SpAct Go.Proofs.YtiohjnhbapbglaaW.PrintWords Go.Proofs.YtiohjnhbapbglaaW.PrintLast Go.Proofs.YtiohjnhbapbglaaW.PrintMore

theorem row_keep {w w' : World} {base g t : Nat} {cells : Array Value} {v : Value} {l : List S28} (h : k28.Q 28 w base (fun _ => True) v l) (hb : w.heap[g]? = some (.cells cells t (0, 0))) (ht : t = 98) (hk : KeepBut w w' g none) : k28.Q 28 w' base (fun _ => True) v l := by
  subst ht
  exact Kd.Q_mono (Kd.Q_keep (Kd.Q_types h hb t28) hk (fun _ hk => hk.2)) (fun _ _ => trivial)
theorem st_keep {w w' : World} {base g b2 g2 : Nat} {A A2 : Option Addr} {c c2 : Nat} {l l2 : List S28} {lim lim2 : Int} (h : St w base g A c l lim) (h2 : St w b2 g2 A2 c2 l2 lim2) (hne : g ≠ g2) (hk : KeepBut w w' g2 none) : St w' base g A c l lim :=
  ⟨hk.blk h.blk hne (by simp), row_keep h.q h2.blk rfl hk, h.old⟩
theorem low_up {w w' : World} {base g : Nat} {l : List S28} {n : Int} {e : Ending} (hl : l.length ≤ 60) (h : UP w base g l 1000 ⟨n, 18446744073709551615⟩ e w') : Below base w w' ∧ KeepBut w w' g none ∧ (∃ v, e = .returned v) ∧ ∃ B d, St w' base g B d (lowP l n) 1000 := by
  obtain ⟨h1, h2, h3⟩ := h
  refine ⟨h1, h2, ?_⟩
  rcases h3 with ⟨h4, rfl, h5⟩ | ⟨h4, h6, rfl, h5⟩ | ⟨h4, h6, rfl, h5⟩
  · have : lowP l n = l := by unfold lowP; exact if_neg (by have : n ≥ 18446744073709551615 := h4; omega)
    rw [this]; exact ⟨⟨_, rfl⟩, h5⟩
  · have := cuts_len ⟨n, 18446744073709551615⟩ l; omega
  · have : lowP l n = cuts ⟨n, 18446744073709551615⟩ l := by unfold lowP; exact if_pos h4
    rw [this]; exact ⟨⟨_, rfl⟩, h5⟩
theorem high_up {w w' : World} {base g : Nat} {l : List S28} {n : Int} {e : Ending} (hl : l.length ≤ 60) (h : UP w base g l 1000 ⟨0, n⟩ e w') : Below base w w' ∧ KeepBut w w' g none ∧ (∃ v, e = .returned v) ∧ ∃ B d, St w' base g B d (highP l n) 1000 := by
  obtain ⟨h1, h2, h3⟩ := h
  refine ⟨h1, h2, ?_⟩
  rcases h3 with ⟨h4, rfl, h5⟩ | ⟨h4, h6, rfl, h5⟩ | ⟨h4, h6, rfl, h5⟩
  · have : highP l n = l := by unfold highP; exact if_neg (by have : 0 ≥ n := h4; omega)
    rw [this]; exact ⟨⟨_, rfl⟩, h5⟩
  · have := cuts_len ⟨0, n⟩ l; omega
  · have : highP l n = cuts ⟨0, n⟩ l := by unfold highP; exact if_pos h4
    rw [this]; exact ⟨⟨_, rfl⟩, h5⟩
set_option maxRecDepth 100000 in
set_option maxHeartbeats 8000000 in
theorem walk {w : World} (A : Option Addr) (c : Nat) (acts : List S30) (n : Int) (h : Kd.C k30 w A acts.length acts) (hr : ∀ x ∈ acts, Ok30 x) (hal : acts.length ≤ 140737488351232) (hn : 0 ≤ n) (hn9 : n ≤ 18446744073709551615) :
    Calls Try.prog 3 #[.slice A acts.length c, .int .u64 n] w fun e w' => e = .returned (.bool true) ∧ Below w.heap.size w w' := by
  have H := Lib.hid h
  have HR := Lib.hid hr
  clear h hr
  go_enter Try.func3, Try.ntmps3
  go_wp2_with fail
  refine (SpAsk.awake_calls w).mono ?_
  rintro e w1 ⟨rfl, hb1⟩
  have HB := Lib.hid hb1
  clear hb1
  go_wp2_with fail
  refine (new_calls 1000 w1).mono ?_
  rintro e w2 ⟨rfl, hs2, hb2⟩
  have hww : w.heap.size ≤ w1.heap.size := HB.out.size
  generalize w1.heap.size = g at *
  have HS := Lib.hid (show St w2 g g none 0 [] 1000 from hs2)
  have HB2 := Lib.hid hb2
  clear hs2 hb2
  go_upto_region 5 with (fail)
  go_loopw [22] (fun i wr => ∃ (j : Nat) (B : Option Addr) (d : Nat) (l : List S28), j ≤ acts.length ∧ i = .int .i64 j ∧ St wr g g B d l 1000 ∧ NF l ∧ Bd l ∧ l.length ≤ 60 ∧ l.length ≤ j ∧ Below g w1 wr) (fun i _ => acts.length - (intOf i).toNat)
  case atStart => exact ⟨0, none, 0, [], Nat.zero_le _, rfl, HS.out, trivial, (fun x hx => by cases hx), by simp, by simp, HB2.out⟩
  case round =>
    clear HS HB2
    obtain ⟨j, B, d, l, hj, rfl, hs, hnf, hbd, hl60, hlj, hb2⟩ := hrel
    have HS := Lib.hid hs
    have HB2 := Lib.hid hb2
    have HN := Lib.hid hnf
    have HD := Lib.hid hbd
    clear hs hb2 hnf hbd
    have hgr : g ≤ wr.heap.size := Nat.le_of_lt HS.out.lt
    by_cases hjl : j < acts.length
    · obtain ⟨ad, hA, p0, p1, p2, p3, p4, p5⟩ := at_30 (Kd.C_below H.out (HB.out.trans (HB2.out.mono hww))) (j : Int) (by omega) (by omega)
      subst hA
      rw [Int.toNat_natCast] at p0 p1 p2 p3 p4 p5
      have hx := HR.out (rd30 acts j) (by unfold rd30; rw [Int.toNat_natCast, List.getD_eq_getElem?_getD, List.getElem?_eq_getElem hjl]; exact List.getElem_mem _)
      generalize rd30 acts j = x at *
      have l1 : (j : Int) < (acts.length : Int) := by omega
      go_upto_region 7 with (fail)
      have k0 := blk_new wr (AC x)
      have hs0 := HS.out.below (below_alloc (Below.refl wr.heap.size wr) (AC x))
      have hb0 := HB2.out.trans ((below_alloc (Below.refl wr.heap.size wr) (AC x)).mono hgr)
      show Code.wp _ _ _ _ (wr.alloc (AC x))
      clear HS HB2 p0 p1 p2 p3 p4 p5
      generalize wr.alloc (AC x) = w3 at *
      have HS := Lib.hid hs0
      have HB2 := Lib.hid hb0
      obtain ⟨p0, p1, p2, p3, p4, p5⟩ := ac_cells k0
      clear k0 hs0 hb0
      by_cases hj60 : j < 60
      · have l2 : (j : Int) < 60 := by omega
        go_wp2_with fail
        refine (range_calls x w3).mono ?_
        rintro e w4 ⟨rfl, hb4⟩
        have hbr := rng_bd x hx
        have hs4 := HS.out.below hb4
        have hb4' := HB2.out.trans (hb4.mono (Nat.le_of_lt HS.out.lt))
        clear HS HB2 hb4 p0 p1 p2 p3 p4 p5
        generalize rng x = r at *
        have HS := Lib.hid hs4
        have HB2 := Lib.hid hb4'
        clear hs4 hb4'
        go_wp2_with fail
        refine (add_calls HS.out (Nat.le_of_lt HS.out.lt) r (by omega)).mono ?_
        rintro e w5 ⟨hb5, _, h⟩
        have HB5 := Lib.hid (HB2.out.trans hb5)
        clear hb5
        rcases h with ⟨_, rfl, B', d', hs5⟩ | ⟨_, hlen, rfl, B', d', hs5⟩ | ⟨hlt, _, rfl, B', d', hs5⟩
        · have HS5 := Lib.hid hs5
          clear hs5
          go_wp2_with fail
          go_roundw
          case rel => exact ⟨j + 1, B', d', l, hjl, by go_num, HS5.out, HN.out, HD.out, hl60, by omega, HB5.out⟩
          case measure => simp [intOf]; omega
        · have := adds_len l false r
          omega
        · have HS5 := Lib.hid hs5
          have hal2 := adds_len l false r
          have HN5 := Lib.hid (adds_nf l r HN.out hlt)
          have HD5 := Lib.hid (adds_bd l false r HD.out hbr.1 hbr.2)
          clear hs5
          go_wp2_with fail
          go_roundw
          case rel => exact ⟨j + 1, B', d', adds l false r, hjl, by go_num, HS5.out, HN5.out, HD5.out, by omega, by omega, HB5.out⟩
          case measure => simp [intOf]; omega
      · have l2 : decide ((j : Int) < 60) = false := decide_eq_false (by omega)
        go_wp2_with fail
        go_roundw
        case rel => exact ⟨j + 1, B, d, l, hjl, by go_num, HS.out, HN.out, HD.out, hl60, by omega, HB2.out⟩
        case measure => simp [intOf]; omega
    · have hje : j = acts.length := by omega
      subst hje
      have l1 : decide ((acts.length : Int) < (acts.length : Int)) = false := decide_eq_false (by omega)
      clear hj hjl hlj
      go_wp2_with fail
      refine (list_calls HS.out (by omega)).mono ?_
      rintro e w3 ⟨L, d3, rfl, hq3, hb3⟩
      have hs3 := HS.out.below hb3
      have hb3' := HB2.out.trans (hb3.mono hgr)
      clear HS HB2 hb3
      have HS := Lib.hid hs3
      have HB2 := Lib.hid hb3'
      have HQ := Lib.hid (Kd.Q_lower hq3 hgr)
      clear hs3 hb3' hq3
      go_upto_region 12 with (fail)
      go_loopw [38] (fun i wr => ∃ j : Nat, j ≤ l.length ∧ i = .int .i64 j ∧ Below w3.heap.size w3 wr) (fun i _ => l.length - (intOf i).toNat)
      case atStart => exact ⟨0, Nat.zero_le _, rfl, Below.refl _ _⟩
      case round =>
        obtain ⟨j, hj, rfl, hb⟩ := hrel
        have HBR := Lib.hid hb
        have HQR := Lib.hid (Kd.Q_below HQ.out hb)
        clear hb
        by_cases hjl : j < l.length
        · have e1 : (j : Int) < (l.length : Int) := by omega
          obtain ⟨ra, o, cap, hA, _⟩ := Kd.Q_form HQR.out (by omega)
          obtain rfl : L = some ⟨ra, o, none⟩ := by injection hA
          clear hA
          obtain ⟨p0, p1⟩ := SpAsk.row_cells HQR.out j hjl
          have hpos := nf_pos HN.out _ (rd_mem l j hjl)
          have hprev : j = 0 ∨ ∃ i y, j = i + 1 ∧ y < (rd_T28 l (j : Int)).f0 ∧ wr.cell? ⟨ra, o + i * 2 + 1, none⟩ = some (.int .u64 y) := by
            rcases Nat.eq_zero_or_pos j with h0 | h0
            · exact .inl h0
            · obtain ⟨i, rfl⟩ : ∃ i, j = i + 1 := ⟨j - 1, by omega⟩
              exact .inr ⟨i, _, rfl, nf_next HN.out i hjl, (SpAsk.row_cells HQR.out i (by omega)).2⟩
          generalize rd_T28 l (j : Int) = x at *
          go_upto_region 14 with (fail)
          have kx := blk_new wr (RG x)
          have hb4 := HBR.out.trans ((below_alloc (Below.refl wr.heap.size wr) (RG x)).mono HBR.out.size)
          show Code.wp _ _ _ _ (wr.alloc (RG x))
          have hprev2 : j = 0 ∨ ∃ i y, j = i + 1 ∧ y < x.f0 ∧ (wr.alloc (RG x)).cell? ⟨ra, o + i * 2 + 1, none⟩ = some (.int .u64 y) := by
            rcases hprev with h0 | ⟨i, y, h1, h2, h3⟩
            · exact .inl h0
            · exact .inr ⟨i, y, h1, h2, pw_cell_below (below_alloc (Below.refl wr.heap.size wr) (RG x)) h3⟩
          clear p0 p1 hprev
          generalize wr.alloc (RG x) = w4 at *
          obtain ⟨x0, x1⟩ := rg_cells kx
          have d0 : decide (x.f0 ≥ x.f1) = false := decide_eq_false (by omega)
          have HB4 := Lib.hid hb4
          clear kx hb4
          rcases hprev2 with rfl | ⟨i, y, rfl, hy, hc⟩
          · go_quiet (fail)
            have HB5 := Lib.hid (HB4.out.trans ((pw_below_drewN (Below.refl w4.heap.size w4) nq).mono HB4.out.size))
            go_wp2_with fail
            go_roundw
            case rel => exact ⟨1, hjl, by go_num, HB5.out⟩
            case measure => simp [intOf]; omega
          · have e2 : (0 : Int) < ((i + 1 : Nat) : Int) := by omega
            have e3 : IntKind.i64.wrap (((i + 1 : Nat) : Int) - 1) = (i : Int) := by rw [IntKind.wrap_i64]; omega
            have e4 : (i : Int) < (l.length : Int) := by omega
            have e5 : i < l.length := by omega
            have d1 : decide (y ≥ x.f0) = false := decide_eq_false (by omega)
            go_quiet (fail)
            have HB5 := Lib.hid (HB4.out.trans ((pw_below_drewN (Below.refl w4.heap.size w4) nq).mono HB4.out.size))
            go_wp2_with fail
            go_roundw
            case rel => exact ⟨i + 1 + 1, hjl, by go_num, HB5.out⟩
            case measure => simp [intOf]; omega
        · have hje : j = l.length := by omega
          subst hje
          have e1 : decide ((l.length : Int) < (l.length : Int)) = false := decide_eq_false (by omega)
          have hs4 := HS.out.below HBR.out
          have hb4 := HB2.out.trans (HBR.out.mono (Nat.le_of_lt HS.out.lt))
          clear HS HB2 HQ HBR
          have HS := Lib.hid hs4
          have HB2 := Lib.hid hb4
          have HQ := HQR
          clear hs4 hb4 HQR hjl hj
          go_upto_region 17 with (fail)
          go_wp2_with fail
          refine (copy_calls HS.out (by omega)).mono ?_
          rintro e w4 ⟨glo, B4, d4, rfl, hs4, hb4⟩
          have hgw : g ≤ wr.heap.size := Nat.le_of_lt HS.out.lt
          have hs4' := HS.out.below hb4
          have hq4 := Kd.Q_below HQ.out hb4
          have hb4' := HB2.out.trans (hb4.mono hgw)
          have hlo := hs4.lower hgw
          clear HS HB2 HQ hs4 hb4
          have HS := Lib.hid hs4'
          have HB2 := Lib.hid hb4'
          have HQ := Lib.hid hq4
          have HLO := Lib.hid hlo
          clear hs4' hb4' hq4 hlo
          go_wp2_with fail
          refine (copy_calls HS.out (by omega)).mono ?_
          rintro e w5 ⟨ghi, B5, d5, rfl, hs5, hb5⟩
          have hgh : glo ≠ ghi := by have := HLO.out.lt; have := hs5.old; omega
          have hgw5 : g ≤ w4.heap.size := Nat.le_of_lt HS.out.lt
          have hq5 := Kd.Q_below HQ.out hb5
          have hb5' := HB2.out.trans (hb5.mono hgw5)
          have hlo := HLO.out.below hb5
          have hhi := hs5.lower hgw5
          clear HS HB2 HQ HLO hs5 hb5
          have HB2 := Lib.hid hb5'
          have HQ := Lib.hid hq5
          have HLO := Lib.hid hlo
          have HHI := Lib.hid hhi
          clear hb5' hq5 hlo hhi
          go_wp2_with fail
          refine (cut_calls HLO.out (Nat.le_trans HLO.out.old (Nat.le_of_lt HLO.out.lt)) ⟨n, 18446744073709551615⟩ (by omega)).mono ?_
          intro e w6 hup
          obtain ⟨hb6, hk6, ⟨v6, rfl⟩, B6, d6, hlo6⟩ := low_up hl60 hup
          have hb6' := HB2.out.trans hb6
          have hq6 := row_keep HQ.out HLO.out.blk rfl hk6
          have hhi6 := st_keep HHI.out HLO.out hgh.symm hk6
          clear hup HB2 HQ HLO HHI hb6 hk6
          have HB2 := Lib.hid hb6'
          have HQ := Lib.hid hq6
          have HLO := Lib.hid hlo6
          have HHI := Lib.hid hhi6
          clear hb6' hq6 hlo6 hhi6
          go_wp2_with fail
          refine (cut_calls HHI.out (Nat.le_trans HHI.out.old (Nat.le_of_lt HHI.out.lt)) ⟨0, n⟩ (by omega)).mono ?_
          intro e w7 hup
          obtain ⟨hb7, hk7, ⟨v7, rfl⟩, B7, d7, hhi7⟩ := high_up hl60 hup
          have hb7' := HB2.out.trans hb7
          have hq7 := row_keep HQ.out HHI.out.blk rfl hk7
          have hlo7 := st_keep HLO.out HHI.out hgh hk7
          clear hup HB2 HQ HLO HHI hb7 hk7
          have hlow := low_len l n
          have hhigh := high_len l n
          have HLN := Lib.hid (low_nf HN.out n)
          have HHN := Lib.hid (high_nf HN.out n)
          have HBOTH := Lib.hid (fun v => both l HD.out n v)
          have HFROM := Lib.hid (fun r (hr : r ∈ highP l n) => high_from HD.out HN.out hr)
          have HHB := Lib.hid (high_bd HD.out HN.out n)
          generalize lowP l n = lo at *
          generalize highP l n = hi at *
          have HB2 := Lib.hid hb7'
          have HQ := Lib.hid hq7
          have HLO := Lib.hid hlo7
          have HHI := Lib.hid hhi7
          clear hb7' hq7 hlo7 hhi7
          go_wp2_with fail
          refine (list_calls HHI.out (by omega)).mono ?_
          rintro e w8 ⟨M, d8, rfl, hq8, hb8⟩
          have hg7 : g ≤ w7.heap.size := Nat.le_of_lt (Nat.lt_of_le_of_lt HLO.out.old HLO.out.lt)
          have hb8' := HB2.out.trans (hb8.mono hg7)
          have hlo8 := HLO.out.below hb8
          have hqq := Kd.Q_below HQ.out hb8
          have hqh := Kd.Q_lower hq8 hg7
          clear HB2 HQ HLO HHI hq8 hb8
          have HB2 := Lib.hid hb8'
          have HQ := Lib.hid hqq
          have HLO := Lib.hid hlo8
          have HQH := Lib.hid hqh
          clear hb8' hqq hlo8 hqh
          go_upto_region 21 with (fail)
          go_loopw [79] (fun i wy => ∃ (j : Nat) (B : Option Addr) (d : Nat) (m : List S28), j ≤ hi.length ∧ i = .int .i64 j ∧ St wy g glo B d m 1000 ∧ NF m ∧ m.length ≤ 120 + j ∧ (∀ v, mem m v ↔ mem lo v ∨ mem (hi.take j) v) ∧ k28.Q 28 wy g (fun _ => True) (.slice L l.length d3) l ∧ k28.Q 28 wy g (fun _ => True) (.slice M hi.length d8) hi ∧ Below g w1 wy) (fun i _ => hi.length - (intOf i).toNat)
          case atStart => exact ⟨0, B6, d6, lo, Nat.zero_le _, rfl, HLO.out, HLN.out, by omega, (fun v => by simp [mem_nil]), HQ.out, HQH.out, HB2.out⟩
          case round =>
            clear HB2 HQ HLO HQH
            obtain ⟨j, B9, d9, m, hj, rfl, hs, hnf, hml, hmm, hq, hqh, hb⟩ := hrel
            by_cases hjl : j < hi.length
            · have e2 : (j : Int) < (hi.length : Int) := by omega
              obtain ⟨ra, o, cap, hA, _⟩ := Kd.Q_form hqh (by omega)
              obtain rfl : M = some ⟨ra, o, none⟩ := by injection hA
              clear hA
              obtain ⟨p0, p1⟩ := SpAsk.row_cells hqh j hjl
              have hrm := rd_mem hi j hjl
              have hfr := HFROM.out _ hrm
              have hrb := HHB.out _ hrm
              have HTK := Lib.hid (fun v => mem_take_succ hi j hjl v)
              generalize rd_T28 hi (j : Int) = r at *
              have d0 : decide (r.f0 < n) = false := decide_eq_false (by omega)
              go_upto_region 23 with (fail)
              have hgy : g ≤ wr.heap.size := Nat.le_of_lt (Nat.lt_of_le_of_lt hs.old hs.lt)
              have kx := blk_new wr (RG r)
              have hs2 := hs.below (below_alloc (Below.refl wr.heap.size wr) (RG r))
              have hq2 := Kd.Q_below hq (below_alloc (Below.refl wr.heap.size wr) (RG r))
              have hqh2 := Kd.Q_below hqh (below_alloc (Below.refl wr.heap.size wr) (RG r))
              have hb2 := hb.trans ((below_alloc (Below.refl wr.heap.size wr) (RG r)).mono hgy)
              show Code.wp _ _ _ _ (wr.alloc (RG r))
              clear hs hq hqh hb p0 p1
              generalize wr.alloc (RG r) = w9 at *
              have HS := Lib.hid hs2
              have HQ := Lib.hid hq2
              have HQH := Lib.hid hqh2
              have HB2 := Lib.hid hb2
              have HMM := Lib.hid hmm
              have HNF := Lib.hid hnf
              clear hs2 hq2 hqh2 hb2 hmm hnf
              obtain ⟨x0, x1⟩ := rg_cells kx
              clear kx
              go_wp2_with fail
              refine (add_calls HS.out (Nat.le_of_lt (Nat.lt_of_le_of_lt HS.out.old HS.out.lt)) r (by omega)).mono ?_
              rintro e w10 ⟨hb10, hk10, hcase⟩
              have hal3 := adds_len m false r
              rcases hcase with ⟨h4, rfl, h5⟩ | ⟨h4, h6, rfl, h5⟩ | ⟨h4, h6, rfl, B10, d10, hs10⟩
              · omega
              · omega
              · have HS10 := Lib.hid hs10
                have HQ10 := Lib.hid (row_keep HQ.out HS.out.blk rfl hk10)
                have HQH10 := Lib.hid (row_keep HQH.out HS.out.blk rfl hk10)
                have HB10 := Lib.hid (HB2.out.trans hb10)
                have HNF10 := Lib.hid (adds_nf m r HNF.out h4)
                have HMM10 := Lib.hid (show ∀ v, mem (adds m false r) v ↔ mem lo v ∨ mem (hi.take (j + 1)) v from fun v => by rw [adds_mem m r HNF.out h4 v, HMM.out v, HTK.out v]; exact or_assoc)
                clear hb10 hk10 hs10 HS HQ HQH HB2 HNF HMM HTK x0 x1 hrm
                go_wp2_with fail
                go_roundw
                case rel => exact ⟨j + 1, B10, d10, adds m false r, hjl, by go_num, HS10.out, HNF10.out, by omega, HMM10.out, HQ10.out, HQH10.out, HB10.out⟩
                case measure => simp [intOf]; omega
            · have hje : j = hi.length := by omega
              subst hje
              have e2 : decide ((hi.length : Int) < (hi.length : Int)) = false := decide_eq_false (by omega)
              obtain rfl : m = l := same_of_mem hnf HN.out (fun v => by rw [hmm v, List.take_length, HBOTH.out v])
              have HS := Lib.hid hs
              have HQ := Lib.hid hq
              have HB2 := Lib.hid hb
              clear hs hq hb hqh hmm hnf
              have e3 : ((m.length : Int) != (m.length : Int)) = false := by simp
              go_wp2_with fail
              refine (list_calls HS.out (by omega)).mono ?_
              rintro e w9 ⟨P, d11, rfl, hq9, hb9⟩
              have hgy : g ≤ wr.heap.size := Nat.le_of_lt (Nat.lt_of_le_of_lt HS.out.old HS.out.lt)
              have HB9 := Lib.hid (HB2.out.trans (hb9.mono hgy))
              have hsz9 := hb9.size
              have HL9 := Lib.hid (Kd.Q_below HQ.out hb9)
              have HM9 := Lib.hid (Kd.Q_lower hq9 hgy)
              clear hq9 hb9 HS HQ HB2
              go_upto_region 30 with (fail)
              go_loopw [107] (fun i wy => ∃ j : Nat, j ≤ m.length ∧ i = .int .i64 j ∧ Below w9.heap.size w9 wy) (fun i _ => m.length - (intOf i).toNat)
              case atStart => exact ⟨0, Nat.zero_le _, rfl, Below.refl _ _⟩
              case round =>
                obtain ⟨j, hj, rfl, hb⟩ := hrel
                have HBR := Lib.hid hb
                have hqa := Kd.Q_below HL9.out hb
                have hqb := Kd.Q_below HM9.out hb
                clear hb
                by_cases hjl : j < m.length
                · have e4 : (j : Int) < (m.length : Int) := by omega
                  obtain ⟨ra, oa, cap, hA, _⟩ := Kd.Q_form hqa (by omega)
                  obtain rfl : L = some ⟨ra, oa, none⟩ := by injection hA
                  obtain ⟨rb, ob, cap, hA2, _⟩ := Kd.Q_form hqb (by omega)
                  obtain rfl : P = some ⟨rb, ob, none⟩ := by injection hA2
                  clear hA hA2
                  obtain ⟨p0, p1⟩ := SpAsk.row_cells hqa j hjl
                  obtain ⟨q0, q1⟩ := SpAsk.row_cells hqb j hjl
                  generalize rd_T28 m (j : Int) = x at *
                  clear hqa hqb
                  go_upto_region 32 with (fail)
                  go_quiet (fail)
                  have HB5 := Lib.hid (HBR.out.trans ((pw_below_drewN (Below.refl wr.heap.size wr) nq).mono HBR.out.size))
                  go_wp2_with fail
                  go_roundw
                  case rel => exact ⟨j + 1, hjl, by go_num, HB5.out⟩
                  case measure => simp [intOf]; omega
                · have hje : j = m.length := by omega
                  subst hje
                  have e4 : decide ((m.length : Int) < (m.length : Int)) = false := decide_eq_false (by omega)
                  have hg9 : g ≤ w9.heap.size := by omega
                  have HF := Lib.hid (HB.out.trans ((HB9.out.trans (HBR.out.mono hg9)).mono hww))
                  go_wp2_with fail
                  go_ret
                  exact ⟨rfl, HF.out⟩
theorem rowWalk {W : World} (A : Option Addr) (len cap : Nat) (xs : List S30) (hl : xs.length = len) (_hc : len ≤ cap) (h : Kd.C k30 W A len xs) (wf : xs.length * 32 ≤ reachBytes ∧ ∀ x ∈ xs, (Lit.int .u8 x.f0).wf = true ∧ (Lit.int .u8 x.f1).wf = true ∧ (Lit.int .u8 x.f2).wf = true ∧ ((Lit.int .u64 x.f3.f0).wf = true ∧ (Lit.int .u64 x.f3.f1).wf = true) ∧ True)
    (n : Int) (wn : (Lit.int .u64 n).wf = true) :
    Calls Try.prog 3 #[.slice A len cap, .int .u64 n] W fun e w' => e = .returned (.bool true) ∧ Below W.heap.size W w' := by
  subst hl
  have b1 := bounds_u64 wn
  have hb : xs.length ≤ 140737488351232 := by have := wf.1; unfold reachBytes at this; omega
  exact walk A cap xs n h (fun x hx => ⟨bounds_u64 (wf.2 x hx).2.2.2.1.1, bounds_u64 (wf.2 x hx).2.2.2.1.2⟩) hb b1.1 b1.2
end Go.Proofs.Ytiohjnhbapbglaa.PartsWalk
