/- The call of the law LossRules answers true for every input, and nothing that was there has changed. No condition. -/
import Derived.Test.YtclmnpdabnogkaaLossAwake
import Derived.Test.YtclmnpdabnogkaaLossSeen
namespace Go.Proofs.Ytclmnpdabnogkaa.RulesWalk
open Go.RowKit Go.Proofs.Ytclmnpdabnogkaa.PLossTimes Go.Proofs.Ytclmnpdabnogkaa.EvClone Go.Proofs.Ytclmnpdabnogkaa.LossIn Go.Proofs.Ytclmnpdabnogkaa.LossLed Go.Proofs.Ytclmnpdabnogkaa.LossCame Go.Proofs.Ytclmnpdabnogkaa.LossFind Go.Proofs.Ytclmnpdabnogkaa.LossSent Go.Proofs.Ytclmnpdabnogkaa.LossMore Go.Proofs.Ytclmnpdabnogkaa.LossSeen Go.Proofs.YtclmnpdabnogkaaW.PrintWords Go.Proofs.YtclmnpdabnogkaaW.PrintLast Go.Proofs.YtclmnpdabnogkaaW.PrintMore

/-- The packets that are kept: unlike numbers, none above n. -/
structure Kept' (ps : List S56) (n : Int) (m : Nat) : Prop where
  small : ∀ p ∈ ps, 0 ≤ p.f0 ∧ p.f0 ≤ n
  apart : (ps.map (·.f0)).Nodup
  len : ps.length ≤ m
theorem Kept'.sub {ps : List S56} {n : Int} {m : Nat} (h : Kept' ps n m) (f : S56 → Bool) : Kept' (ps.filter f) n m :=
  ⟨fun p hp => h.small p (List.mem_filter.1 hp).1, h.apart.sublist (List.filter_sublist.map _), Nat.le_trans (List.length_filter_le _ _) h.len⟩
theorem kept_more {ps : List S56} {n n' : Int} {m : Nat} (h : Kept' ps n m) (p : S56) (h0 : 0 ≤ n) (h1 : n < n') (hp : p.f0 = n') : Kept' (ps ++ [p]) n' (m + 1) := by
  refine ⟨fun q hq => ?_, ?_, by have := h.len; simp; omega⟩
  · rcases List.mem_append.1 hq with hq | hq
    · have := h.small q hq; omega
    · rw [List.mem_singleton.1 hq]; omega
  · rw [List.map_append, List.nodup_append]
    refine ⟨h.apart, by simp, ?_⟩
    intro a ha b hb
    obtain ⟨q, hq, rfl⟩ := List.mem_map.1 ha
    have := h.small q hq
    simp at hb
    omega

theorem nodup_inj : ∀ {ps : List S56}, (ps.map (·.f0)).Nodup → ∀ {p q : S56}, p ∈ ps → q ∈ ps → p.f0 = q.f0 → p = q
  | [], _, _, _, hp, _, _ => by cases hp
  | r :: ps, h, p, q, hp, hq, he => by
    rw [List.map_cons, List.nodup_cons] at h
    rcases List.mem_cons.1 hp with hp1 | hp1 <;> rcases List.mem_cons.1 hq with hq1 | hq1
    · rw [hp1, hq1]
    · exact absurd (List.mem_map.2 ⟨q, hq1, by rw [← he, hp1]⟩ : r.f0 ∈ ps.map (·.f0)) h.1
    · exact absurd (List.mem_map.2 ⟨p, hp1, by rw [he, hq1]⟩ : r.f0 ∈ ps.map (·.f0)) h.1
    · exact nodup_inj h.2 hp1 hq1 he
/-- What is at a place of a row of unlike numbers is not ahead of it. -/
theorem not_ahead {L : List S56} (h : (L.map (·.f0)).Nodup) {i : Nat} (hi : i < L.length) : (rd_T56 L i).f0 ∉ (L.take i).map (·.f0) := by
  have e : L[i]? = some (rd_T56 L i) := by
    unfold rd_T56
    rw [Int.toNat_natCast, List.getD_eq_getElem?_getD, List.getElem?_eq_getElem hi]; rfl
  have hd : L.take i ++ rd_T56 L i :: L.drop (i + 1) = L := by
    have h1 := List.take_append_drop i L
    rw [List.drop_eq_getElem_cons hi] at h1
    rw [List.getElem?_eq_getElem hi] at e
    injection e with e
    rw [← e]
    exact h1
  rw [← hd, List.map_append, List.nodup_append] at h
  intro hm
  exact h.2.2 _ hm _ (by simp) rfl
theorem take_map (L : List S56) (i : Nat) (h : i < L.length) : (L.take (i + 1)).map (·.f0) = (L.take i).map (·.f0) ++ [(rd_T56 L i).f0] := by
  have e : L[i]? = some (rd_T56 L i) := by
    unfold rd_T56
    rw [Int.toNat_natCast, List.getD_eq_getElem?_getD, List.getElem?_eq_getElem h]; rfl
  rw [List.take_add_one, e, List.map_append]
  rfl

set_option maxRecDepth 100000 in
set_option maxHeartbeats 8000000 in
theorem walk {w : World} (A : Option Addr) (c : Nat) (l : List Int) (B : Option Addr) (d : Nat) (l2 : List Int) (now : Int) (h : (Kd.int .u8).C w A l.length l) (h2 : (Kd.int .u8).C w B l2.length l2) (hr : ∀ x ∈ l, 0 ≤ x ∧ x ≤ 255) (hr2 : ∀ x ∈ l2, 0 ≤ x ∧ x ≤ 255) (hn : 0 ≤ now) (hn9 : now ≤ 4294967295) :
    Calls Try.prog 6 #[.slice A l.length c, .slice B l2.length d, .int .u32 now] w fun e w' => e = .returned (.bool true) ∧ Below w.heap.size w w' := by
  have H := Lib.hid h
  have H2 := Lib.hid h2
  have HR := Lib.hid hr
  have HR2 := Lib.hid hr2
  clear h h2 hr hr2
  go_enter Try.func6, Try.ntmps6
  go_wp2_with fail
  refine (LossAwake.awake_calls w).mono ?_
  rintro e w1 ⟨rfl, hb1⟩
  have HB := Lib.hid hb1
  clear hb1
  by_cases hl1 : l.length > 100
  · have g1 : decide ((l.length : Int) > 100) = true := decide_eq_true (by omega)
    go_wp2_with fail
    go_ret
    exact ⟨rfl, HB.out⟩
  have g1 : decide ((l.length : Int) > 100) = false := decide_eq_false (by omega)
  by_cases hl2 : l2.length > 30
  · have g2 : decide ((l2.length : Int) > 30) = true := decide_eq_true (by omega)
    go_wp2_with fail
    go_ret
    exact ⟨rfl, HB.out⟩
  have g2 : decide ((l2.length : Int) > 30) = false := decide_eq_false (by omega)
  go_wp2_with fail
  refine (new_calls w1).mono ?_
  rintro e w2 ⟨rfl, hl3, hb2⟩
  have hww : w.heap.size ≤ w1.heap.size := HB.out.size
  generalize w1.heap.size = g at *
  have HL := Lib.hid hl3
  have HB2 := Lib.hid hb2
  clear hl3 hb2 g1 g2
  go_upto_region 8 with (fail)
  go_loopw [8, 33] (fun nv i wr => ∃ (j : Nat) (n : Int) (ps : List S56) (B : Option Addr) (d : Nat) (la : Int) (wt : Bool) (ls : Int) (sm : Bool), j ≤ l.length ∧ nv = .int .u64 n ∧ i = .int .i64 j ∧ 0 ≤ n ∧ n ≤ 3 * j ∧ Kept' ps n j ∧ Led wr g g B d ps (-1) la wt ls sm ∧ Below g w1 wr) (fun _ i _ => l.length - (intOf i).toNat)
  case atStart => exact ⟨0, 0, [], none, 0, 0, false, 0, false, Nat.zero_le _, rfl, rfl, by omega, by omega, ⟨by simp, by simp, by simp⟩, HL.out, HB2.out⟩
  case round =>
    clear HL HB2
    obtain ⟨j, n, ps, B1, d1, la, wt, ls, sm, hj, rfl, rfl, hn0, hnj, hk, hl3, hb2⟩ := hrel
    have HL := Lib.hid hl3
    have HB2 := Lib.hid hb2
    have HK := Lib.hid hk
    clear hl3 hb2 hk
    have hgr : g ≤ wr.heap.size := Nat.le_of_lt (blk_lt HL.out.blk)
    by_cases hjl : j < l.length
    · obtain ⟨ad, rfl, hc⟩ := Kd.at_int (Kd.C_below H.out (HB.out.trans (HB2.out.mono hww))) j (by omega) (by omega)
      rw [Int.toNat_natCast] at hc
      have hx := HR.out (rd l j) (by unfold rd; rw [Int.toNat_natCast, List.getD_eq_getElem?_getD, List.getElem?_eq_getElem hjl]; exact List.getElem_mem _)
      generalize rd l j = x at *
      have l1 : (j : Int) < (l.length : Int) := by omega
      have m3 : 0 ≤ x % 3 ∧ x % 3 < 3 := by omega
      obtain ⟨z, hz⟩ : ∃ z, x % 3 = z := ⟨_, rfl⟩
      rw [hz] at m3
      go_wp2_with fail
      have hkn := kept_more HK.out ⟨n + (1 + z), (j : Int) * 1000, 10, true, true⟩ hn0 (show n < n + (1 + z) by omega) rfl
      have hs := sent_calls HL.out hgr (n + (1 + z)) ((j : Int) * 1000) 10 (fun y hy => by have := HK.out.small y hy; omega) (by have := HK.out.len; omega) (by omega) (by omega)
      refine hs.mono ?_
      clear hs
      rintro e w3 ⟨rfl, B', d', hl4, hb3⟩
      have HL3 := Lib.hid hl4
      have HB3 := Lib.hid (HB2.out.trans hb3)
      have HKN := Lib.hid hkn
      clear hl4 hb3 hkn
      go_wp2_with fail
      go_roundw
      case rel => exact ⟨j + 1, n + (1 + z), _, B', d', la, wt, _, true, by omega, rfl, by go_num, by omega, by omega, HKN.out, HL3.out, HB3.out⟩
      case measure => simp [intOf]; omega
    · have hje : j = l.length := by omega
      subst hje
      have l1 : decide ((l.length : Int) < (l.length : Int)) = false := decide_eq_false (by omega)
      clear hj hjl
      go_wp2_with fail
      refine (rtt_New.calls 0 0 333000 166500 false wr rfl).mono ?_
      rintro e w3 ⟨rfl, hb3⟩
      have hl4 := HL.out.below (below_step hb3 (below_alloc (Below.refl _ _) (RB 0 0 333000 166500 false)))
      have hb4 := HB2.out.trans ((below_step hb3 (below_alloc (Below.refl _ _) (RB 0 0 333000 166500 false))).mono hgr)
      have k4 := blk_new w3 (RB 0 0 333000 166500 false)
      have hgr4 : g ≠ w3.heap.size := by have := blk_lt (blk_below HL.out.blk hb3); omega
      clear HL HB2 hb3
      go_upto_region 14 with (fail)
      show Code.wp _ _ _ _ (w3.alloc (RB 0 0 333000 166500 false))
      generalize hw5 : w3.alloc (RB 0 0 333000 166500 false) = w5 at *
      have hbm : w5.heap.size = w3.heap.size + 1 := by rw [← hw5, alloc_size]
      clear hw5
      generalize w3.heap.size = gr at *
      have hbm1 : w5.heap.size ≠ gr := by omega
      clear hbm
      have hs6 := seen_made w5
      have hl6 := hl4.below (below_alloc (Below.refl _ _) (.map #[] 0))
      have hb6 := hb4.trans ((below_alloc (Below.refl w5.heap.size w5) (.map #[] 0)).mono (Nat.le_of_lt (blk_lt hl4.blk)))
      have k6 := blk_below k4 (below_alloc (Below.refl w5.heap.size w5) (.map #[] 0))
      have hgm : g ≠ w5.heap.size := by have := blk_lt hl4.blk; omega
      have hgm2 : g ≤ w5.heap.size := Nat.le_of_lt (blk_lt hl4.blk)
      have hmm := @run_makeMap Try.prog
      clear hl4 hb4 k4
      go_upto_region 16 with (fail)
      generalize w5.alloc (.map #[] 0) = w6 at *
      generalize w5.heap.size = bm at *
      have HL := Lib.hid hl6
      have HB2 := Lib.hid hb6
      have HS := Lib.hid hs6
      have KR := Lib.hid k6
      clear hl6 hb6 hs6 k6 hmm
      have HK1 := Lib.hid (show Kept' ps n 100 from ⟨HK.out.small, HK.out.apart, Nat.le_trans HK.out.len (by omega)⟩)
      have hn3 : n ≤ 300 := by omega
      clear HK hnj
      go_loopw [56] (fun i wr => ∃ (j : Nat) (ps : List S56) (S : List Int) (B : Option Addr) (d : Nat) (ak la : Int) (wt : Bool) (ls : Int) (sm : Bool), j ≤ l2.length ∧ i = .int .i64 j ∧ Kept' ps n 100 ∧ (∀ p ∈ ps, p.f0 ∉ S) ∧ -1 ≤ ak ∧ ak ≤ 300 ∧ Led wr g g B d ps ak la wt ls sm ∧ SeenM wr bm (100 * j) S ∧ wr.heap[gr]? = some (RB 0 0 333000 166500 false) ∧ Below g w1 wr) (fun i _ => l2.length - (intOf i).toNat)
      case atStart => exact ⟨0, ps, [], B1, d1, -1, la, wt, ls, sm, Nat.zero_le _, rfl, HK1.out, by simp, by omega, by omega, HL.out, HS.out, KR.out, HB2.out⟩
      case round =>
        clear HL HB2 HS KR HK1
        obtain ⟨j, ps2, S, B2, d2, ak, la2, wt2, ls2, sm2, hj, rfl, hk, hps, hak, hak9, hl, hs, kr, hb⟩ := hrel
        have HL := Lib.hid hl
        have HB2 := Lib.hid hb
        have HS := Lib.hid hs
        have KR := Lib.hid kr
        have HK := Lib.hid hk
        have HP := Lib.hid hps
        clear hl hb hs kr hk hps
        by_cases hjl : j < l2.length
        · obtain ⟨ad, rfl, hc⟩ := Kd.at_int (Kd.C_below H2.out (HB.out.trans (HB2.out.mono hww))) j (by omega) (by omega)
          rw [Int.toNat_natCast] at hc
          have hx := HR2.out (rd l2 j) (by unfold rd; rw [Int.toNat_natCast, List.getD_eq_getElem?_getD, List.getElem?_eq_getElem hjl]; exact List.getElem_mem _)
          generalize rd l2 j = y at *
          have l3 : (j : Int) < (l2.length : Int) := by omega
          have hn1 : ¬ n + 1 = 0 := by omega
          obtain ⟨x, hx2⟩ : ∃ x : Nat, y % (n + 1) = x := ⟨(y % (n + 1)).toNat, by have := Int.emod_nonneg y hn1; omega⟩
          have hxn : (x : Int) < n + 1 := by have := Int.emod_lt_of_pos y (show 0 < n + 1 by omega); omega
          go_upto_region 19 with (fail)
          rw [hx2]
          have k6 := blk_new wr (.cells #[.int .u64 (x : Int), .int .u64 ((x : Int) + 1)] 65)
          have hl6 := HL.out.below (below_alloc (Below.refl _ _) (.cells #[.int .u64 (x : Int), .int .u64 ((x : Int) + 1)] 65))
          have hb6 := HB2.out.trans ((below_alloc (Below.refl wr.heap.size wr) (.cells #[.int .u64 (x : Int), .int .u64 ((x : Int) + 1)] 65)).mono (Nat.le_of_lt (blk_lt HL.out.blk)))
          have kr6 := blk_below KR.out (below_alloc (Below.refl wr.heap.size wr) (.cells #[.int .u64 (x : Int), .int .u64 ((x : Int) + 1)] 65))
          have hs6 := HS.out.move ((below_alloc (Below.refl wr.heap.size wr) (.cells #[.int .u64 (x : Int), .int .u64 ((x : Int) + 1)] 65)).block _ HS.out.lt)
          clear hx2 HL HB2 KR HS
          go_wp2_with fail
          generalize wr.alloc (.cells #[.int .u64 (x : Int), .int .u64 ((x : Int) + 1)] 65) = w6 at *
          have hcm := came_calls hl6 (Nat.le_of_lt (blk_lt hl6.blk)) (x : Int) (n + 1) wr.heap.size 1 (blk_cell k6 0) (blk_cell k6 1) (by omega) hxn (by omega) (by omega) (by omega) (fun p hp => by have := HK.out.small p hp; omega) (by have := HK.out.len; omega)
          refine hcm.mono ?_
          clear hcm
          rintro e w7 ⟨C1, B3, cc1, b3, m1, rfl, hl7, hb7, hk7⟩
          obtain ⟨ak3, hak3⟩ : ∃ ak3, (if (ps2.filter (isx (x : Int))).length = 0 then ak else max ak (x : Int)) = ak3 := ⟨_, rfl⟩
          have hakb : -1 ≤ ak3 ∧ ak3 ≤ 300 := by rw [← hak3]; split <;> omega
          rw [hak3] at hl7
          have hks := HK.out.sub (fun p => !isx (x : Int) p)
          have hps7 : ∀ p ∈ ps2.filter (fun p => !isx (x : Int) p), p.f0 ∉ S := fun p hp => HP.out p (List.mem_filter.1 hp).1
          have HB2 := Lib.hid (hb6.trans hb7)
          have KR := Lib.hid (hk7.blk kr6 (fun h => hgr4 h.symm) (by simp))
          have HS := Lib.hid (hs6.move (hk7.2 bm hs6.lt (fun h => hgm h.symm) (by simp)))
          have HL := Lib.hid hl7
          clear HK HP hak3
          generalize ps2.filter (fun p => !isx (x : Int) p) = L1 at *
          generalize (ps2.filter (isx (x : Int))).length = nc at *
          have HK := Lib.hid hks
          have HP := Lib.hid hps7
          clear hl7 hb7 hk7 hb6 kr6 hl6 k6 hs6 hks hps7
          obtain ⟨q0, q1, q2, q3, q4⟩ := rb_cells KR.out
          go_wp2_with fail
          refine (find_calls HL.out (Nat.le_of_lt (blk_lt HL.out.blk)) now 0 0 333000 166500 false 374625 LossAwake.lost_new (by omega) (by omega) (fun p hp => by have := HK.out.small p hp; omega) (by have := HK.out.len; omega)).mono ?_
          rintro e w8 ⟨C2, B4, cc2, b4, rfl, hq8, hl8, hb8, hk8⟩
          have hks := HK.out.sub (fun p => !isLost ak3 now 374625 p)
          have hlo := HK.out.sub (isLost ak3 now 374625)
          have hll : ∀ p ∈ L1.filter (isLost ak3 now 374625), isLost ak3 now 374625 p = true := fun p hp => (List.mem_filter.1 hp).2
          have hpl : ∀ p ∈ L1.filter (isLost ak3 now 374625), p.f0 ∉ S := fun p hp => HP.out p (List.mem_filter.1 hp).1
          have hpn : ∀ p ∈ L1.filter (fun p => !isLost ak3 now 374625 p), p.f0 ∉ S ++ (L1.filter (isLost ak3 now 374625)).map (·.f0) := by
            intro p hp hm
            obtain ⟨hp1, hp2⟩ := List.mem_filter.1 hp
            rcases List.mem_append.1 hm with hm | hm
            · exact HP.out p hp1 hm
            · obtain ⟨q, hq, he⟩ := List.mem_map.1 hm
              obtain ⟨hq1, hq2⟩ := List.mem_filter.1 hq
              have := nodup_inj HK.out.apart hq1 hp1 he
              subst this
              rw [hq2] at hp2
              cases hp2
          have hb9 := HB2.out.trans hb8
          have kr9 := hk8.blk KR.out (fun h => hgr4 h.symm) (by simp)
          have hs9 := HS.out.move (hk8.2 bm HS.out.lt (fun h => hgm h.symm) (by simp))
          obtain ⟨la5, hla5⟩ : ∃ la5, (L1.foldl (nxt ak3 now 374625) (la2, false)).1 = la5 := ⟨_, rfl⟩
          obtain ⟨wt5, hwt5⟩ : ∃ wt5, (L1.foldl (nxt ak3 now 374625) (la2, false)).2 = wt5 := ⟨_, rfl⟩
          rw [hla5, hwt5] at hl8
          clear hla5 hwt5 HL HB2 KR HS HK HP hb8 hk8 q0 q1 q2 q3 q4
          generalize L1.filter (fun p => !isLost ak3 now 374625 p) = L2 at *
          generalize L1.filter (isLost ak3 now 374625) = L3 at *
          have HL := Lib.hid hl8
          have HB2 := Lib.hid hb9
          have KR := Lib.hid kr9
          have HS := Lib.hid hs9
          have HQ := Lib.hid hq8
          have HK := Lib.hid hks
          have HK3 := Lib.hid hlo
          have HLL := Lib.hid hll
          have HPL := Lib.hid hpl
          have HPN := Lib.hid hpn
          clear hl8 hb9 kr9 hs9 hq8 hks hlo hll hpl hpn
          generalize w7.heap.size = b7 at *
          go_upto_region 21 with (fail)
          go_loopw [80] (fun i wy => ∃ i' : Nat, i' ≤ L3.length ∧ i = .int .i64 i' ∧ Led wy g g B4 b4 L2 ak3 la5 wt5 ls2 sm2 ∧ Below g w1 wy ∧ wy.heap[gr]? = some (RB 0 0 333000 166500 false) ∧ SeenM wy bm (100 * j + i') (S ++ (L3.take i').map (·.f0)) ∧ k56.Q 56 wy b7 (fun _ => True) (.slice C2 L3.length cc2) L3) (fun i _ => L3.length - (intOf i).toNat)
          case atStart => exact ⟨0, Nat.zero_le _, rfl, HL.out, HB2.out, KR.out, by simpa using HS.out, HQ.out⟩
          case round =>
            clear HL HB2 KR HS HQ
            obtain ⟨i, hi, rfl, hl, hb, hkr, hs, hq⟩ := hrel
            by_cases hil : i < L3.length
            · have e1 : (i : Int) < (L3.length : Int) := by omega
              obtain ⟨ra, o, cap, hA, _⟩ := Kd.Q_form hq (by omega)
              obtain rfl : C2 = some ⟨ra, o, none⟩ := by injection hA
              clear hA
              obtain ⟨p0, p1, p2, p3, p4⟩ := row_cells hq i hil
              have hmem : rd_T56 L3 i ∈ L3 := by unfold rd_T56; rw [Int.toNat_natCast, List.getD_eq_getElem?_getD, List.getElem?_eq_getElem hil]; exact List.getElem_mem _
              have hlp := HLL.out _ hmem
              have hsm := HK3.out.small _ hmem
              have hns : (rd_T56 L3 i).f0 ∉ S ++ (L3.take i).map (·.f0) := fun hm => by
                rcases List.mem_append.1 hm with hm | hm
                · exact HPL.out _ hmem hm
                · exact not_ahead HK3.out.apart hil hm
              have HTM := Lib.hid (take_map L3 i hil)
              have hlen := HK3.out.len
              generalize rd_T56 L3 i = p at *
              have HNS := Lib.hid hns
              go_upto_region 23 with (fail)
              have kp := blk_new wr (PK p)
              have hl2 := hl.below (below_alloc (Below.refl _ _) (PK p))
              have hb2 := hb.trans ((below_alloc (Below.refl wr.heap.size wr) (PK p)).mono (Nat.le_of_lt (blk_lt hl.blk)))
              have kr2 := blk_below hkr (below_alloc (Below.refl wr.heap.size wr) (PK p))
              have hs2 := hs.move ((below_alloc (Below.refl wr.heap.size wr) (PK p)).block _ hs.lt)
              have hq2 := Kd.Q_below hq (below_alloc (Below.refl wr.heap.size wr) (PK p))
              show Code.wp _ _ _ _ (wr.alloc (PK p))
              clear hl hb hkr hs hq p0 p1 p2 p3 p4 hmem hns
              generalize wr.alloc (PK p) = w9 at *
              generalize wr.heap.size = gp at *
              have hab : ¬ ak3 < 0 ∧ ¬ ak3 < p.f0 := by
                unfold isLost ab at hlp
                simp at hlp
                omega
              have hlo : ak3 - p.f0 ≥ 3 ∨ LossFind.due 374625 p ≤ now := by
                unfold isLost lo at hlp
                simp at hlp
                rcases hlp.2 with h | h
                · exact .inl (by omega)
                · exact .inr h
              have hac : ∀ m, (w9.drewN m).heap[g]? = some (LD B4 L2.length b4 ak3 la5 wt5 ls2 sm2) := fun m => blk_below hl2.blk (pw_below_drewN (Below.refl _ _) m)
              have HL := Lib.hid hl2
              have HB2 := Lib.hid hb2
              have KR := Lib.hid kr2
              have HS := Lib.hid hs2
              have HQ := Lib.hid hq2
              have KP := Lib.hid kp
              clear hl2 hb2 kr2 hs2 hq2 kp
              have HAC := Lib.hid hac
              clear hac hlp
              obtain ⟨p0, p1, p2, p3, p4⟩ := pk_cells KP.out
              obtain ⟨fr, hfr⟩ : ∃ fr, decide (ak3 - p.f0 ≥ 3) = fr := ⟨_, rfl⟩
              have gi : IntKind.i64.wrap p.f0 = p.f0 := by rw [IntKind.wrap_i64]; omega
              have gj : IntKind.i64.wrap (ak3 - p.f0) = ak3 - p.f0 := by rw [IntKind.wrap_i64]; omega
              go_quiet (exact Calls.quiet_of_same (acked_calls (HAC.out _)))
              clear p0 p1 p2 p3 p4 HAC
              have hl2 := HL.out
              have hb2 := HB2.out
              have kr2 := KR.out
              have hs2 := HS.out
              have hq2 := HQ.out
              have kp := KP.out
              clear HL HB2 KR HS HQ KP
              have hl_ := hl2.below (pw_below_drewN (Below.refl w9.heap.size w9) nq)
              have hb_ := hb2.trans ((pw_below_drewN (Below.refl w9.heap.size w9) nq).mono (Nat.le_of_lt (blk_lt hl2.blk)))
              have kr_ := blk_below kr2 (pw_below_drewN (Below.refl w9.heap.size w9) nq)
              have hs_ := hs2.move ((pw_below_drewN (Below.refl w9.heap.size w9) nq).block _ hs2.lt)
              have hq_ := Kd.Q_below hq2 (pw_below_drewN (Below.refl w9.heap.size w9) nq)
              have kp_ := blk_below kp (pw_below_drewN (Below.refl w9.heap.size w9) nq)
              clear hl2 hb2 kr2 hs2 hq2 kp
              generalize w9.drewN nq = w10 at *
              have hl2 := hl_
              have hb2 := hb_
              have kr2 := kr_
              have hs2 := hs_
              have hq2 := hq_
              have kp := kp_
              clear hl_ hb_ kr_ hs_ hq_ kp_
              have HL := Lib.hid hl2
              have HB2 := Lib.hid hb2
              have KR := Lib.hid kr2
              have HS := Lib.hid hs2
              have HQ := Lib.hid hq2
              have KP := Lib.hid kp
              clear hl2 hb2 kr2 hs2 hq2 kp
              obtain ⟨p0, p1, p2, p3, p4⟩ := pk_cells KP.out
              obtain ⟨dv, hdv⟩ : ∃ dv, IntKind.u64.wrap (p.f1 + 374625) = dv := ⟨_, rfl⟩
              have hlo2 : ak3 - p.f0 ≥ 3 ∨ dv ≤ now := by rw [← hdv]; exact hlo
              obtain ⟨od, hod⟩ : ∃ od, decide (dv ≤ now) = od := ⟨_, rfl⟩
              have hfo : fr = true ∨ od = true := by
                rcases hlo2 with h | h
                · exact .inl (by rw [← hfr]; exact decide_eq_true h)
                · exact .inr (by rw [← hod]; exact decide_eq_true h)
              clear hlo hlo2
              have gn : IntKind.u64.wrap now = now := by rw [IntKind.wrap_u64]; omega
              go_upto_region 24 with (fail)
              have c0 : w10.cell? ⟨gp, 1, none⟩ = some (.int .u64 p.f1) ∧ w10.cell? ⟨gr, 0, none⟩ = some (.int .u64 0) ∧ w10.cell? ⟨gr, 1, none⟩ = some (.int .u64 0) ∧ w10.cell? ⟨gr, 2, none⟩ = some (.int .u64 333000) ∧ w10.cell? ⟨gr, 3, none⟩ = some (.int .u64 166500) ∧ w10.cell? ⟨gr, 4, none⟩ = some (.bool false) := ⟨p1, rb_cells KR.out⟩
              go_region_held3 (fun w' => w'.cell? ⟨gp, 1, none⟩ = some (.int .u64 p.f1) ∧ w'.cell? ⟨gr, 0, none⟩ = some (.int .u64 0) ∧ w'.cell? ⟨gr, 1, none⟩ = some (.int .u64 0) ∧ w'.cell? ⟨gr, 2, none⟩ = some (.int .u64 333000) ∧ w'.cell? ⟨gr, 3, none⟩ = some (.int .u64 166500) ∧ w'.cell? ⟨gr, 4, none⟩ = some (.bool false)) (first | go_keep | exact LossFind.keep6 (by assumption) (by assumption)) ((go_at_call 26; refine (rtt_Rtt_Lost.calls 0 0 333000 166500 false 374625 _ LossAwake.lost_new).mono ?_; rintro e wx ⟨rfl, hbx⟩))
              clear c0 p0 p1 p2 p3 p4
              have hl2 := HL.out
              have hb2 := HB2.out
              have kr2 := KR.out
              have hs2 := HS.out
              have hq2 := HQ.out
              have kp := KP.out
              clear HL HB2 KR HS HQ KP
              have hl_ := hl2.below (below_step (below_drew (Below.refl w10.heap.size w10)) hbx)
              have hb_ := hb2.trans ((below_step (below_drew (Below.refl w10.heap.size w10)) hbx).mono (Nat.le_of_lt (blk_lt hl2.blk)))
              have kr_ := blk_below kr2 (below_step (below_drew (Below.refl w10.heap.size w10)) hbx)
              have hs_ := hs2.move ((below_step (below_drew (Below.refl w10.heap.size w10)) hbx).block _ hs2.lt)
              have hq_ := Kd.Q_below hq2 (below_step (below_drew (Below.refl w10.heap.size w10)) hbx)
              have kp_ := blk_below kp (below_step (below_drew (Below.refl w10.heap.size w10)) hbx)
              clear hl2 hb2 kr2 hs2 hq2 kp
              have hl2 := hl_
              have hb2 := hb_
              have kr2 := kr_
              have hs2 := hs_
              have hq2 := hq_
              have kp := kp_
              clear hl_ hb_ kr_ hs_ hq_ kp_
              have hac : ∀ m, (wx.drewN m).heap[g]? = some (LD B4 L2.length b4 ak3 la5 wt5 ls2 sm2) := fun m => blk_below hl2.blk (pw_below_drewN (Below.refl _ _) m)
              have hlk : ∀ m, (Instr.lookup 60 (.map (some bm)) (.int .u64 p.f0) false).run Try.prog (wx.drewN m) = .ok (.bool false) (wx.drewN m) := fun m => (hs2.move ((pw_below_drewN (Below.refl wx.heap.size wx) m).block _ hs2.lt)).look p.f0 HNS.out (by omega) (by omega)
              have HAC := Lib.hid hac
              have HL := Lib.hid hl2
              have HB2 := Lib.hid hb2
              have KR := Lib.hid kr2
              have HS := Lib.hid hs2
              have HQ := Lib.hid hq2
              have KP := Lib.hid kp
              clear hl2 hb2 kr2 hs2 hq2 kp
              clear hac hbx hdv hod hfr
              obtain ⟨p0, p1, p2, p3, p4⟩ := pk_cells KP.out
              have gt : decide (p.f0 > ak3) = false := decide_eq_false (by omega)
              go_upto_region 25 with (fail)
              cases fr with
              | true =>
                go_quiet (exact Calls.quiet_of_same (acked_calls (HAC.out _)))
                have hl2 := HL.out.below (pw_below_drewN (Below.refl wx.heap.size wx) nq)
                have hb2 := HB2.out.trans ((pw_below_drewN (Below.refl wx.heap.size wx) nq).mono (Nat.le_of_lt (blk_lt HL.out.blk)))
                have kr2 := blk_below KR.out (pw_below_drewN (Below.refl wx.heap.size wx) nq)
                have hs2 := HS.out.move ((pw_below_drewN (Below.refl wx.heap.size wx) nq).block _ HS.out.lt)
                have hq2 := Kd.Q_below HQ.out (pw_below_drewN (Below.refl wx.heap.size wx) nq)
                have kp := blk_below KP.out (pw_below_drewN (Below.refl wx.heap.size wx) nq)
                clear HL HB2 KR HS HQ KP p0 p1 p2 p3 p4 hlk HAC
                generalize wx.drewN nq = wy at *
                obtain ⟨p0, p1, p2, p3, p4⟩ := pk_cells kp
                obtain ⟨wz, hrun, hsz, hgz⟩ := hs2.put p.f0 (by omega) (by omega) (by omega)
                have hl3 := led_map hs2 hl2 hgz hgm
                have hb3 := hb2.grown hgz (Nat.le_of_lt (blk_lt hl2.blk)) (fun k hk => by injection hk with hk; omega)
                have kr3 := blk_grown kr2 hgz (fun e => by injection e with e; exact hbm1 e.symm)
                have hq3 := Kd.Q_grown2 hq2 rfl hgz (fun k hk => by injection hk with hk; subst hk; exact hs2.off hq2)
                rw [List.append_assoc, ← HTM.out] at hsz
                have HL := Lib.hid hl3
                have HB2 := Lib.hid hb3
                have KR := Lib.hid kr3
                have HS := Lib.hid hsz
                have HQ := Lib.hid hq3
                clear hl2 hb2 kr2 hs2 hq2 kp hl3 hb3 kr3 hsz hq3 hgz
                go_wp2_with fail
                go_roundw
                case rel => exact ⟨i + 1, hil, by go_num, HL.out, HB2.out, KR.out, HS.out, HQ.out⟩
                case measure => simp [intOf]; omega
              | false =>
                obtain rfl : od = true := by simpa using hfo
                go_quiet (exact Calls.quiet_of_same (acked_calls (HAC.out _)))
                have hl2 := HL.out.below (pw_below_drewN (Below.refl wx.heap.size wx) nq)
                have hb2 := HB2.out.trans ((pw_below_drewN (Below.refl wx.heap.size wx) nq).mono (Nat.le_of_lt (blk_lt HL.out.blk)))
                have kr2 := blk_below KR.out (pw_below_drewN (Below.refl wx.heap.size wx) nq)
                have hs2 := HS.out.move ((pw_below_drewN (Below.refl wx.heap.size wx) nq).block _ HS.out.lt)
                have hq2 := Kd.Q_below HQ.out (pw_below_drewN (Below.refl wx.heap.size wx) nq)
                have kp := blk_below KP.out (pw_below_drewN (Below.refl wx.heap.size wx) nq)
                clear HL HB2 KR HS HQ KP p0 p1 p2 p3 p4 hlk HAC
                generalize wx.drewN nq = wy at *
                obtain ⟨p0, p1, p2, p3, p4⟩ := pk_cells kp
                obtain ⟨wz, hrun, hsz, hgz⟩ := hs2.put p.f0 (by omega) (by omega) (by omega)
                have hl3 := led_map hs2 hl2 hgz hgm
                have hb3 := hb2.grown hgz (Nat.le_of_lt (blk_lt hl2.blk)) (fun k hk => by injection hk with hk; omega)
                have kr3 := blk_grown kr2 hgz (fun e => by injection e with e; exact hbm1 e.symm)
                have hq3 := Kd.Q_grown2 hq2 rfl hgz (fun k hk => by injection hk with hk; subst hk; exact hs2.off hq2)
                rw [List.append_assoc, ← HTM.out] at hsz
                have HL := Lib.hid hl3
                have HB2 := Lib.hid hb3
                have KR := Lib.hid kr3
                have HS := Lib.hid hsz
                have HQ := Lib.hid hq3
                clear hl2 hb2 kr2 hs2 hq2 kp hl3 hb3 kr3 hsz hq3 hgz
                go_wp2_with fail
                go_roundw
                case rel => exact ⟨i + 1, hil, by go_num, HL.out, HB2.out, KR.out, HS.out, HQ.out⟩
                case measure => simp [intOf]; omega
            · have hie : i = L3.length := by omega
              subst hie
              have e1 : decide ((L3.length : Int) < (L3.length : Int)) = false := decide_eq_false (by omega)
              rw [List.take_length] at hs
              have hs5 := hs.mono (show 100 * j + L3.length ≤ 100 * (j + 1) by have := HK3.out.len; omega)
              have HL := Lib.hid hl
              have HB2 := Lib.hid hb
              have KR := Lib.hid hkr
              have HS := Lib.hid hs5
              clear hl hb hkr hs hq hs5
              go_wp2_with fail
              go_roundw
              case rel => exact ⟨j + 1, L2, S ++ L3.map (·.f0), B4, b4, ak3, la5, wt5, ls2, sm2, hjl, by go_num, HK.out, HPN.out, hakb.1, hakb.2, HL.out, HS.out, KR.out, HB2.out⟩
              case measure => simp [intOf]; omega
        · have hje : j = l2.length := by omega
          subst hje
          have e1 : decide ((l2.length : Int) < (l2.length : Int)) = false := decide_eq_false (by omega)
          have HF := Lib.hid (HB.out.trans (HB2.out.mono hww))
          go_wp2_with fail
          go_ret
          exact ⟨rfl, HF.out⟩
theorem rowWalk {W : World} (A : Option Addr) (len cap : Nat) (xs : List Int) (hl : xs.length = len) (_hc : len ≤ cap) (h : (Kd.int .u8).C W A len xs) (wf : xs.length * 1 ≤ reachBytes ∧ ∀ y ∈ xs, (Lit.int .u8 y).wf = true)
    (B : Option Addr) (len2 cap2 : Nat) (ys : List Int) (hl2 : ys.length = len2) (_hc2 : len2 ≤ cap2) (h2 : (Kd.int .u8).C W B len2 ys) (wf2 : ys.length * 1 ≤ reachBytes ∧ ∀ y ∈ ys, (Lit.int .u8 y).wf = true)
    (now : Int) (wn : (Lit.int .u32 now).wf = true) :
    Calls Try.prog 6 #[.slice A len cap, .slice B len2 cap2, .int .u32 now] W fun e w' => e = .returned (.bool true) ∧ Below W.heap.size W w' := by
  subst hl
  subst hl2
  have b2 := bounds_u32 wn
  exact walk A cap xs B cap2 ys now h h2 (fun x hx => bounds_u8 (wf.2 x hx)) (fun x hx => bounds_u8 (wf2.2 x hx)) b2.1 b2.2
end Go.Proofs.Ytclmnpdabnogkaa.RulesWalk
