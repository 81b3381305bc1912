/- The call of the law SpanPlays answers true for every input, and nothing that was there has changed. No condition. -/
import Derived.Test.YtiohjnhbapbglaaPlaysAsk
import Derived.Test.YtiohjnhbapbglaaSpAct
import Derived.Deep.CutBlock
namespace Go.Proofs.Ytiohjnhbapbglaa.PlaysWalk
open Go.RowKit Go.Proofs.Ytiohjnhbapbglaa.PSpanPlays Go.Proofs.Ytiohjnhbapbglaa.SpPure Go.Proofs.Ytiohjnhbapbglaa.SpLaw Go.Proofs.Ytiohjnhbapbglaa.SpSet Go.Proofs.Ytiohjnhbapbglaa.SpFind Go.Proofs.Ytiohjnhbapbglaa.SpCut Go.Proofs.Ytiohjnhbapbglaa.SpLast Go.Proofs.Ytiohjnhbapbglaa.SpFirst Go.Proofs.Ytiohjnhbapbglaa.PartsPure Go.Proofs.Ytiohjnhbapbglaa.SpAct Go.Proofs.Ytiohjnhbapbglaa.SpCount Go.Proofs.Ytiohjnhbapbglaa.AsksPure Go.Proofs.Ytiohjnhbapbglaa.PlaysPure Go.Proofs.Ytiohjnhbapbglaa.PlaysRef Go.Proofs.Ytiohjnhbapbglaa.PlaysAsk Go.Proofs.YtiohjnhbapbglaaW.PrintWords Go.Proofs.YtiohjnhbapbglaaW.PrintLast Go.Proofs.YtiohjnhbapbglaaW.PrintMore

set_option maxRecDepth 100000 in
set_option maxHeartbeats 40000000 in
theorem walk {w : World} (limit : Int) (hlim : -9223372036854775808 ≤ limit ∧ limit ≤ 9223372036854775807) (A : Option Addr) (c : Nat) (acts : List S30) (h : Kd.C k30 w A acts.length acts) (hr : ∀ x ∈ acts, Ok30 x) (_hal : acts.length ≤ 140737488351232)
    (AL : Option Addr) (cL : Nat) (look : List Int) (hlk : (Kd.int .u64).C w AL look.length look) (hl0 : ∀ n ∈ look, 0 ≤ n) (o : S28) :
    Calls Try.prog 5 #[.int .i64 limit, .slice A acts.length c, .slice AL look.length cL, .agg #[.int .u64 o.f0, .int .u64 o.f1]] w fun e w' => e = .returned (.bool true) ∧ Below w.heap.size w w' := by
  have kb := blk_new w (RG o)
  have hb0 := below_alloc (Below.refl w.heap.size w) (RG o)
  have hsz0 : w.heap.size < (w.alloc (RG o)).heap.size := blk_lt kb
  have H := Lib.hid h
  have HR := Lib.hid hr
  have HLK := Lib.hid hlk
  have HL0 := Lib.hid hl0
  clear h hr hlk hl0
  go_enter Try.func5, Try.ntmps5
  go_upto_region 1 with (fail)
  show Code.wp _ _ _ _ (w.alloc (RG o))
  generalize w.alloc (RG o) = wa at *
  have HB0 := Lib.hid hb0
  have KB := Lib.hid kb
  clear hb0 kb
  go_wp2_with fail
  refine (SpAsk.awake_calls wa).mono ?_
  rintro e w1 ⟨rfl, hb1⟩
  have HB := Lib.hid (below_step HB0.out hb1)
  have KB1 := Lib.hid (blk_below KB.out hb1)
  have hsz1 : w.heap.size < w1.heap.size := blk_lt KB1.out
  clear hb1 HB0 KB hsz0
  by_cases hl20 : look.length > 20
  · have d1 : decide ((look.length : Int) > 20) = true := decide_eq_true (by omega)
    go_wp2_with fail
    go_ret
    exact ⟨rfl, HB.out⟩
  have d1 : decide ((look.length : Int) > 20) = false := decide_eq_false (by omega)
  go_wp2_with fail
  refine (new_calls limit w1).mono ?_
  rintro e w2 ⟨rfl, hs2, hb2⟩
  obtain ⟨lim, hlm⟩ : ∃ lim, mx limit 1 = lim := ⟨_, rfl⟩
  have hlim1 : 1 ≤ lim ∧ lim ≤ 9223372036854775807 := by rw [← hlm]; unfold mx; split <;> omega
  have hlm2 : (if limit < 1 then 1 else limit) = lim := hlm
  rw [hlm] at hs2
  have HP := Lib.hid (show PR w1.heap.size w1 w2 lim none 0 none 0 [] [] from ⟨rfl, hs2, Kd.Q_nil _ _ _ _ _, trivial, (fun x hx => by cases hx), by have := hlim1.1; simp; omega, hb2⟩)
  clear hs2 hb2 d1 hlm
  go_upto_block 0 with (fail)
  have hww : w.heap.size ≤ w1.heap.size := HB.out.size
  generalize hgg : w1.heap.size = g at *
  go_cut [10] (fun mv wx => ∃ (l : List S28) (M : List S45) (B : Option Addr) (d : Nat) (A2 : Option Addr) (cm : Nat), mv = .slice A2 M.length cm ∧ l.length ≤ 80 ∧ PR g w1 wx lim B d A2 cm l M)
  case first =>
    as_aux_lemma =>
    go_wp2_with fail
    go_loopw [10, 46] (fun mv i wr => ∃ (j : Nat) (l : List S28) (M : List S45) (B : Option Addr) (d : Nat) (A2 : Option Addr) (cm : Nat), j ≤ acts.length ∧ i = .int .i64 j ∧ mv = .slice A2 M.length cm ∧ l.length ≤ j ∧ l.length ≤ 80 ∧ PR g w1 wr lim B d A2 cm l M) (fun _ i _ => acts.length - (intOf i).toNat)
    case atStart => exact ⟨0, [], [], none, 0, none, 0, Nat.zero_le _, rfl, rfl, by simp, by simp, HP.out⟩
    case round =>
      clear HP
      obtain ⟨j, l, M, B, d, A2, cm, hj, rfl, rfl, hlj, hl80, hp⟩ := hrel
      have HP := Lib.hid hp
      clear hp
      have hgr : g ≤ wr.heap.size := Nat.le_of_lt (Nat.lt_of_le_of_lt HP.out.s.old HP.out.s.lt)
      by_cases hjl : j < acts.length
      · obtain ⟨ad, hA, p0, p1, p2, p3, p4, p5⟩ := at_30 (Kd.C_below H.out (HB.out.trans (HP.out.b.mono hww))) (j : Int) (by omega) (by omega)
        subst hA
        rw [Int.toNat_natCast] at p0 p1 p2 p3 p4 p5
        have hx := HR.out (rd30 acts j) (by unfold rd30; rw [Int.toNat_natCast, List.getD_eq_getElem?_getD, List.getElem?_eq_getElem hjl]; exact List.getElem_mem _)
        generalize rd30 acts j = x at *
        have l1 : (j : Int) < (acts.length : Int) := by omega
        go_upto_region 11 with (fail)
        have k0 := blk_new wr (AC x)
        have hp0 := HP.out.below (below_alloc (Below.refl wr.heap.size wr) (AC x))
        show Code.wp _ _ _ _ (wr.alloc (AC x))
        have hgw : wr.heap.size < (wr.alloc (AC x)).heap.size := blk_lt k0
        have hsg : g ≠ wr.heap.size := by have := HP.out.s.lt; omega
        clear HP p0 p1 p2 p3 p4 p5
        generalize wr.alloc (AC x) = w3 at *
        generalize wr.heap.size = ga at *
        have HP := Lib.hid hp0
        have K0 := Lib.hid k0
        clear hp0 k0
        by_cases hj80 : j ≥ 80
        · have l2 : decide ((j : Int) ≥ 80) = true := decide_eq_true (by omega)
          go_wp2_with fail
          go_meet
          case rel => exact ⟨l, M, B, d, A2, cm, rfl, hl80, HP.out⟩
        have l2 : decide ((j : Int) ≥ 80) = false := decide_eq_false (by omega)
        obtain ⟨p0, p1, p2, p3, p4, p5⟩ := ac_cells K0.out
        go_wp2_with fail
        refine (range_calls x w3).mono ?_
        rintro e w4 ⟨rfl, hb4⟩
        have hbr := rng_bd x hx
        have hp4 := HP.out.below hb4
        have k4 := blk_below K0.out hb4
        have hgw4 : ga < w4.heap.size := blk_lt k4
        clear HP K0 hb4 p0 p1 p2 p3 p4 p5
        generalize rng x = r at *
        go_upto_region 13 with (fail)
        have kr := blk_new w4 (RG r)
        have hp5 := hp4.below (below_alloc (Below.refl w4.heap.size w4) (RG r))
        have k5 := blk_below k4 (below_alloc (Below.refl w4.heap.size w4) (RG r))
        show Code.wp _ _ _ _ (w4.alloc (RG r))
        have hsg4 : g ≠ w4.heap.size := by have := hp4.s.lt; omega
        generalize w4.alloc (RG r) = w5 at *
        generalize w4.heap.size = gb at *
        clear hp4 k4
        go_wp2_with fail
        refine (copy_calls hp5.s (by omega)).mono ?_
        rintro e w6 ⟨gw, Bw, dw, rfl, hs6, hb6⟩
        have HP := Lib.hid (hp5.below hb6)
        have K0 := Lib.hid (blk_below k5 hb6)
        have KR := Lib.hid (blk_below kr hb6)
        have hgw5 : g ≤ w5.heap.size := Nat.le_of_lt (Nat.lt_of_le_of_lt hp5.s.old hp5.s.lt)
        have hwg : g ≠ gw := by have := hp5.s.lt; have := hs6.old; omega
        have HWS := Lib.hid (hs6.lower hgw5)
        have hbx := HP.out.b
        clear hp5 k5 kr hs6 hb6 hgw5 hbx
        obtain ⟨p0, p1, p2, p3, p4, p5⟩ := ac_cells K0.out
        go_upto_block 2 with (fail)
        have hq : (x.f0.tmod 6 < 3) ∨ (x.f0.tmod 6 = 3) ∨ (¬ x.f0.tmod 6 < 3 ∧ ¬ x.f0.tmod 6 = 3) := by omega
        generalize x.f0.tmod 6 = q at *
        have HRG := Lib.hid hbr
        go_cut [10] (fun mv wx => SR g gw ga w1 wx lim l x mv)
        case first =>
          obtain ⟨r0, r1⟩ := rg_cells KR.out
          rcases hq with hq | hq | ⟨hq, hq2⟩
          · have q1 : decide (q < 3) = true := decide_eq_true hq
            as_aux_lemma =>
            go_wp2_with fail
            refine (ref_calls r w6).mono ?_
            rintro e w7 ⟨rfl, hb7⟩
            have hb_ := hb7
            have HP2 := Lib.hid (HP.out.below hb_)
            have K02 := Lib.hid (blk_below K0.out hb_)
            have KR2 := Lib.hid (blk_below KR.out hb_)
            have HWS2 := Lib.hid (HWS.out.below hb_)
            clear hb_ hb7 HP K0 KR HWS p0 p1 p2 p3 p4 p5 r0 r1
            have HP := HP2
            have K0 := K02
            have KR := KR2
            have HWS := HWS2
            clear HP2 K02 KR2 HWS2
            obtain ⟨p0, p1, p2, p3, p4, p5⟩ := ac_cells K0.out
            obtain ⟨r0, r1⟩ := rg_cells KR.out
            obtain ⟨X, hX⟩ : ∃ X, (addR l r).map toS = X := ⟨_, rfl⟩
            have HX := Lib.hid hX
            have HXL := Lib.hid (show X.length = (addR l r).length by rw [← hX, List.length_map])
            clear hX
            go_wp2_with fail
            refine (radd_calls (R := X) hgg HP.out.b HP.out.q r.f0 r.f1 (by rw [HP.out.m, ← HX.out]; exact add_f l (by omega) (nf_pos HP.out.nf) r)).mono ?_
            rintro e w8 ⟨AX, cX, rfl, hqx, hb8⟩
            have hb_ := hb8
            have HP2 := Lib.hid (HP.out.below hb_)
            have K02 := Lib.hid (blk_below K0.out hb_)
            have KR2 := Lib.hid (blk_below KR.out hb_)
            have HWS2 := Lib.hid (HWS.out.below hb_)
            clear hb_ hb8 HP K0 KR HWS p0 p1 p2 p3 p4 p5 r0 r1
            have HP := HP2
            have K0 := K02
            have KR := KR2
            have HWS := HWS2
            clear HP2 K02 KR2 HWS2
            obtain ⟨p0, p1, p2, p3, p4, p5⟩ := ac_cells K0.out
            obtain ⟨r0, r1⟩ := rg_cells KR.out
            have HQX := Lib.hid hqx
            clear hqx
            go_wp2_with fail
            refine (add_calls HP.out.s (Nat.le_of_lt (Nat.lt_of_le_of_lt HP.out.s.old HP.out.s.lt)) r (by omega)).mono ?_
            intro e w9 hap
            obtain ⟨hb9, hk9, hcase⟩ := ap_un hap HP.out.le
            have hm9 := row45_keep HP.out.q HP.out.s.blk rfl hk9
            have hx9 := row45_keep HQX.out HP.out.s.blk rfl hk9
            have hws9 := st_keep HWS.out HP.out.s hwg.symm hk9
            have k9 := hk9.blk K0.out hsg.symm (by simp)
            have kr9 := hk9.blk KR.out hsg4.symm (by simp)
            have hb9' := HP.out.b.trans hb9
            have HM9 := Lib.hid hm9
            have HQ9 := Lib.hid hx9
            have HW9 := Lib.hid hws9
            have K09 := Lib.hid k9
            have HB9 := Lib.hid hb9'
            obtain ⟨r0', r1'⟩ := rg_cells kr9
            rcases hcase with ⟨hle9, rfl, B9, d9, hs9⟩ | ⟨hle9, hre9, rfl, B9, d9, hs9⟩
            · have HN9 := Lib.hid (add_nf l r HP.out.nf)
              have HD9 := Lib.hid (add_bd l r HP.out.bd hbr.1 hbr.2)
              have hl9 := add_len l r
              have d2 : decide ((X.length : Int) ≤ lim) = true := decide_eq_true (by rw [HXL.out]; exact hle9)
              have HS9 := Lib.hid hs9
              clear hap hb9 hk9 hm9 hx9 hws9 k9 kr9 hb9' hs9 HP HQX HWS K0 KR p0 p1 p2 p3 p4 p5 r0 r1
              go_wp2_with fail
              go_meet
              case rel => exact ⟨addR l r, X, B9, d9, AX, cX, rfl, hl9, ⟨HX.out.symm, HS9.out, HQ9.out, HN9.out, HD9.out, hle9, HB9.out⟩, ⟨_, _, HW9.out⟩, K09.out⟩
            · have d2 : decide ((X.length : Int) ≤ lim) = false := decide_eq_false (by rw [HXL.out]; exact hle9)
              have d3 : decide (r.f0 ≥ r.f1) = false := decide_eq_false hre9
              have HPP := Lib.hid (show PR g w1 w9 lim B9 d9 A2 cm l M from ⟨HP.out.m, hs9, hm9, HP.out.nf, HP.out.bd, HP.out.le, hb9'⟩)
              clear hap hb9 hk9 hm9 hx9 hws9 k9 kr9 hb9' hs9 HP HQX HWS K0 KR p0 p1 p2 p3 p4 p5 r0 r1 hle9 hre9
              go_wp2_with fail
              go_meet
              case rel => exact ⟨l, M, B9, d9, A2, cm, rfl, by omega, HPP.out, ⟨_, _, HW9.out⟩, K09.out⟩
          · subst hq
            have q1 : decide ((3 : Int) < 3) = false := decide_eq_false (by omega)
            as_aux_lemma =>
            go_wp2_with fail
            refine (ref_calls r w6).mono ?_
            rintro e w7 ⟨rfl, hb7⟩
            have hb_ := hb7
            have HP2 := Lib.hid (HP.out.below hb_)
            have K02 := Lib.hid (blk_below K0.out hb_)
            have KR2 := Lib.hid (blk_below KR.out hb_)
            have HWS2 := Lib.hid (HWS.out.below hb_)
            clear hb_ hb7 HP K0 KR HWS p0 p1 p2 p3 p4 p5 r0 r1
            have HP := HP2
            have K0 := K02
            have KR := KR2
            have HWS := HWS2
            clear HP2 K02 KR2 HWS2
            obtain ⟨p0, p1, p2, p3, p4, p5⟩ := ac_cells K0.out
            obtain ⟨r0, r1⟩ := rg_cells KR.out
            obtain ⟨X, hX⟩ : ∃ X, (addR l r).map toS = X := ⟨_, rfl⟩
            have HX := Lib.hid hX
            have HXL := Lib.hid (show X.length = (addR l r).length by rw [← hX, List.length_map])
            clear hX
            go_wp2_with fail
            refine (radd_calls (R := X) hgg HP.out.b HP.out.q r.f0 r.f1 (by rw [HP.out.m, ← HX.out]; exact add_f l (by omega) (nf_pos HP.out.nf) r)).mono ?_
            rintro e w8 ⟨AX, cX, rfl, hqx, hb8⟩
            have hb_ := hb8
            have HP2 := Lib.hid (HP.out.below hb_)
            have K02 := Lib.hid (blk_below K0.out hb_)
            have KR2 := Lib.hid (blk_below KR.out hb_)
            have HWS2 := Lib.hid (HWS.out.below hb_)
            clear hb_ hb8 HP K0 KR HWS p0 p1 p2 p3 p4 p5 r0 r1
            have HP := HP2
            have K0 := K02
            have KR := KR2
            have HWS := HWS2
            clear HP2 K02 KR2 HWS2
            obtain ⟨p0, p1, p2, p3, p4, p5⟩ := ac_cells K0.out
            obtain ⟨r0, r1⟩ := rg_cells KR.out
            have hgap : ((SpLast.over X.length lim : Nat) : Int) = (if ((X.length : Int) - lim) < 0 then 0 else ((X.length : Int) - lim)) := by unfold SpLast.over; split <;> omega
            obtain ⟨k, hk⟩ : ∃ k, SpLast.over X.length lim = k := ⟨_, rfl⟩
            have hkm : k ≤ X.length := by rw [← hk]; unfold SpLast.over; omega
            have hXl2 : X.length ≤ 81 := by have := add_len l r; have := HXL.out; omega
            obtain ⟨z, hz⟩ : ∃ z, IntKind.i64.wrap ((X.length : Int) - lim) = z := ⟨_, rfl⟩
            have hzk : (if z < 0 then 0 else z) = (k : Int) := by rw [← hz, ← hk, hgap, IntKind.wrap_i64]; have : ((X.length : Int) - lim + 9223372036854775808) % 18446744073709551616 - 9223372036854775808 = (X.length : Int) - lim := by omega
                                                                  rw [this]
            have HKK := Lib.hid hk
            clear hk hgap
            have HQX := Lib.hid hqx
            clear hqx
            go_wp2_with fail
            refine (addlast_calls HP.out.s (Nat.le_of_lt (Nat.lt_of_le_of_lt HP.out.s.old HP.out.s.lt)) r (by omega) hlim1).mono ?_
            intro e w9 hap
            obtain ⟨hb9, hk9, hcase⟩ := al_un hap HP.out.le
            have hm9 := row45_keep HP.out.q HP.out.s.blk rfl hk9
            have hx9 := row45_keep HQX.out HP.out.s.blk rfl hk9
            have hws9 := st_keep HWS.out HP.out.s hwg.symm hk9
            have k9 := hk9.blk K0.out hsg.symm (by simp)
            have kr9 := hk9.blk KR.out hsg4.symm (by simp)
            have hb9' := HP.out.b.trans hb9
            obtain ⟨rfl, B9, d9, hs9⟩ := hcase
            have HNX := Lib.hid (drop_nf k (add_nf l r HP.out.nf))
            have HBX := Lib.hid (drop_bd k (add_bd l r HP.out.bd hbr.1 hbr.2))
            rw [← HXL.out, HKK.out] at hs9 ⊢
            have hlx : (((addR l r).drop k).length : Int) ≤ lim := by rw [List.length_drop, ← HXL.out, ← HKK.out]; unfold SpLast.over; omega
            have hlx2 : ((addR l r).drop k).length ≤ l.length + 1 := by rw [List.length_drop]; have := add_len l r; omega
            have HS9 := Lib.hid hs9
            have HQ9 := Lib.hid hx9
            have HW9 := Lib.hid hws9
            have K09 := Lib.hid k9
            have HB9 := Lib.hid hb9'
            clear hap hb9 hk9 hm9 hx9 hws9 k9 kr9 hb9' hs9 HP HQX HWS K0 KR p0 p1 p2 p3 p4 p5 r0 r1 HR
            have e9 : ((k : Int) != (k : Int)) = false := by simp
            have HXD := Lib.hid (show X.drop k = ((addR l r).drop k).map toS by rw [← HX.out, List.map_drop])
            go_wp2_with fail
            · have HQD := Lib.hid (tailQ1 HQ9.out hkm (by assumption))
              go_meet
              case rel => exact ⟨(addR l r).drop k, X.drop k, B9, d9, _, _, by rw [List.length_drop], hlx2, ⟨HXD.out, HS9.out, HQD.out, HNX.out, HBX.out, hlx, HB9.out⟩, ⟨_, _, HW9.out⟩, K09.out⟩
            · have HQD := Lib.hid (tailQ2 HQ9.out hkm (by assumption))
              go_meet
              case rel => exact ⟨(addR l r).drop k, X.drop k, B9, d9, _, _, by rw [List.length_drop], hlx2, ⟨HXD.out, HS9.out, HQD.out, HNX.out, HBX.out, hlx, HB9.out⟩, ⟨_, _, HW9.out⟩, K09.out⟩
          · have q1 : decide (q < 3) = false := decide_eq_false hq
            have q2 : (q == 3) = false := beq_eq_false_iff_ne.2 hq2
            clear hq hq2
            as_aux_lemma =>
            go_wp2_with fail
            refine (ref_calls r w6).mono ?_
            rintro e w7 ⟨rfl, hb7⟩
            have hb_ := hb7
            have HP2 := Lib.hid (HP.out.below hb_)
            have K02 := Lib.hid (blk_below K0.out hb_)
            have KR2 := Lib.hid (blk_below KR.out hb_)
            have HWS2 := Lib.hid (HWS.out.below hb_)
            clear hb_ hb7 HP K0 KR HWS p0 p1 p2 p3 p4 p5 r0 r1
            have HP := HP2
            have K0 := K02
            have KR := KR2
            have HWS := HWS2
            clear HP2 K02 KR2 HWS2
            obtain ⟨p0, p1, p2, p3, p4, p5⟩ := ac_cells K0.out
            obtain ⟨r0, r1⟩ := rg_cells KR.out
            obtain ⟨X, hX⟩ : ∃ X, (cutR l r).map toS = X := ⟨_, rfl⟩
            have HX := Lib.hid hX
            have HXL := Lib.hid (show X.length = (cutR l r).length by rw [← hX, List.length_map])
            clear hX
            go_wp2_with fail
            refine (rcut_calls (R := X) hgg HP.out.b HP.out.q r.f0 r.f1 (by rw [HP.out.m, ← HX.out]; exact cut_f l (by omega) (nf_pos HP.out.nf) r)).mono ?_
            rintro e w8 ⟨AX, cX, rfl, hqx, hb8⟩
            have hb_ := hb8
            have HP2 := Lib.hid (HP.out.below hb_)
            have K02 := Lib.hid (blk_below K0.out hb_)
            have KR2 := Lib.hid (blk_below KR.out hb_)
            have HWS2 := Lib.hid (HWS.out.below hb_)
            clear hb_ hb8 HP K0 KR HWS p0 p1 p2 p3 p4 p5 r0 r1
            have HP := HP2
            have K0 := K02
            have KR := KR2
            have HWS := HWS2
            clear HP2 K02 KR2 HWS2
            obtain ⟨p0, p1, p2, p3, p4, p5⟩ := ac_cells K0.out
            obtain ⟨r0, r1⟩ := rg_cells KR.out
            have HQX := Lib.hid hqx
            clear hqx
            go_wp2_with fail
            refine (cut_calls HP.out.s (Nat.le_of_lt (Nat.lt_of_le_of_lt HP.out.s.old HP.out.s.lt)) r (by omega)).mono ?_
            intro e w9 hap
            obtain ⟨hb9, hk9, hcase⟩ := up_un hap HP.out.le
            have hm9 := row45_keep HP.out.q HP.out.s.blk rfl hk9
            have hx9 := row45_keep HQX.out HP.out.s.blk rfl hk9
            have hws9 := st_keep HWS.out HP.out.s hwg.symm hk9
            have k9 := hk9.blk K0.out hsg.symm (by simp)
            have kr9 := hk9.blk KR.out hsg4.symm (by simp)
            have hb9' := HP.out.b.trans hb9
            have HM9 := Lib.hid hm9
            have HQ9 := Lib.hid hx9
            have HW9 := Lib.hid hws9
            have K09 := Lib.hid k9
            have HB9 := Lib.hid hb9'
            obtain ⟨r0', r1'⟩ := rg_cells kr9
            rcases hcase with ⟨hle9, rfl, B9, d9, hs9⟩ | ⟨hle9, hre9, rfl, B9, d9, hs9⟩
            · have HN9 := Lib.hid (cut_nf l r HP.out.nf)
              have HD9 := Lib.hid (cut_bd l r HP.out.bd HP.out.nf)
              have hl9 := cut_len l r HP.out.nf
              have d2 : decide ((X.length : Int) ≤ lim) = true := decide_eq_true (by rw [HXL.out]; exact hle9)
              have HS9 := Lib.hid hs9
              clear hap hb9 hk9 hm9 hx9 hws9 k9 kr9 hb9' hs9 HP HQX HWS K0 KR p0 p1 p2 p3 p4 p5 r0 r1
              go_wp2_with fail
              go_meet
              case rel => exact ⟨cutR l r, X, B9, d9, AX, cX, rfl, hl9, ⟨HX.out.symm, HS9.out, HQ9.out, HN9.out, HD9.out, hle9, HB9.out⟩, ⟨_, _, HW9.out⟩, K09.out⟩
            · have d2 : decide ((X.length : Int) ≤ lim) = false := decide_eq_false (by rw [HXL.out]; exact hle9)
              have d3 : decide (r.f0 ≥ r.f1) = false := decide_eq_false hre9
              have HPP := Lib.hid (show PR g w1 w9 lim B9 d9 A2 cm l M from ⟨HP.out.m, hs9, hm9, HP.out.nf, HP.out.bd, HP.out.le, hb9'⟩)
              clear hap hb9 hk9 hm9 hx9 hws9 k9 kr9 hb9' hs9 HP HQX HWS K0 KR p0 p1 p2 p3 p4 p5 r0 r1 hle9 hre9
              go_wp2_with fail
              go_meet
              case rel => exact ⟨l, M, B9, d9, A2, cm, rfl, by omega, HPP.out, ⟨_, _, HW9.out⟩, K09.out⟩
        case rest =>
          as_aux_lemma =>
          clear HP K0 KR HWS p0 p1 p2 p3 p4 p5
          obtain ⟨l', M', B', d', A', cm', rfl, hl', hp', ⟨Bw', dw', hws'⟩, k0'⟩ := hcut
          have HP := Lib.hid hp'
          have HWS := Lib.hid hws'
          have K0 := Lib.hid k0'
          clear hp' hws' k0'
          go_wp2_with fail
          refine (list_calls HP.out.s (by omega)).mono ?_
          rintro e w7 ⟨L7, d7, rfl, hq7, hb7⟩
          have HP2 := Lib.hid (HP.out.below hb7)
          have HWS2 := Lib.hid (HWS.out.below hb7)
          have K02 := Lib.hid (blk_below K0.out hb7)
          clear hb7 HP HWS K0
          have HP := HP2
          have HWS := HWS2
          have K0 := K02
          clear HP2 HWS2 K02
          go_wp2_with fail
          refine (same_calls hq7 HP.out.q HP.out.m (by omega)).mono ?_
          rintro e w8 ⟨rfl, hb8⟩
          clear hq7
          have HP2 := Lib.hid (HP.out.below hb8)
          have HWS2 := Lib.hid (HWS.out.below hb8)
          have K02 := Lib.hid (blk_below K0.out hb8)
          clear hb8 HP HWS K0
          have HP := HP2
          have HWS := HWS2
          have K0 := K02
          clear HP2 HWS2 K02
          have e8 : ((l'.length : Int) != (M'.length : Int)) = false := by rw [HP.out.len]; simp
          go_wp2_with fail
          refine (len_calls HP.out.s.blk).mono ?_
          rintro e w9 ⟨rfl, rfl⟩
          obtain ⟨p0, p1, p2, p3, p4, p5⟩ := ac_cells K0.out
          by_cases hk2 : x.f0 > 250
          · have d5 : decide (x.f0 > 250) = true := decide_eq_true hk2
            have hgn : g ≤ w9.heap.size := Nat.le_of_lt (Nat.lt_of_le_of_lt HP.out.s.old HP.out.s.lt)
            go_wp2_with fail
            refine (add_calls HWS.out hgn ⟨500, 501⟩ (by omega)).mono ?_
            intro e w10 hap
            obtain ⟨hb10, hk10, hc10⟩ := hap
            obtain ⟨z, rfl⟩ : ∃ z, e = .returned (.int .i64 z) := by rcases hc10 with ⟨_, h, _⟩ | ⟨_, _, h, _⟩ | ⟨_, _, h, _⟩ <;> exact ⟨_, h⟩
            have HP2 := Lib.hid (show PR g w1 w10 lim B' d' A' cm' l' M' from ⟨HP.out.m, st_keep HP.out.s HWS.out hwg hk10, row45_keep HP.out.q HWS.out.blk rfl hk10, HP.out.nf, HP.out.bd, HP.out.le, HP.out.b.trans hb10⟩)
            clear hb10 hk10 hc10 HP HWS K0 p0 p1 p2 p3 p4 p5
            have HP := HP2
            clear HP2
            go_wp2_with fail
            refine (list_calls HP.out.s (by omega)).mono ?_
            rintro e w11 ⟨L11, d11, rfl, hq11, hb11⟩
            have HP2 := Lib.hid (HP.out.below hb11)
            clear HP hb11
            go_wp2_with fail
            refine (same_calls hq11 HP2.out.q HP2.out.m (by omega)).mono ?_
            rintro e w12 ⟨rfl, hb12⟩
            have HP3 := Lib.hid (HP2.out.below hb12)
            clear HP2 hb12 hq11
            go_wp2_with fail
            go_roundw
            case rel => exact ⟨j + 1, l', M', B', d', A', cm', hjl, by go_num, rfl, by omega, by omega, HP3.out⟩
            case measure => simp [intOf]; omega
          · have d5 : decide (x.f0 > 250) = false := decide_eq_false hk2
            go_wp2_with fail
            go_roundw
            case rel => exact ⟨j + 1, l', M', B', d', A', cm', hjl, by go_num, rfl, by omega, by omega, HP.out⟩
            case measure => simp [intOf]; omega
      · obtain rfl : j = acts.length := by omega
        have l1 : decide ((acts.length : Int) < (acts.length : Int)) = false := decide_eq_false (by omega)
        go_wp2_with fail
        go_meet
        case rel => exact ⟨l, M, B, d, A2, cm, rfl, hl80, HP.out⟩
  case rest =>
    as_aux_lemma =>
    clear HP HR
    obtain ⟨l, M, B, d, A2, cm, rfl, hl80, hp⟩ := hcut
    have hmn := hp.len
    have HP := Lib.hid (of_PR hp)
    rw [hmn]
    clear hmn hp M
    have HK := Lib.hid ((HP.out.b.block w.heap.size hsz1).trans KB1.out)
    clear KB1
    go_wp2_with fail
    go_loopw [23, 166] (fun s i wr => ∃ j : Nat, j ≤ l.length ∧ s = .int .u64 (IntKind.u64.wrap (cnt (l.take j))) ∧ i = .int .i64 j ∧ PS g w1 wr lim B d A2 cm l ∧ wr.heap[w.heap.size]? = some (RG o)) (fun _ i _ => l.length - (intOf i).toNat)
    case atStart => exact ⟨0, Nat.zero_le _, rfl, rfl, HP.out, HK.out⟩
    case round =>
      clear HP HK
      obtain ⟨j, hj, rfl, rfl, hp, hk⟩ := hrel
      have HP := Lib.hid hp
      have HK := Lib.hid hk
      clear hp hk
      by_cases hjl : j < l.length
      · have e1 : (j : Int) < (l.length : Int) := by omega
        obtain ⟨ra, oa, cap, hA, _⟩ := Kd.Q_form HP.out.q (by first | omega | (rw [List.length_map]; omega) | (simp; omega))
        obtain rfl : A2 = some ⟨ra, oa, none⟩ := by injection hA
        clear hA
        obtain ⟨p0, p1⟩ := row45 HP.out.q j hjl
        have HC := Lib.hid (cnt_take l j hjl)
        generalize rd_T28 l (j : Int) = x at *
        generalize hsv : IntKind.u64.wrap (cnt (l.take j)) = s at *
        have HST := Lib.hid (show IntKind.u64.wrap (s + IntKind.u64.wrap (x.f1 - x.f0)) = IntKind.u64.wrap (cnt (l.take (j + 1))) by rw [HC.out, ← hsv]; exact wrap_add _ _)
        clear hsv HC
        go_upto_region 45 with (fail)
        have kx := blk_new wr (RS x)
        have hb4 := below_alloc (Below.refl wr.heap.size wr) (RS x)
        have HP4 := Lib.hid (HP.out.below hb4)
        have HK4 := Lib.hid (blk_below HK.out hb4)
        show Code.wp _ _ _ _ (wr.alloc (RS x))
        clear p0 p1 HP HK hb4
        generalize wr.alloc (RS x) = w4 at *
        obtain ⟨x0, x1⟩ := rs_cells kx
        clear kx
        go_wp2_with fail
        go_roundw
        case rel => exact ⟨j + 1, hjl, by rw [HST.out], by go_num, HP4.out, HK4.out⟩
        case measure => simp [intOf]; omega
      · obtain rfl : j = l.length := by omega
        have e1 : decide ((l.length : Int) < (l.length : Int)) = false := decide_eq_false (by omega)
        rw [List.take_length]
        obtain ⟨ct, hct⟩ : ∃ ct, IntKind.u64.wrap (cnt l) = ct := ⟨_, rfl⟩
        rw [hct]
        have HCT := Lib.hid hct
        clear hct hj hjl
        go_wp2_with fail
        refine (last_calls HP.out.s (by omega)).mono ?_
        intro e w3 hls
        obtain ⟨hb3, r, lb, rfl, hrc⟩ := last_u hls
        have HP3 := Lib.hid (HP.out.below hb3)
        have HK3 := Lib.hid (blk_below HK.out hb3)
        clear hls hb3 HP HK
        go_upto_region 48 with (fail)
        have kl := blk_new w3 (RG r)
        have hb4 := below_alloc (Below.refl w3.heap.size w3) (RG r)
        have HP4 := Lib.hid (HP3.out.below hb4)
        have HK4 := Lib.hid (blk_below HK3.out hb4)
        show Code.wp _ _ _ _ (w3.alloc (RG r))
        clear HP3 HK3 hb4
        generalize w3.alloc (RG r) = w4 at *
        generalize w3.heap.size = gl at *
        go_cut [217] (fun t wx => t = .bool false ∧ PS g w1 wx lim B d A2 cm l)
        case first =>
          as_aux_lemma =>
          obtain ⟨cb, hcb⟩ : ∃ cb, covB l ⟨o.f0, o.f1⟩ = cb := ⟨_, rfl⟩
          have HCB := Lib.hid hcb
          clear hcb
          have f1 : (ct != ct) = false := by simp
          have f2 : (cb != cb) = false := by simp
          obtain ⟨a0, a1⟩ := rg_cells HK4.out
          obtain ⟨b0, b1⟩ := rg_cells kl
          rcases hrc with ⟨hnil, rfl⟩ | ⟨i, hi, rfl, hri⟩
          · have f3 : decide (0 < l.length) = false := decide_eq_false (by rw [hnil]; simp)
            have f4 : (false != false) = false := rfl
            have c0 : Below w4.heap.size w4 w4 ∧ w4.cell? ⟨w.heap.size, 0, none⟩ = some (.int .u64 o.f0) ∧ w4.cell? ⟨w.heap.size, 1, none⟩ = some (.int .u64 o.f1) := ⟨Below.refl _ _, a0, a1⟩
            clear hnil
            refine SpCls.region_cls (fun w' => Below w4.heap.size w4 w' ∧ w'.cell? ⟨w.heap.size, 0, none⟩ = some (Value.int .u64 o.f0) ∧ w'.cell? ⟨w.heap.size, 1, none⟩ = some (Value.int .u64 o.f1)) (by kernel_rfl) (by kernel_rfl) (keepS2 (below_drew (Below.refl _ _)) c0) ?_
            refine SpCls.cls_val ?va0 ?wa0 ?hva0 ?ha0
            case wa0 => rfl
            case hva0 =>
              intro w' hw'
              (try dsimp only at hw')
              go_simp
              try rfl
            simp only [Act.put, List.setIfInBounds_toArray, List.set_cons_zero, List.set_cons_succ]
            refine SpCls.cls_call 21 #[Value.pointer (some ⟨g, 0, none⟩)] (Value.int .u64 ct) ?wa1 ?hva1 (fun w' hw' => (count_c (HP4.out.below hw'.1) (by omega) HCT.out).mono (fun e w'' h => ⟨h.1, keepS2 h.2 hw'⟩)) ?ha1
            case wa1 => rfl
            case hva1 =>
              intro w' hw'
              go_simp
            simp only [Act.put, List.setIfInBounds_toArray, List.set_cons_zero, List.set_cons_succ]
            refine SpCls.cls_val ?va2 ?wa2 ?hva2 ?ha2
            case wa2 => rfl
            case hva2 =>
              intro w' hw'
              (try dsimp only at hw')
              go_simp
              try rfl
            simp only [Act.put, List.setIfInBounds_toArray, List.set_cons_zero, List.set_cons_succ]
            refine SpCls.cls_val ?va3 ?wa3 ?hva3 ?ha3
            case wa3 => rfl
            case hva3 =>
              intro w' hw'
              (try dsimp only at hw')
              go_simp
              try rfl
            simp only [Act.put, List.setIfInBounds_toArray, List.set_cons_zero, List.set_cons_succ]
            refine SpCls.cls_val ?va4 ?wa4 ?hva4 ?ha4
            case wa4 => rfl
            case hva4 =>
              intro w' hw'
              (try dsimp only at hw')
              go_simp
              try rfl
            simp only [Act.put, List.setIfInBounds_toArray, List.set_cons_zero, List.set_cons_succ]
            refine SpCls.cls_val ?va5 ?wa5 ?hva5 ?ha5
            case wa5 => rfl
            case hva5 =>
              intro w' hw'
              (try dsimp only at hw')
              go_simp
              try rfl
            simp only [Act.put, List.setIfInBounds_toArray, List.set_cons_zero, List.set_cons_succ]
            refine SpCls.cls_val ?va6 ?wa6 ?hva6 ?ha6
            case wa6 => rfl
            case hva6 =>
              intro w' hw'
              (try dsimp only at hw')
              go_simp
              try rfl
            simp only [Act.put, List.setIfInBounds_toArray, List.set_cons_zero, List.set_cons_succ]
            refine SpCls.cls_val ?va7 ?wa7 ?hva7 ?ha7
            case wa7 => rfl
            case hva7 =>
              intro w' hw'
              (try dsimp only at hw')
              go_simp
              try rfl
            simp only [Act.put, List.setIfInBounds_toArray, List.set_cons_zero, List.set_cons_succ]
            refine SpCls.cls_val ?va8 ?wa8 ?hva8 ?ha8
            case wa8 => rfl
            case hva8 =>
              intro w' hw'
              (try dsimp only at hw')
              go_simp
              try rfl
            simp only [Act.put, List.setIfInBounds_toArray, List.set_cons_zero, List.set_cons_succ]
            refine SpCls.cls_val ?va9 ?wa9 ?hva9 ?ha9
            case wa9 => rfl
            case hva9 =>
              intro w' hw'
              (try dsimp only at hw')
              go_simp
              try rfl
            simp only [Act.put, List.setIfInBounds_toArray, List.set_cons_zero, List.set_cons_succ]
            refine SpCls.cls_val ?va10 ?wa10 ?hva10 ?ha10
            case wa10 => rfl
            case hva10 =>
              intro w' hw'
              (try dsimp only at hw')
              go_simp
              try rfl
            simp only [Act.put, List.setIfInBounds_toArray, List.set_cons_zero, List.set_cons_succ]
            refine SpCls.cls_val ?va11 ?wa11 ?hva11 ?ha11
            case wa11 => rfl
            case hva11 =>
              intro w' hw'
              (try dsimp only at hw')
              go_simp
              try rfl
            simp only [Act.put, List.setIfInBounds_toArray, List.set_cons_zero, List.set_cons_succ]
            refine SpCls.cls_val ?va12 ?wa12 ?hva12 ?ha12
            case wa12 => rfl
            case hva12 =>
              intro w' hw'
              (try dsimp only at hw')
              go_simp
              try rfl
            simp only [Act.put, List.setIfInBounds_toArray, List.set_cons_zero, List.set_cons_succ]
            refine SpCls.cls_val ?va13 ?wa13 ?hva13 ?ha13
            case wa13 => rfl
            case hva13 =>
              intro w' hw'
              (try dsimp only at hw')
              go_simp
              try rfl
            simp only [Act.put, List.setIfInBounds_toArray, List.set_cons_zero, List.set_cons_succ]
            refine no_implicit_lambda% (SpCls.cls_skip ?wa14 ?ha14)
            case wa14 => rfl
            simp only [Act.put, List.setIfInBounds_toArray, List.set_cons_zero, List.set_cons_succ]
            refine no_implicit_lambda% (SpCls.cls_skip ?wa15 ?ha15)
            case wa15 => rfl
            simp only [Act.put, List.setIfInBounds_toArray, List.set_cons_zero, List.set_cons_succ]
            refine no_implicit_lambda% (SpCls.cls_skip ?wa16 ?ha16)
            case wa16 => rfl
            simp only [Act.put, List.setIfInBounds_toArray, List.set_cons_zero, List.set_cons_succ]
            refine no_implicit_lambda% (SpCls.cls_skip ?wa17 ?ha17)
            case wa17 => rfl
            simp only [Act.put, List.setIfInBounds_toArray, List.set_cons_zero, List.set_cons_succ]
            refine no_implicit_lambda% (SpCls.cls_skip ?wa18 ?ha18)
            case wa18 => rfl
            simp only [Act.put, List.setIfInBounds_toArray, List.set_cons_zero, List.set_cons_succ]
            refine no_implicit_lambda% (SpCls.cls_skip ?wa19 ?ha19)
            case wa19 => rfl
            simp only [Act.put, List.setIfInBounds_toArray, List.set_cons_zero, List.set_cons_succ]
            refine no_implicit_lambda% (SpCls.cls_skip ?wa20 ?ha20)
            case wa20 => rfl
            simp only [Act.put, List.setIfInBounds_toArray, List.set_cons_zero, List.set_cons_succ]
            refine no_implicit_lambda% (SpCls.cls_skip ?wa21 ?ha21)
            case wa21 => rfl
            simp only [Act.put, List.setIfInBounds_toArray, List.set_cons_zero, List.set_cons_succ]
            refine no_implicit_lambda% (SpCls.cls_skip ?wa22 ?ha22)
            case wa22 => rfl
            simp only [Act.put, List.setIfInBounds_toArray, List.set_cons_zero, List.set_cons_succ]
            refine SpCls.cls_val ?va23 ?wa23 ?hva23 ?ha23
            case wa23 => rfl
            case hva23 =>
              intro w' hw'
              (try dsimp only at hw')
              go_simp
              try rfl
            simp only [Act.put, List.setIfInBounds_toArray, List.set_cons_zero, List.set_cons_succ]
            refine SpCls.cls_val ?va24 ?wa24 ?hva24 ?ha24
            case wa24 => rfl
            case hva24 =>
              intro w' hw'
              (try dsimp only at hw')
              go_simp
              try rfl
            simp only [Act.put, List.setIfInBounds_toArray, List.set_cons_zero, List.set_cons_succ]
            refine SpCls.cls_val ?va25 ?wa25 ?hva25 ?ha25
            case wa25 => rfl
            case hva25 =>
              intro w' hw'
              (try dsimp only at hw')
              go_simp
              try rfl
            simp only [Act.put, List.setIfInBounds_toArray, List.set_cons_zero, List.set_cons_succ]
            refine SpCls.cls_val ?va26 ?wa26 ?hva26 ?ha26
            case wa26 => rfl
            case hva26 =>
              intro w' hw'
              (try dsimp only at hw')
              go_simp
              try rfl
            simp only [Act.put, List.setIfInBounds_toArray, List.set_cons_zero, List.set_cons_succ]
            refine SpCls.cls_val ?va27 ?wa27 ?hva27 ?ha27
            case wa27 => rfl
            case hva27 =>
              intro w' hw'
              (try dsimp only at hw')
              go_simp
              try rfl
            simp only [Act.put, List.setIfInBounds_toArray, List.set_cons_zero, List.set_cons_succ]
            refine SpCls.cls_call 20 #[Value.pointer (some ⟨g, 0, none⟩), .agg #[.int .u64 o.f0, .int .u64 o.f1]] (Value.bool cb) ?wa28 ?hva28 (fun w' hw' => (cov_c (HP4.out.below hw'.1) (by omega) o.f0 o.f1 HCB.out).mono (fun e w'' h => ⟨h.1, keepS2 h.2 hw'⟩)) ?ha28
            case wa28 => rfl
            case hva28 =>
              intro w' hw'
              go_simp
            simp only [Act.put, List.setIfInBounds_toArray, List.set_cons_zero, List.set_cons_succ]
            refine SpCls.cls_val ?va29 ?wa29 ?hva29 ?ha29
            case wa29 => rfl
            case hva29 =>
              intro w' hw'
              (try dsimp only at hw')
              go_simp
              try rfl
            simp only [Act.put, List.setIfInBounds_toArray, List.set_cons_zero, List.set_cons_succ]
            refine SpCls.cls_val ?va30 ?wa30 ?hva30 ?ha30
            case wa30 => rfl
            case hva30 =>
              intro w' hw'
              (try dsimp only at hw')
              go_simp
              try rfl
            simp only [Act.put, List.setIfInBounds_toArray, List.set_cons_zero, List.set_cons_succ]
            refine SpCls.cls_call 24 #[.agg #[.int .u64 o.f0, .int .u64 o.f1]] (.agg #[.int .u64 o.f0, .int .u64 o.f1]) ?wa31 ?hva31 (fun w' hw' => (ref_c o.f0 o.f1 w').mono (fun e w'' h => ⟨h.1, keepS2 h.2 hw'⟩)) ?ha31
            case wa31 => rfl
            case hva31 =>
              intro w' hw'
              go_simp
            simp only [Act.put, List.setIfInBounds_toArray, List.set_cons_zero, List.set_cons_succ]
            refine SpCls.cls_call 30 #[.slice A2 l.length cm, .agg #[.int .u64 o.f0, .int .u64 o.f1]] (Value.bool cb) ?wa32 ?hva32 (fun w' hw' => (rcov_c (HP4.out.below hw'.1) (by omega) o.f0 o.f1 HCB.out).mono (fun e w'' h => ⟨h.1, keepS2 h.2 hw'⟩)) ?ha32
            case wa32 => rfl
            case hva32 =>
              intro w' hw'
              go_simp
            simp only [Act.put, List.setIfInBounds_toArray, List.set_cons_zero, List.set_cons_succ]
            refine SpCls.cls_val ?va33 ?wa33 ?hva33 ?ha33
            case wa33 => rfl
            case hva33 =>
              intro w' hw'
              (try dsimp only at hw')
              go_simp
              try rfl
            simp only [Act.put, List.setIfInBounds_toArray, List.set_cons_zero, List.set_cons_succ]
            refine SpCls.cls_val ?va34 ?wa34 ?hva34 ?ha34
            case wa34 => rfl
            case hva34 =>
              intro w' hw'
              (try dsimp only at hw')
              go_simp
              try rfl
            simp only [Act.put, List.setIfInBounds_toArray, List.set_cons_zero, List.set_cons_succ]
            refine wpQuiet_nil ?_
            intro wz hz
            have HPZ := Lib.hid (HP4.out.below hz.1)
            clear hz
            go_wp2_with fail
            go_meet
            case rel => exact ⟨rfl, HPZ.out⟩
          · obtain ⟨ra, oa, cap, hA, _⟩ := Kd.Q_form HP4.out.q (by first | omega | (rw [List.length_map]; omega) | (simp; omega))
            obtain rfl : A2 = some ⟨ra, oa, none⟩ := by injection hA
            clear hA
            obtain ⟨p0, p1⟩ := row45 HP4.out.q i (by omega)
            rw [← hri] at p0 p1
            clear hri
            have f3 : decide (0 < l.length) = true := decide_eq_true (by omega)
            have f4 : (true != true) = false := rfl
            have f5 : IntKind.i64.wrap ((l.length : Int) - 1) = (i : Int) := by rw [IntKind.wrap_i64]; omega
            have f6 : (i : Int) < (l.length : Int) := by omega
            have f7 : i < l.length := by omega
            have c0 : Below w4.heap.size w4 w4 ∧ w4.cell? ⟨w.heap.size, 0, none⟩ = some (.int .u64 o.f0) ∧ w4.cell? ⟨w.heap.size, 1, none⟩ = some (.int .u64 o.f1) ∧ w4.cell? ⟨gl, 0, none⟩ = some (.int .u64 r.f0) ∧ w4.cell? ⟨gl, 1, none⟩ = some (.int .u64 r.f1) ∧ w4.cell? ⟨ra, oa + i * 2, none⟩ = some (.int .u64 r.f0) ∧ w4.cell? ⟨ra, oa + i * 2 + 1, none⟩ = some (.int .u64 r.f1) := ⟨Below.refl _ _, a0, a1, b0, b1, p0, p1⟩
            clear hi
            refine SpCls.region_cls (fun w' => Below w4.heap.size w4 w' ∧ w'.cell? ⟨w.heap.size, 0, none⟩ = some (Value.int .u64 o.f0) ∧ w'.cell? ⟨w.heap.size, 1, none⟩ = some (Value.int .u64 o.f1) ∧ w'.cell? ⟨gl, 0, none⟩ = some (Value.int .u64 r.f0) ∧ w'.cell? ⟨gl, 1, none⟩ = some (Value.int .u64 r.f1) ∧ w'.cell? ⟨ra, oa + i * 2, none⟩ = some (Value.int .u64 r.f0) ∧ w'.cell? ⟨ra, oa + i * 2 + 1, none⟩ = some (Value.int .u64 r.f1)) (by kernel_rfl) (by kernel_rfl) (keepS6 (below_drew (Below.refl _ _)) c0) ?_
            refine SpCls.cls_val ?vb0 ?wb0 ?hvb0 ?hb0
            case wb0 => rfl
            case hvb0 =>
              intro w' hw'
              (try dsimp only at hw')
              go_simp
              try rfl
            simp only [Act.put, List.setIfInBounds_toArray, List.set_cons_zero, List.set_cons_succ]
            refine SpCls.cls_call 21 #[Value.pointer (some ⟨g, 0, none⟩)] (Value.int .u64 ct) ?wb1 ?hvb1 (fun w' hw' => (count_c (HP4.out.below hw'.1) (by omega) HCT.out).mono (fun e w'' h => ⟨h.1, keepS6 h.2 hw'⟩)) ?hb1
            case wb1 => rfl
            case hvb1 =>
              intro w' hw'
              go_simp
            simp only [Act.put, List.setIfInBounds_toArray, List.set_cons_zero, List.set_cons_succ]
            refine SpCls.cls_val ?vb2 ?wb2 ?hvb2 ?hb2
            case wb2 => rfl
            case hvb2 =>
              intro w' hw'
              (try dsimp only at hw')
              go_simp
              try rfl
            simp only [Act.put, List.setIfInBounds_toArray, List.set_cons_zero, List.set_cons_succ]
            refine SpCls.cls_val ?vb3 ?wb3 ?hvb3 ?hb3
            case wb3 => rfl
            case hvb3 =>
              intro w' hw'
              (try dsimp only at hw')
              go_simp
              try rfl
            simp only [Act.put, List.setIfInBounds_toArray, List.set_cons_zero, List.set_cons_succ]
            refine SpCls.cls_val ?vb4 ?wb4 ?hvb4 ?hb4
            case wb4 => rfl
            case hvb4 =>
              intro w' hw'
              (try dsimp only at hw')
              go_simp
              try rfl
            simp only [Act.put, List.setIfInBounds_toArray, List.set_cons_zero, List.set_cons_succ]
            refine SpCls.cls_val ?vb5 ?wb5 ?hvb5 ?hb5
            case wb5 => rfl
            case hvb5 =>
              intro w' hw'
              (try dsimp only at hw')
              go_simp
              try rfl
            simp only [Act.put, List.setIfInBounds_toArray, List.set_cons_zero, List.set_cons_succ]
            refine SpCls.cls_val ?vb6 ?wb6 ?hvb6 ?hb6
            case wb6 => rfl
            case hvb6 =>
              intro w' hw'
              (try dsimp only at hw')
              go_simp
              try rfl
            simp only [Act.put, List.setIfInBounds_toArray, List.set_cons_zero, List.set_cons_succ]
            refine SpCls.cls_val ?vb7 ?wb7 ?hvb7 ?hb7
            case wb7 => rfl
            case hvb7 =>
              intro w' hw'
              (try dsimp only at hw')
              go_simp
              try rfl
            simp only [Act.put, List.setIfInBounds_toArray, List.set_cons_zero, List.set_cons_succ]
            refine SpCls.cls_val ?vb8 ?wb8 ?hvb8 ?hb8
            case wb8 => rfl
            case hvb8 =>
              intro w' hw'
              (try dsimp only at hw')
              go_simp
              try rfl
            simp only [Act.put, List.setIfInBounds_toArray, List.set_cons_zero, List.set_cons_succ]
            refine SpCls.cls_val ?vb9 ?wb9 ?hvb9 ?hb9
            case wb9 => rfl
            case hvb9 =>
              intro w' hw'
              (try dsimp only at hw')
              go_simp
              try rfl
            simp only [Act.put, List.setIfInBounds_toArray, List.set_cons_zero, List.set_cons_succ]
            refine SpCls.cls_val ?vb10 ?wb10 ?hvb10 ?hb10
            case wb10 => rfl
            case hvb10 =>
              intro w' hw'
              (try dsimp only at hw')
              go_simp
              try rfl
            simp only [Act.put, List.setIfInBounds_toArray, List.set_cons_zero, List.set_cons_succ]
            refine SpCls.cls_val ?vb11 ?wb11 ?hvb11 ?hb11
            case wb11 => rfl
            case hvb11 =>
              intro w' hw'
              (try dsimp only at hw')
              go_simp
              try rfl
            simp only [Act.put, List.setIfInBounds_toArray, List.set_cons_zero, List.set_cons_succ]
            refine SpCls.cls_val ?vb12 ?wb12 ?hvb12 ?hb12
            case wb12 => rfl
            case hvb12 =>
              intro w' hw'
              (try dsimp only at hw')
              go_simp
              try rfl
            simp only [Act.put, List.setIfInBounds_toArray, List.set_cons_zero, List.set_cons_succ]
            refine SpCls.cls_val ?vb13 ?wb13 ?hvb13 ?hb13
            case wb13 => rfl
            case hvb13 =>
              intro w' hw'
              (try dsimp only at hw')
              go_simp
              try rfl
            simp only [Act.put, List.setIfInBounds_toArray, List.set_cons_zero, List.set_cons_succ]
            refine SpCls.cls_val ?vb14 ?wb14 ?hvb14 ?hb14
            case wb14 => rfl
            case hvb14 =>
              intro w' hw'
              (try dsimp only at hw')
              go_simp
              try rfl
            simp only [Act.put, List.setIfInBounds_toArray, List.set_cons_zero, List.set_cons_succ]
            refine SpCls.cls_call 24 #[.agg #[.int .u64 r.f0, .int .u64 r.f1]] (.agg #[.int .u64 r.f0, .int .u64 r.f1]) ?wb15 ?hvb15 (fun w' hw' => (ref_c r.f0 r.f1 w').mono (fun e w'' h => ⟨h.1, keepS6 h.2 hw'⟩)) ?hb15
            case wb15 => rfl
            case hvb15 =>
              intro w' hw'
              go_simp
            simp only [Act.put, List.setIfInBounds_toArray, List.set_cons_zero, List.set_cons_succ]
            refine SpCls.cls_val ?vb16 ?wb16 ?hvb16 ?hb16
            case wb16 => rfl
            case hvb16 =>
              intro w' hw'
              (try dsimp only at hw')
              go_simp
              try rfl
            simp only [Act.put, List.setIfInBounds_toArray, List.set_cons_zero, List.set_cons_succ]
            refine SpCls.cls_val ?vb17 ?wb17 ?hvb17 ?hb17
            case wb17 => rfl
            case hvb17 =>
              intro w' hw'
              (try dsimp only at hw')
              go_simp
              try rfl
            simp only [Act.put, List.setIfInBounds_toArray, List.set_cons_zero, List.set_cons_succ]
            refine SpCls.cls_val ?vb18 ?wb18 ?hvb18 ?hb18
            case wb18 => rfl
            case hvb18 =>
              intro w' hw'
              (try dsimp only at hw')
              go_simp
              try rfl
            simp only [Act.put, List.setIfInBounds_toArray, List.set_cons_zero, List.set_cons_succ]
            refine SpCls.cls_val ?vb19 ?wb19 ?hvb19 ?hb19
            case wb19 => rfl
            case hvb19 =>
              intro w' hw'
              (try dsimp only at hw')
              go_simp
              try rfl
            simp only [Act.put, List.setIfInBounds_toArray, List.set_cons_zero, List.set_cons_succ]
            refine SpCls.cls_val ?vb20 ?wb20 ?hvb20 ?hb20
            case wb20 => rfl
            case hvb20 =>
              intro w' hw'
              (try dsimp only at hw')
              go_simp
              try rfl
            simp only [Act.put, List.setIfInBounds_toArray, List.set_cons_zero, List.set_cons_succ]
            refine SpCls.cls_val ?vb21 ?wb21 ?hvb21 ?hb21
            case wb21 => rfl
            case hvb21 =>
              intro w' hw'
              (try dsimp only at hw')
              go_simp
              try rfl
            simp only [Act.put, List.setIfInBounds_toArray, List.set_cons_zero, List.set_cons_succ]
            refine SpCls.cls_val ?vb22 ?wb22 ?hvb22 ?hb22
            case wb22 => rfl
            case hvb22 =>
              intro w' hw'
              (try dsimp only at hw')
              go_simp
              try rfl
            simp only [Act.put, List.setIfInBounds_toArray, List.set_cons_zero, List.set_cons_succ]
            refine SpCls.cls_val ?vb23 ?wb23 ?hvb23 ?hb23
            case wb23 => rfl
            case hvb23 =>
              intro w' hw'
              (try dsimp only at hw')
              go_simp
              try rfl
            simp only [Act.put, List.setIfInBounds_toArray, List.set_cons_zero, List.set_cons_succ]
            refine SpCls.cls_val ?vb24 ?wb24 ?hvb24 ?hb24
            case wb24 => rfl
            case hvb24 =>
              intro w' hw'
              (try dsimp only at hw')
              go_simp
              try rfl
            simp only [Act.put, List.setIfInBounds_toArray, List.set_cons_zero, List.set_cons_succ]
            refine SpCls.cls_val ?vb25 ?wb25 ?hvb25 ?hb25
            case wb25 => rfl
            case hvb25 =>
              intro w' hw'
              (try dsimp only at hw')
              go_simp
              try rfl
            simp only [Act.put, List.setIfInBounds_toArray, List.set_cons_zero, List.set_cons_succ]
            refine SpCls.cls_val ?vb26 ?wb26 ?hvb26 ?hb26
            case wb26 => rfl
            case hvb26 =>
              intro w' hw'
              (try dsimp only at hw')
              go_simp
              try rfl
            simp only [Act.put, List.setIfInBounds_toArray, List.set_cons_zero, List.set_cons_succ]
            refine SpCls.cls_val ?vb27 ?wb27 ?hvb27 ?hb27
            case wb27 => rfl
            case hvb27 =>
              intro w' hw'
              (try dsimp only at hw')
              go_simp
              try rfl
            simp only [Act.put, List.setIfInBounds_toArray, List.set_cons_zero, List.set_cons_succ]
            refine SpCls.cls_call 20 #[Value.pointer (some ⟨g, 0, none⟩), .agg #[.int .u64 o.f0, .int .u64 o.f1]] (Value.bool cb) ?wb28 ?hvb28 (fun w' hw' => (cov_c (HP4.out.below hw'.1) (by omega) o.f0 o.f1 HCB.out).mono (fun e w'' h => ⟨h.1, keepS6 h.2 hw'⟩)) ?hb28
            case wb28 => rfl
            case hvb28 =>
              intro w' hw'
              go_simp
            simp only [Act.put, List.setIfInBounds_toArray, List.set_cons_zero, List.set_cons_succ]
            refine SpCls.cls_val ?vb29 ?wb29 ?hvb29 ?hb29
            case wb29 => rfl
            case hvb29 =>
              intro w' hw'
              (try dsimp only at hw')
              go_simp
              try rfl
            simp only [Act.put, List.setIfInBounds_toArray, List.set_cons_zero, List.set_cons_succ]
            refine SpCls.cls_val ?vb30 ?wb30 ?hvb30 ?hb30
            case wb30 => rfl
            case hvb30 =>
              intro w' hw'
              (try dsimp only at hw')
              go_simp
              try rfl
            simp only [Act.put, List.setIfInBounds_toArray, List.set_cons_zero, List.set_cons_succ]
            refine SpCls.cls_call 24 #[.agg #[.int .u64 o.f0, .int .u64 o.f1]] (.agg #[.int .u64 o.f0, .int .u64 o.f1]) ?wb31 ?hvb31 (fun w' hw' => (ref_c o.f0 o.f1 w').mono (fun e w'' h => ⟨h.1, keepS6 h.2 hw'⟩)) ?hb31
            case wb31 => rfl
            case hvb31 =>
              intro w' hw'
              go_simp
            simp only [Act.put, List.setIfInBounds_toArray, List.set_cons_zero, List.set_cons_succ]
            refine SpCls.cls_call 30 #[.slice (some ⟨ra, oa, none⟩) l.length cm, .agg #[.int .u64 o.f0, .int .u64 o.f1]] (Value.bool cb) ?wb32 ?hvb32 (fun w' hw' => (rcov_c (HP4.out.below hw'.1) (by omega) o.f0 o.f1 HCB.out).mono (fun e w'' h => ⟨h.1, keepS6 h.2 hw'⟩)) ?hb32
            case wb32 => rfl
            case hvb32 =>
              intro w' hw'
              go_simp
            simp only [Act.put, List.setIfInBounds_toArray, List.set_cons_zero, List.set_cons_succ]
            refine SpCls.cls_val ?vb33 ?wb33 ?hvb33 ?hb33
            case wb33 => rfl
            case hvb33 =>
              intro w' hw'
              (try dsimp only at hw')
              go_simp
              try rfl
            simp only [Act.put, List.setIfInBounds_toArray, List.set_cons_zero, List.set_cons_succ]
            refine SpCls.cls_val ?vb34 ?wb34 ?hvb34 ?hb34
            case wb34 => rfl
            case hvb34 =>
              intro w' hw'
              (try dsimp only at hw')
              go_simp
              try rfl
            simp only [Act.put, List.setIfInBounds_toArray, List.set_cons_zero, List.set_cons_succ]
            refine wpQuiet_nil ?_
            intro wz hz
            have HPZ := Lib.hid (HP4.out.below hz.1)
            clear hz
            go_wp2_with fail
            go_meet
            case rel => exact ⟨rfl, HPZ.out⟩
        case rest =>
          as_aux_lemma =>
          obtain ⟨rfl, hp⟩ := hcut
          have HP := Lib.hid hp
          clear hp HP4 HK4 kl hrc HCT
          have hgw : g ≤ wc.heap.size := HP.out.le
          have hz := SpCut.r_zero (Kd.int .u64) wc 23 wc.heap.size (Nat.le_refl _)
          have hbz := below_alloc (Below.refl wc.heap.size wc) (.cells #[] 23)
          have HZ := Lib.hid hz
          have HBZ := Lib.hid hbz
          have hl20' : look.length ≤ 20 := by omega
          clear hz hbz
          go_wp2_with (first
            | ((with_reducible refine gate_dst (N := 220) rfl ?_); go_must (refine Kd.R_append_rows (Kd.int .u64) (w0 := wc) wc.heap.size rfl (.tmp 218) (.tmp 219) 42 23 (.int .u64 0) 8 rfl Try.underlying42 info23 rfl (by decide) (by decide) (.slice (some ⟨wc.heap.size, 0, none⟩) 0 0) [] look AL look.length cL (fun _ => True) (fun _ => False) rfl (by first | (go_simp; done) | (go_simp; rfl)) HZ.out (Kd.C_below HLK.out (HB.out.trans ((HP.out.b.mono hww).trans (HBZ.out.mono (Nat.le_trans hww hgw))))) (fun _ _ h => h) (fun _ hk => hk.elim) (fun _ _ => trivial) HBZ.out HBZ.out.size (by simp only [List.length_nil, Nat.zero_add]; omega) ?_; intro v1 wn hQ hbn hgn _; rw [List.nil_append] at hQ; have HQ := Lib.hid hQ; have HBN := Lib.hid hbn; have h4 := four wn; have hb4 := below_alloc (Below.refl wn.heap.size wn) (.cells #[.int .u64 0, .int .u64 5, .int .u64 30, .int .u64 59] 23); have HQ4 := Lib.hid (Kd.R_below HQ.out hb4); have HB4 := Lib.hid (HBN.out.trans (hb4.mono HBN.out.size)); have H4 := Lib.hid h4; clear hQ hbn hgn h4 hb4))
            | ((with_reducible refine gate_dst (N := 222) rfl ?_); go_must (refine Kd.R_append_rows (Kd.int .u64) (w0 := wc) wc.heap.size rfl (.tmp 220) (.tmp 221) 42 23 (.int .u64 0) 8 rfl Try.underlying42 info23 rfl (by decide) (by decide) v1 look [0, 5, 30, 59] (some ⟨wn.heap.size, 0, none⟩) 4 4 (fun _ => True) (fun _ => False) rfl (by first | (go_simp; done) | (go_simp; rfl)) HQ4.out H4.out (fun _ _ h => h) (fun _ hk => hk.elim) (fun _ _ => trivial) HB4.out HB4.out.size (by omega) ?_; intro v2 wz hQ hbn hgn _; have hns : ∃ ns, look ++ [0, 5, 30, 59] = ns ∧ ns.length ≤ 24 ∧ ∀ n ∈ ns, 0 ≤ n := ⟨_, rfl, by simp; omega, by intro n hn; rcases List.mem_append.1 hn with h | h; exact HL0.out n h; simp at h; omega⟩; obtain ⟨ns, hns, hns24, hns0⟩ := hns; rw [hns] at hQ; clear hns; obtain ⟨AN, cN, rfl, _, hCN⟩ := Kd.R_reads hQ; have HNS := Lib.hid hCN; have HN0 := Lib.hid hns0; have HPZ := Lib.hid (HP.out.below hbn); clear hQ hbn hgn hCN hns0 HQ HBN HQ4 HB4 H4 HZ HBZ HP)))
          go_loopw [224] (fun i wr => ∃ j : Nat, j ≤ ns.length ∧ i = .int .i64 j ∧ Below wz.heap.size wz wr) (fun i _ => ns.length - (intOf i).toNat)
          case atStart => exact ⟨0, Nat.zero_le _, rfl, Below.refl _ _⟩
          case round =>
            obtain ⟨j, hj, rfl, hb⟩ := hrel
            have HBR := Lib.hid hb
            have HP := Lib.hid (HPZ.out.below hb)
            clear hb
            by_cases hjl : j < ns.length
            · obtain ⟨ad, hA, p0⟩ := Kd.at_int (Kd.C_below HNS.out HBR.out) (j : Int) (by omega) (by omega)
              subst hA
              rw [Int.toNat_natCast] at p0
              have hn := HN0.out _ (rd_in ns j hjl)
              generalize rd ns (j : Int) = n at *
              have e1 : (j : Int) < (ns.length : Int) := by omega
              go_wp2_with fail
              refine (first_calls HP.out.s n (up_of_nf HP.out.nf) (by omega)).mono ?_
              intro e w5 hfs
              obtain ⟨hb5, r, ok, rfl, hrc⟩ := first_u hfs
              have HB5 := Lib.hid hb5
              have HP5 := Lib.hid (HP.out.below hb5)
              have HRC := Lib.hid hrc
              clear hfs hb5 hrc HP p0
              go_upto_region 55 with (fail)
              have kr := blk_new w5 (RG r)
              have hbr := below_alloc (Below.refl w5.heap.size w5) (RG r)
              have kw := blk_new (w5.alloc (RG r)) (RS ⟨0, 0⟩)
              have kr2 := blk_below kr (below_alloc (Below.refl (w5.alloc (RG r)).heap.size (w5.alloc (RG r))) (RS ⟨0, 0⟩))
              have hb6 := below_alloc hbr (RS ⟨0, 0⟩)
              have hne : w5.heap.size < (w5.alloc (RG r)).heap.size := blk_lt kr
              show Code.wp _ _ _ _ ((w5.alloc (RG r)).alloc (RS ⟨0, 0⟩))
              clear kr hbr
              generalize (w5.alloc (RG r)).alloc (RS ⟨0, 0⟩) = w6 at *
              have hgs : (w5.alloc (RG r)).heap.size = w5.heap.size + 1 := by show (w5.heap.push (RG r)).size = w5.heap.size + 1; rw [Array.size_push]
              rw [hgs] at hne kw
              clear hgs
              have hl5 := HP5.out.le
              obtain ⟨gr, hgr⟩ : ∃ gr, w5.heap.size = gr := ⟨_, rfl⟩
              rw [hgr] at hne kr2 kw hb6 ⊢
              have HB6 := Lib.hid (show Below gr w5 w6 from hb6)
              have KR := Lib.hid kr2
              have KW := Lib.hid kw
              have HGR := Lib.hid hgr
              have hgrw : gr ≠ gr + 1 := by omega
              clear kr2 kw hb6 hgr
              go_upto_block 7 with (fail)
              go_cut [] (fun wx => Below gr w5 wx ∧ wx.heap[gr]? = some (RG r) ∧ wx.heap[gr + 1]? = some (RS r))
              case first =>
                as_aux_lemma =>
                go_wp2_with fail
                go_loopw [236] (fun i wy => ∃ k : Nat, k ≤ l.length ∧ i = .int .i64 k ∧ firstR (l.drop k) n = firstR l n ∧ Below gr w5 wy ∧ wy.heap[gr]? = some (RG r) ∧ wy.heap[gr + 1]? = some (RS ⟨0, 0⟩)) (fun i _ => l.length - (intOf i).toNat)
                case atStart => exact ⟨0, Nat.zero_le _, rfl, by rw [List.drop_zero], HB6.out, KR.out, KW.out⟩
                case round =>
                  clear HB6 KR KW
                  obtain ⟨k, hk, rfl, hfk, hb, hkr, hkw⟩ := hrel
                  have HFK := Lib.hid hfk
                  have HP7 := Lib.hid (HP5.out.below (by rw [HGR.out]; exact hb))
                  have HB7 := Lib.hid hb
                  have KR := Lib.hid hkr
                  have KW := Lib.hid hkw
                  clear hfk hb hkr hkw
                  by_cases hkl : k < l.length
                  · have e3 : (k : Int) < (l.length : Int) := by omega
                    obtain ⟨ra, oa, cap, hA, _⟩ := Kd.Q_form HP7.out.q (by first | omega | (rw [List.length_map]; omega) | (simp; omega))
                    obtain rfl : A2 = some ⟨ra, oa, none⟩ := by injection hA
                    clear hA
                    obtain ⟨p0, p1⟩ := row45 HP7.out.q k hkl
                    have HD := Lib.hid (firstR_drop l n k hkl)
                    generalize rd_T28 l (k : Int) = x at *
                    go_upto_region 58 with (fail)
                    have kx := blk_new wr (RS x)
                    have hb8 := below_alloc (Below.refl wr.heap.size wr) (RS x)
                    have HB8 := Lib.hid (HB7.out.trans (hb8.mono (by have := HB7.out.size; have := HGR.out; omega)))
                    have KR8 := Lib.hid (blk_below KR.out hb8)
                    have KW8 := Lib.hid (blk_below KW.out hb8)
                    show Code.wp _ _ _ _ (wr.alloc (RS x))
                    clear p0 p1 HP7 HB7 KR KW hb8
                    generalize wr.alloc (RS x) = w8 at *
                    generalize wr.heap.size = gx at *
                    obtain ⟨x0, x1⟩ := rs_cells kx
                    clear kx
                    by_cases hc : x.f1 > n
                    · have d1 : decide (x.f1 > n) = true := decide_eq_true hc
                      have hr0 : firstR l n = some ⟨mx x.f0 n, x.f1⟩ := by rw [← HFK.out, HD.out, if_pos hc]
                      have hrr : r = ⟨mx x.f0 n, x.f1⟩ := by
                        rcases HRC.out with ⟨_, h⟩ | ⟨_, _, h⟩
                        · rw [hr0] at h; injection h with h; exact h.symm
                        · rw [hr0] at h; cases h
                      have HRR := Lib.hid hrr
                      obtain ⟨mv, hmv⟩ : ∃ mv, (if x.f0 < n then n else x.f0) = mv := ⟨_, rfl⟩
                      have HMV := Lib.hid (show mx x.f0 n = mv from hmv)
                      obtain ⟨y0, y1⟩ := rs_cells KW8.out
                      have u0 := blk_frozen KW8.out 0
                      have u1 := blk_frozen KW8.out 1
                      have K2 := Lib.hid (blk_put (blk_put KW8.out 0 (.int .u64 mv) rfl) 1 (.int .u64 x.f1) rfl)
                      have R2 := Lib.hid (blk_far (p := ⟨gr + 1, 1, none⟩) (blk_far (p := ⟨gr + 1, 0, none⟩) KR8.out hgrw (.int .u64 mv)) hgrw (.int .u64 x.f1))
                      have HB9 := Lib.hid ((HB8.out.setCell (p := ⟨gr + 1, 0, none⟩) (Nat.le_of_lt hne) (.int .u64 mv)).setCell (p := ⟨gr + 1, 1, none⟩) (Nat.le_of_lt hne) (.int .u64 x.f1))
                      clear hr0 hrr
                      go_wp2_with fail
                      go_meet
                      case rel => exact ⟨HB9.out, R2.out, by rw [K2.out, HRR.out, HMV.out]; rfl⟩
                    · have d1 : decide (x.f1 > n) = false := decide_eq_false hc
                      have HF2 := Lib.hid (show firstR (l.drop (k + 1)) n = firstR l n by rw [← HFK.out, HD.out, if_neg hc])
                      go_wp2_with fail
                      go_roundw
                      case rel => exact ⟨k + 1, hkl, by go_num, HF2.out, HB8.out, KR8.out, KW8.out⟩
                      case measure => simp [intOf]; omega
                  · obtain rfl : k = l.length := by omega
                    have e3 : decide ((l.length : Int) < (l.length : Int)) = false := decide_eq_false (by omega)
                    have HRR := Lib.hid (show r = ⟨0, 0⟩ by
                      have h0 := HFK.out
                      rw [List.drop_length] at h0
                      rcases HRC.out with ⟨_, h⟩ | ⟨_, h, _⟩
                      · rw [h] at h0; cases h0
                      · exact h)
                    go_wp2_with fail
                    go_meet
                    case rel => exact ⟨HB7.out, KR.out, by rw [HRR.out]; exact KW.out⟩
              case rest =>
                as_aux_lemma =>
                obtain ⟨hb9, kr9, kw9⟩ := hcut
                have HB9 := Lib.hid hb9
                have HP9 := Lib.hid (HP5.out.below (by rw [HGR.out]; exact hb9))
                obtain ⟨b0, b1⟩ := rg_cells kr9
                obtain ⟨b2, b3⟩ := rs_cells kw9
                have f3 : decide (0 < r.f1) = ok := by
                  rcases HRC.out with ⟨rfl, h⟩ | ⟨rfl, rfl, _⟩
                  · exact decide_eq_true (by have := firstR_gt h; omega)
                  · rfl
                clear hb9 kr9 kw9 HB6 KR KW
                obtain ⟨vh, hvh⟩ : ∃ vh, hasB l n = vh := ⟨_, rfl⟩
                obtain ⟨n3, hn3⟩ : ∃ n3, IntKind.u64.wrap (n + 3) = n3 := ⟨_, rfl⟩
                obtain ⟨vc, hvc⟩ : ∃ vc, covB l ⟨n, n3⟩ = vc := ⟨_, rfl⟩
                have HHB := Lib.hid hvh
                have HCB := Lib.hid hvc
                clear hvh hvc
                have f1 : (vh != vh) = false := by simp
                have f2 : (vc != vc) = false := by simp
                have f4 : (ok != ok) = false := by simp
                have c0 : Below wc.heap.size wc wc ∧ wc.cell? ⟨gr, 0, none⟩ = some (Value.int .u64 r.f0) ∧ wc.cell? ⟨gr, 1, none⟩ = some (Value.int .u64 r.f1) ∧ wc.cell? ⟨gr + 1, 0, none⟩ = some (Value.int .u64 r.f0) ∧ wc.cell? ⟨gr + 1, 1, none⟩ = some (Value.int .u64 r.f1) := ⟨Below.refl _ _, b0, b1, b2, b3⟩
                go_upto_region 61 with (fail)
                go_cut [286] (fun t wx => t = .bool false ∧ Below gr w5 wx)
                case first =>
                  as_aux_lemma =>
                  refine SpCls.region_cls (fun w' => Below wc.heap.size wc w' ∧ w'.cell? ⟨gr, 0, none⟩ = some (Value.int .u64 r.f0) ∧ w'.cell? ⟨gr, 1, none⟩ = some (Value.int .u64 r.f1) ∧ w'.cell? ⟨gr + 1, 0, none⟩ = some (Value.int .u64 r.f0) ∧ w'.cell? ⟨gr + 1, 1, none⟩ = some (Value.int .u64 r.f1)) (by kernel_rfl) (by kernel_rfl) (keepS4 (below_drew (Below.refl _ _)) c0) ?_
                  refine SpCls.cls_val ?vc0 ?wc0 ?hvc0 ?hc0
                  case wc0 => rfl
                  case hvc0 =>
                    intro w' hw'
                    (try dsimp only at hw')
                    go_simp
                    try rfl
                  simp only [Act.put, List.setIfInBounds_toArray, List.set_cons_zero, List.set_cons_succ]
                  refine SpCls.cls_val ?vc1 ?wc1 ?hvc1 ?hc1
                  case wc1 => rfl
                  case hvc1 =>
                    intro w' hw'
                    (try dsimp only at hw')
                    go_simp
                    try rfl
                  simp only [Act.put, List.setIfInBounds_toArray, List.set_cons_zero, List.set_cons_succ]
                  refine SpCls.cls_call 22 #[Value.pointer (some ⟨g, 0, none⟩), .int .u64 n] (Value.bool vh) ?wc2 ?hvc2 (fun w' hw' => (has_c (HP9.out.below hw'.1) (by omega) n HHB.out).mono (fun e w'' h => ⟨h.1, keepS4 h.2 hw'⟩)) ?hc2
                  case wc2 => rfl
                  case hvc2 =>
                    intro w' hw'
                    go_simp
                  simp only [Act.put, List.setIfInBounds_toArray, List.set_cons_zero, List.set_cons_succ]
                  refine SpCls.cls_val ?vc3 ?wc3 ?hvc3 ?hc3
                  case wc3 => rfl
                  case hvc3 =>
                    intro w' hw'
                    (try dsimp only at hw')
                    go_simp
                    try rfl
                  simp only [Act.put, List.setIfInBounds_toArray, List.set_cons_zero, List.set_cons_succ]
                  refine SpCls.cls_val ?vc4 ?wc4 ?hvc4 ?hc4
                  case wc4 => rfl
                  case hvc4 =>
                    intro w' hw'
                    (try dsimp only at hw')
                    go_simp
                    try rfl
                  simp only [Act.put, List.setIfInBounds_toArray, List.set_cons_zero, List.set_cons_succ]
                  refine SpCls.cls_call 32 #[.slice A2 l.length cm, .int .u64 n] (Value.bool vh) ?wc5 ?hvc5 (fun w' hw' => (rhas_c (HP9.out.below hw'.1) (by omega) n HHB.out).mono (fun e w'' h => ⟨h.1, keepS4 h.2 hw'⟩)) ?hc5
                  case wc5 => rfl
                  case hvc5 =>
                    intro w' hw'
                    go_simp
                  simp only [Act.put, List.setIfInBounds_toArray, List.set_cons_zero, List.set_cons_succ]
                  refine SpCls.cls_val ?vc6 ?wc6 ?hvc6 ?hc6
                  case wc6 => rfl
                  case hvc6 =>
                    intro w' hw'
                    (try dsimp only at hw')
                    go_simp
                    try rfl
                  simp only [Act.put, List.setIfInBounds_toArray, List.set_cons_zero, List.set_cons_succ]
                  refine SpCls.cls_val ?vc7 ?wc7 ?hvc7 ?hc7
                  case wc7 => rfl
                  case hvc7 =>
                    intro w' hw'
                    (try dsimp only at hw')
                    go_simp
                    try rfl
                  simp only [Act.put, List.setIfInBounds_toArray, List.set_cons_zero, List.set_cons_succ]
                  refine SpCls.cls_val ?vc8 ?wc8 ?hvc8 ?hc8
                  case wc8 => rfl
                  case hvc8 =>
                    intro w' hw'
                    (try dsimp only at hw')
                    go_simp
                    try rfl
                  simp only [Act.put, List.setIfInBounds_toArray, List.set_cons_zero, List.set_cons_succ]
                  refine SpCls.cls_val ?vc9 ?wc9 ?hvc9 ?hc9
                  case wc9 => rfl
                  case hvc9 =>
                    intro w' hw'
                    (try dsimp only at hw')
                    go_simp
                    try rfl
                  simp only [Act.put, List.setIfInBounds_toArray, List.set_cons_zero, List.set_cons_succ]
                  refine SpCls.cls_val ?vc10 ?wc10 ?hvc10 ?hc10
                  case wc10 => rfl
                  case hvc10 =>
                    intro w' hw'
                    (try dsimp only at hw')
                    go_simp
                    try rfl
                  simp only [Act.put, List.setIfInBounds_toArray, List.set_cons_zero, List.set_cons_succ]
                  refine SpCls.cls_val ?vc11 ?wc11 ?hvc11 ?hc11
                  case wc11 => rfl
                  case hvc11 =>
                    intro w' hw'
                    (try dsimp only at hw')
                    go_simp
                    try rfl
                  simp only [Act.put, List.setIfInBounds_toArray, List.set_cons_zero, List.set_cons_succ]
                  refine SpCls.cls_val ?vc12 ?wc12 ?hvc12 ?hc12
                  case wc12 => rfl
                  case hvc12 =>
                    intro w' hw'
                    (try dsimp only at hw')
                    go_simp
                    try rfl
                  simp only [Act.put, List.setIfInBounds_toArray, List.set_cons_zero, List.set_cons_succ]
                  refine SpCls.cls_val ?vc13 ?wc13 ?hvc13 ?hc13
                  case wc13 => rfl
                  case hvc13 =>
                    intro w' hw'
                    (try dsimp only at hw')
                    go_simp
                    try rfl
                  simp only [Act.put, List.setIfInBounds_toArray, List.set_cons_zero, List.set_cons_succ]
                  refine SpCls.cls_val ?vc14 ?wc14 ?hvc14 ?hc14
                  case wc14 => rfl
                  case hvc14 =>
                    intro w' hw'
                    (try dsimp only at hw')
                    go_simp
                    try rfl
                  simp only [Act.put, List.setIfInBounds_toArray, List.set_cons_zero, List.set_cons_succ]
                  refine SpCls.cls_val ?vc15 ?wc15 ?hvc15 ?hc15
                  case wc15 => rfl
                  case hvc15 =>
                    intro w' hw'
                    (try dsimp only at hw')
                    go_simp
                    try rfl
                  simp only [Act.put, List.setIfInBounds_toArray, List.set_cons_zero, List.set_cons_succ]
                  refine SpCls.cls_call 24 #[.agg #[.int .u64 r.f0, .int .u64 r.f1]] (.agg #[.int .u64 r.f0, .int .u64 r.f1]) ?wc16 ?hvc16 (fun w' hw' => (ref_c r.f0 r.f1 w').mono (fun e w'' h => ⟨h.1, keepS4 h.2 hw'⟩)) ?hc16
                  case wc16 => rfl
                  case hvc16 =>
                    intro w' hw'
                    go_simp
                  simp only [Act.put, List.setIfInBounds_toArray, List.set_cons_zero, List.set_cons_succ]
                  refine SpCls.cls_val ?vc17 ?wc17 ?hvc17 ?hc17
                  case wc17 => rfl
                  case hvc17 =>
                    intro w' hw'
                    (try dsimp only at hw')
                    go_simp
                    try rfl
                  simp only [Act.put, List.setIfInBounds_toArray, List.set_cons_zero, List.set_cons_succ]
                  refine SpCls.cls_val ?vc18 ?wc18 ?hvc18 ?hc18
                  case wc18 => rfl
                  case hvc18 =>
                    intro w' hw'
                    (try dsimp only at hw')
                    go_simp
                    try rfl
                  simp only [Act.put, List.setIfInBounds_toArray, List.set_cons_zero, List.set_cons_succ]
                  refine SpCls.cls_val ?vc19 ?wc19 ?hvc19 ?hc19
                  case wc19 => rfl
                  case hvc19 =>
                    intro w' hw'
                    (try dsimp only at hw')
                    go_simp
                    try rfl
                  simp only [Act.put, List.setIfInBounds_toArray, List.set_cons_zero, List.set_cons_succ]
                  refine SpCls.cls_val ?vc20 ?wc20 ?hvc20 ?hc20
                  case wc20 => rfl
                  case hvc20 =>
                    intro w' hw'
                    (try dsimp only at hw')
                    go_simp
                    try rfl
                  simp only [Act.put, List.setIfInBounds_toArray, List.set_cons_zero, List.set_cons_succ]
                  refine SpCls.cls_val ?vc21 ?wc21 ?hvc21 ?hc21
                  case wc21 => rfl
                  case hvc21 =>
                    intro w' hw'
                    (try dsimp only at hw')
                    go_simp
                    try rfl
                  simp only [Act.put, List.setIfInBounds_toArray, List.set_cons_zero, List.set_cons_succ]
                  refine SpCls.cls_val ?vc22 ?wc22 ?hvc22 ?hc22
                  case wc22 => rfl
                  case hvc22 =>
                    intro w' hw'
                    (try dsimp only at hw')
                    go_simp
                    try rfl
                  simp only [Act.put, List.setIfInBounds_toArray, List.set_cons_zero, List.set_cons_succ]
                  refine SpCls.cls_val ?vc23 ?wc23 ?hvc23 ?hc23
                  case wc23 => rfl
                  case hvc23 =>
                    intro w' hw'
                    (try dsimp only at hw')
                    go_simp
                    try rfl
                  simp only [Act.put, List.setIfInBounds_toArray, List.set_cons_zero, List.set_cons_succ]
                  refine SpCls.cls_val ?vc24 ?wc24 ?hvc24 ?hc24
                  case wc24 => rfl
                  case hvc24 =>
                    intro w' hw'
                    (try dsimp only at hw')
                    go_simp
                    try rfl
                  simp only [Act.put, List.setIfInBounds_toArray, List.set_cons_zero, List.set_cons_succ]
                  refine SpCls.cls_val ?vc25 ?wc25 ?hvc25 ?hc25
                  case wc25 => rfl
                  case hvc25 =>
                    intro w' hw'
                    (try dsimp only at hw')
                    go_simp
                    try rfl
                  simp only [Act.put, List.setIfInBounds_toArray, List.set_cons_zero, List.set_cons_succ]
                  refine SpCls.cls_call 20 #[Value.pointer (some ⟨g, 0, none⟩), .agg #[.int .u64 n, .int .u64 n3]] (Value.bool vc) ?wc26 ?hvc26 (fun w' hw' => (cov_c (HP9.out.below hw'.1) (by omega) n n3 HCB.out).mono (fun e w'' h => ⟨h.1, keepS4 h.2 hw'⟩)) ?hc26
                  case wc26 => rfl
                  case hvc26 =>
                    intro w' hw'
                    go_simp
                  simp only [Act.put, List.setIfInBounds_toArray, List.set_cons_zero, List.set_cons_succ]
                  refine SpCls.cls_val ?vc27 ?wc27 ?hvc27 ?hc27
                  case wc27 => rfl
                  case hvc27 =>
                    intro w' hw'
                    (try dsimp only at hw')
                    go_simp
                    try rfl
                  simp only [Act.put, List.setIfInBounds_toArray, List.set_cons_zero, List.set_cons_succ]
                  refine SpCls.cls_val ?vc28 ?wc28 ?hvc28 ?hc28
                  case wc28 => rfl
                  case hvc28 =>
                    intro w' hw'
                    (try dsimp only at hw')
                    go_simp
                    try rfl
                  simp only [Act.put, List.setIfInBounds_toArray, List.set_cons_zero, List.set_cons_succ]
                  refine SpCls.cls_val ?vc29 ?wc29 ?hvc29 ?hc29
                  case wc29 => rfl
                  case hvc29 =>
                    intro w' hw'
                    (try dsimp only at hw')
                    go_simp
                    try rfl
                  simp only [Act.put, List.setIfInBounds_toArray, List.set_cons_zero, List.set_cons_succ]
                  refine SpCls.cls_val ?vc30 ?wc30 ?hvc30 ?hc30
                  case wc30 => rfl
                  case hvc30 =>
                    intro w' hw'
                    (try dsimp only at hw')
                    go_simp
                    try rfl
                  simp only [Act.put, List.setIfInBounds_toArray, List.set_cons_zero, List.set_cons_succ]
                  refine SpCls.cls_val ?vc31 ?wc31 ?hvc31 ?hc31
                  case wc31 => rfl
                  case hvc31 =>
                    intro w' hw'
                    (try dsimp only at hw')
                    go_simp
                    try rfl
                  simp only [Act.put, List.setIfInBounds_toArray, List.set_cons_zero, List.set_cons_succ]
                  refine SpCls.cls_call 30 #[.slice A2 l.length cm, .agg #[.int .u64 n, .int .u64 n3]] (Value.bool vc) ?wc32 ?hvc32 (fun w' hw' => (rcov_c (HP9.out.below hw'.1) (by omega) n n3 HCB.out).mono (fun e w'' h => ⟨h.1, keepS4 h.2 hw'⟩)) ?hc32
                  case wc32 => rfl
                  case hvc32 =>
                    intro w' hw'
                    go_simp
                  simp only [Act.put, List.setIfInBounds_toArray, List.set_cons_zero, List.set_cons_succ]
                  refine SpCls.cls_val ?vc33 ?wc33 ?hvc33 ?hc33
                  case wc33 => rfl
                  case hvc33 =>
                    intro w' hw'
                    (try dsimp only at hw')
                    go_simp
                    try rfl
                  simp only [Act.put, List.setIfInBounds_toArray, List.set_cons_zero, List.set_cons_succ]
                  refine SpCls.cls_val ?vc34 ?wc34 ?hvc34 ?hc34
                  case wc34 => rfl
                  case hvc34 =>
                    intro w' hw'
                    (try dsimp only at hw')
                    go_simp
                    try rfl
                  simp only [Act.put, List.setIfInBounds_toArray, List.set_cons_zero, List.set_cons_succ]
                  refine wpQuiet_nil ?_
                  intro wz hz
                  have HZ := Lib.hid (HB9.out.trans (hz.1.mono (by have := HB9.out.size; have := HGR.out; omega)))
                  clear hz
                  go_wp2_with fail
                  go_meet
                  case rel => exact ⟨rfl, HZ.out⟩
                case rest =>
                  as_aux_lemma =>
                  obtain ⟨rfl, hbx⟩ := hcut
                  have HE := Lib.hid (HBR.out.trans ((HB5.out.trans ((show Below w5.heap.size w5 wc by rw [HGR.out]; exact hbx).mono HB5.out.size)).mono HBR.out.size))
                  go_wp2_with fail
                  go_roundw
                  case rel => exact ⟨j + 1, hjl, by go_num, HE.out⟩
                  case measure => simp [intOf]; omega
            · obtain rfl : j = ns.length := by omega
              have e1 : decide ((ns.length : Int) < (ns.length : Int)) = false := decide_eq_false (by omega)
              have HF := Lib.hid (HB.out.trans (HP.out.b.mono hww))
              go_wp2_with fail
              go_ret
              exact ⟨rfl, HF.out⟩
theorem rowWalk {W : World} (a : Int) (wa : (Lit.int .i64 a).wf = true)
    (A : Option Addr) (len cap : Nat) (xs : List S30) (hl : xs.length = len) (_hc : len ≤ cap) (h : Kd.C k30 W A len xs) (wf : xs.length * 32 ≤ reachBytes ∧ ∀ x ∈ xs, (Lit.int .u8 x.f0).wf = true ∧ (Lit.int .u8 x.f1).wf = true ∧ (Lit.int .u8 x.f2).wf = true ∧ ((Lit.int .u64 x.f3.f0).wf = true ∧ (Lit.int .u64 x.f3.f1).wf = true) ∧ True)
    (A2 : Option Addr) (len2 cap2 : Nat) (ys : List Int) (hl2 : ys.length = len2) (_hc2 : len2 ≤ cap2) (h2 : Kd.C (Kd.int .u64) W A2 len2 ys) (wf2 : ys.length * 8 ≤ reachBytes ∧ ∀ y ∈ ys, (Lit.int .u64 y).wf = true)
    (cs : Array Value) (x : S28) (hk : k28.K W x cs.toList) (_wx : (Lit.int .u64 x.f0).wf = true ∧ (Lit.int .u64 x.f1).wf = true) :
    Calls Try.prog 5 #[.int .i64 a, .slice A len cap, .slice A2 len2 cap2, .agg cs] W fun e W' => e = .returned (.bool true) ∧ Below W.heap.size W W' := by
  subst hl hl2
  obtain rfl : cs = #[.int .u64 x.f0, .int .u64 x.f1] := Array.ext' (k28_open hk)
  have b := bounds_i64 wa
  have hb : xs.length ≤ 140737488351232 := by have := wf.1; unfold reachBytes at this; omega
  exact walk a (by omega) A cap xs h (fun x hx => ⟨bounds_u64 (wf.2 x hx).2.2.2.1.1, bounds_u64 (wf.2 x hx).2.2.2.1.2⟩) hb A2 cap2 ys h2 (fun n hn => (bounds_u64 (wf2.2 n hn)).1) x

end Go.Proofs.Ytiohjnhbapbglaa.PlaysWalk
