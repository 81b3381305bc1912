/- The call of the law EventShapes answers true for every input, and nothing that was there has changed. No condition. -/
import Derived.Test.YtclmnpdabnogkaaEvCalls
import Derived.SizedLaws
import Derived.Lib.Hide
import Derived.WalkKit
import Derived.OpenShut
import Derived.Deep.RegionHeld3
namespace Go.Proofs.Ytclmnpdabnogkaa.ShapesWalk
open Go.RowKit Go.Proofs.Ytclmnpdabnogkaa.PEventChecks Go.Proofs.Ytclmnpdabnogkaa.EvPure Go.Proofs.Ytclmnpdabnogkaa.EvCalls Go.Proofs.YtclmnpdabnogkaaW.PrintWords Go.Proofs.YtclmnpdabnogkaaW.PrintLast Go.Proofs.YtclmnpdabnogkaaW.PrintMore

theorem keep4 {w w' : World} {p0 p1 p2 p3 : Addr} {x0 x1 x2 x3 : Value} (hb : Below w.heap.size w w') (h : w.cell? p0 = some x0 ∧ w.cell? p1 = some x1 ∧ w.cell? p2 = some x2 ∧ w.cell? p3 = some x3) :
    w'.cell? p0 = some x0 ∧ w'.cell? p1 = some x1 ∧ w'.cell? p2 = some x2 ∧ w'.cell? p3 = some x3 := ⟨pw_cell_below hb h.1, pw_cell_below hb h.2.1, pw_cell_below hb h.2.2.1, pw_cell_below hb h.2.2.2⟩
theorem add0 (a : Addr) : a.add 0 = a := by cases a; simp [Addr.add]

set_option maxRecDepth 100000 in
set_option maxHeartbeats 2000000 in
theorem walk {w : World} (k : Int) (s : ByteArray) :
    Calls Try.prog 3 #[.int .u8 k, .string s] w fun e w' => e = .returned (.bool true) ∧ Below w.heap.size w w' := by
  go_enter Try.func3, Try.ntmps3
  go_wp2_with fail
  refine (awake_calls _).mono ?_
  rintro e w1 ⟨rfl, hw1⟩
  have HW := Lib.hid hw1
  clear hw1
  go_wp2_with fail
  refine (names_calls _).mono ?_
  rintro e w2 ⟨A, c, rfl, hc, hN, hb⟩
  have HW2 := Lib.hid (below_step HW.out hb)
  have HN := Lib.hid hN
  clear hN hb HW
  go_wp2_with fail
  go_loopw [26] (fun i wr => ∃ (j : Nat), j ≤ 19 ∧ i = .int .i64 j ∧ Below w.heap.size w wr ∧ Kd.C (Kd.slice 9 Kd.string) wr A 19 NS) (fun i _ => 19 - (intOf i).toNat)
  case atStart => exact ⟨0, Nat.zero_le _, rfl, HW2.out, HN.out⟩
  case round =>
    obtain ⟨j, hj, rfl, hB, hC⟩ := hrel
    have HB := Lib.hid hB
    have HC := Lib.hid hC
    clear hB hC
    by_cases hlt : j < 19
    · obtain ⟨ad, A0, c0, rfl, hcell, hl0, hrow⟩ := at_L1 HC.out j (by omega) (by omega)
      rw [Int.toNat_natCast] at hcell
      have HR := Lib.hid hrow
      clear hrow
      have j8 : IntKind.u8.wrap (IntKind.i64.wrap ((j : Int) + 1)) = (j : Int) + 1 := by rw [IntKind.wrap_i64, IntKind.wrap_u8]; omega
      go_wp2_with fail
      refine (of_calls ((j : Int) + 1) (by omega) (by omega) _).mono ?_
      rintro e w3 ⟨A3, c3, rfl, hc3, hf1, hb3⟩
      have HB3 := Lib.hid hb3
      clear hb3
      rw [nm_fact j hlt]
      have hmn : EvPure.mn j = ((rd_T27 SH ((j : Int) + 1)).f1.length : Int) := rfl
      have hdt : dt j = (rd_T27 SH ((j : Int) + 1)).f2 := rfl
      rw [← hdt]
      have HF := Lib.hid hf1
      have HMN := Lib.hid hmn
      clear hf1 hmn hdt
      obtain ⟨n1, hn1⟩ : ∃ n1, (rd_T27 SH ((j : Int) + 1)).f1.length = n1 := ⟨_, rfl⟩
      go_upto_region 7 with (fail)
      have hg := blk_new w3 (Obj.cells #[Value.string (nm j), Value.slice A3 n1 c3, Value.bool (dt j)] 27)
      have hb4 : Below wr.heap.size wr (w3.alloc (Obj.cells #[Value.string (nm j), Value.slice A3 n1 c3, Value.bool (dt j)] 27)) := HB3.out.alloc HB3.out.size _
      have hf4 := Kd.C_below HF.out ((Below.refl w3.heap.size w3).alloc (Nat.le_refl _) (Obj.cells #[Value.string (nm j), Value.slice A3 n1 c3, Value.bool (dt j)] 27))
      generalize w3.alloc (Obj.cells #[Value.string (nm j), Value.slice A3 n1 c3, Value.bool (dt j)] 27) = w4 at *
      generalize w3.heap.size = g at *
      clear HF
      have HG := Lib.hid hg
      have HB4 := Lib.hid hb4
      have HF := Lib.hid hf4
      clear hg hb4 hf4
      obtain ⟨ad0, rfl, hw0⟩ : ∃ ad0, A0 = some ad0 ∧ ∀ wz : World, Below wr.heap.size wr wz → ∀ i : Nat, i < (rd_L1 NS j).length → wz.cell? (ad0.add i) = some (.string (rdOf ByteArray.empty (rd_L1 NS j) i)) := by
        have hl := row_len j hlt
        obtain ⟨ad0, e0, _⟩ := Kd.at_string HR.out 0 (by omega) (by omega)
        refine ⟨ad0, e0, fun wz hz i hi => ?_⟩
        obtain ⟨ad1, e1, h1⟩ := Kd.at_string HR.out i (by omega) (by omega)
        rw [e0] at e1
        injection e1 with e1
        subst e1
        have := pw_cell_below hz h1
        simpa using this
      have HW0 := Lib.hid hw0
      clear hw0
      have h0 : w4.cell? ad0 = some (.string (nm j)) := by have h := HW0.out w4 HB4.out 0 (by have := row_len j hlt; omega); rw [add0] at h; exact h
      have l0 : (0 : Int) < ((rd_L1 NS j).length : Int) := by have := row_len j hlt; omega
      have HL := Lib.hid (row_long j hlt)
      rw [HMN.out, hn1] at HL
      obtain ⟨lr, hlr⟩ : ∃ lr, (rd_L1 NS j).length = lr := ⟨_, rfl⟩
      rw [hlr] at HL HW0 l0 hl0
      rw [hlr]
      have l1 : 0 < lr := by omega
      go_wp2_with fail
      refine (named_own_calls j hlt _).mono ?_
      rintro e w5 ⟨rfl, hb5⟩
      have HG5 := Lib.hid (blk_below HG.out hb5)
      have HB5 := Lib.hid (below_step HB4.out hb5)
      have HF5 := Lib.hid (Kd.C_below HF.out hb5)
      clear hb5 h0 HG HB4 HF
      go_wp2_with fail
      refine (many_calls j hlt _).mono ?_
      rintro e w6 ⟨rfl, hb6⟩
      have HG := Lib.hid (blk_below HG5.out hb6)
      have HB6 := Lib.hid (below_step HB5.out hb6)
      have HF := Lib.hid (Kd.C_below HF5.out hb6)
      clear hb6 HG5 HB5 HF5
      have cB := blk_cell HG.out
      have g0 := cB 0; have g1 := cB 1; have g2 := cB 2
      simp at g0 g1 g2
      clear cB
      have h0 : w6.cell? ad0 = some (.string (nm j)) := by have h := HW0.out w6 HB6.out 0 (by omega); rw [add0] at h; exact h
      have hn2 : EvPure.mn j = (n1 : Int) := by rw [HMN.out, hn1]
      rw [hn2]
      have j64 : IntKind.i64.wrap ((j : Int) + 1) = (j : Int) + 1 := by rw [IntKind.wrap_i64]; omega
      go_wp2_with fail
      have c0 : w6.cell? ⟨g, 0, none⟩ = some (Value.string (nm j)) ∧ w6.cell? ⟨g, 1, none⟩ = some (Value.slice A3 n1 c3) ∧ w6.cell? ⟨g, 2, none⟩ = some (Value.bool (dt j)) ∧ w6.cell? ad0 = some (Value.string (nm j)) := ⟨g0, g1, g2, h0⟩
      go_region_held3 (fun w' => w'.cell? ⟨g, 0, none⟩ = some (Value.string (nm j)) ∧ w'.cell? ⟨g, 1, none⟩ = some (Value.slice A3 n1 c3) ∧ w'.cell? ⟨g, 2, none⟩ = some (Value.bool (dt j)) ∧ w'.cell? ad0 = some (Value.string (nm j))) (first | go_keep | exact keep4 (by assumption) (by assumption)) (fail)
      have hb7 : Below w6.heap.size w6 w6.drew := below_drew (Below.refl _ _)
      have HG7 := Lib.hid (blk_below HG.out hb7)
      have HB7 := Lib.hid (below_step HB6.out hb7)
      have HF7 := Lib.hid (Kd.C_below HF.out hb7)
      have h7 := (‹w6.drew.cell? ⟨g, 0, none⟩ = some (Value.string (nm j)) ∧ w6.drew.cell? ⟨g, 1, none⟩ = some (Value.slice A3 n1 c3) ∧ w6.drew.cell? ⟨g, 2, none⟩ = some (Value.bool (dt j)) ∧ w6.drew.cell? ad0 = some (Value.string (nm j))›).2.1
      generalize w6.drew = w7 at *
      clear hb7 HG HB6 HF c0 g0 g1 g2 h0
      rw [hn1] at HF7
      go_wp2_with fail
      go_loopw [89] (fun i2 wq => ∃ jj : Nat, jj ≤ n1 ∧ i2 = .int .i64 jj ∧ Below w7.heap.size w7 wq) (fun i2 _ => n1 - (intOf i2).toNat)
      case atStart => exact ⟨0, Nat.zero_le _, rfl, Below.refl _ _⟩
      case round =>
        obtain ⟨jj, hjj, rfl, hbq⟩ := hrel
        have HBQ := Lib.hid hbq
        clear hbq
        by_cases hlt2 : jj < n1
        · obtain ⟨ad3, rfl, hc3'⟩ := Kd.at_string (Kd.C_below HF7.out HBQ.out) jj (by omega) (by omega)
          rw [Int.toNat_natCast] at hc3'
          have hr := HW0.out _ (below_step HB7.out HBQ.out) (jj + 1) (by have := HL.out; omega)
          have hw := row_word j hlt jj (by omega)
          rw [hw] at hc3'
          rw [Int.natCast_add, Int.natCast_one] at hr
          generalize rdOf ByteArray.empty (rd_L1 NS (j : Int)) ((jj : Int) + 1) = sw at *
          clear hw
          have k0 : (0 : Int) ≤ (jj : Int) + 1 := by omega
          have k1 : (jj : Int) + 1 < (lr : Int) := by have := HL.out; omega
          have k2 : IntKind.i64.wrap ((jj : Int) + 1) = (jj : Int) + 1 := by rw [IntKind.wrap_i64]; have := HL.out; have := row_len j hlt; omega
          obtain ⟨m1, hm1⟩ : ∃ m1, jj + 1 = m1 := ⟨_, rfl⟩
          have k3 : ((jj : Int) + 1).toNat = m1 := by omega
          rw [hm1] at hr
          clear hm1
          go_wp2_with fail
          go_round
          case rel => exact ⟨jj + 1, by omega, by go_num, HBQ.out⟩
          case measure => simp [intOf]; omega
        · have : jj = n1 := by omega
          subst this
          go_wp2_with fail
          go_roundw
          case rel => exact ⟨j + 1, by omega, by go_num, below_step HB.out (below_step HB7.out HBQ.out), Kd.C_below HC.out (below_step HB7.out HBQ.out)⟩
          case measure => simp [intOf]; omega
    · have : j = 19 := by omega
      subst this
      go_wp2_with fail
      refine (of_any k _).mono ?_
      rintro e w3 ⟨A3, c3, f0, n1, f2, ok, rfl, hok, hno, hb3⟩
      have HB3 := Lib.hid (below_step HB.out hb3)
      have HOK := Lib.hid hok
      have HNO := Lib.hid hno
      clear hb3 hok hno
      go_wp2_with fail
      have hg := blk_new w3 (Obj.cells #[.string f0, Value.slice A3 n1 c3, .bool f2] 27)
      have hb4 : Below w.heap.size w (w3.alloc (Obj.cells #[.string f0, Value.slice A3 n1 c3, .bool f2] 27)) := HB3.out.alloc HB3.out.size _
      generalize w3.alloc (Obj.cells #[.string f0, Value.slice A3 n1 c3, .bool f2] 27) = w4 at *
      generalize w3.heap.size = g at *
      have HG := Lib.hid hg
      have HB4 := Lib.hid hb4
      clear hg hb4 HB3
      refine (named_any s _).mono ?_
      rintro e w5 ⟨nk, rfl, hnk, hb5⟩
      have HG5 := Lib.hid (blk_below HG.out hb5)
      have HB5 := Lib.hid (below_step HB4.out hb5)
      have HNK := Lib.hid hnk
      clear hb5 HG HB4 hnk
      go_wp2_with fail
      refine (names_calls _).mono ?_
      rintro e w6 ⟨A6, c6, rfl, hc6, hN6, hb6⟩
      have HG := Lib.hid (blk_below HG5.out hb6)
      have HB6 := Lib.hid (below_step HB5.out hb6)
      have HN6 := Lib.hid hN6
      clear hN6 hb6 HB5 HG5
      obtain ⟨kk, hkk⟩ : ∃ kk, knw s 19 = kk := ⟨_, rfl⟩
      rw [hkk]
      go_wp2_with fail
      go_loopw [19, 115] (fun v i wr => ∃ (j : Nat), j ≤ 19 ∧ i = .int .i64 j ∧ v = .bool (knw s j) ∧ Below w6.heap.size w6 wr) (fun _ i _ => 19 - (intOf i).toNat)
      case atStart => exact ⟨0, Nat.zero_le _, rfl, rfl, Below.refl _ _⟩
      case round =>
        obtain ⟨j, hj, rfl, rfl, hbq⟩ := hrel
        have HBQ := Lib.hid hbq
        clear hbq
        by_cases hlt : j < 19
        · obtain ⟨ad, A0, c0, rfl, hcell, hl0, hrow⟩ := at_L1 (Kd.C_below HN6.out HBQ.out) j (by omega) (by omega)
          rw [Int.toNat_natCast] at hcell
          have hrl := row_len j hlt
          obtain ⟨ad0, rfl, hc0⟩ := Kd.at_string hrow 0 (by omega) (by omega)
          have hc0' : _ = some (Value.string (nm j)) := hc0
          rw [show (0 : Int).toNat = 0 from rfl, add0] at hc0'
          generalize (rd_L1 NS (j : Int)).length = lr at *
          have l0 : (0 : Int) < (lr : Int) := by omega
          have l1 : 0 < lr := by omega
          have HK := Lib.hid (knw_succ s j)
          clear hrow hc0 hrl
          obtain ⟨kj, hkj⟩ : ∃ kj, knw s j = kj := ⟨_, rfl⟩
          rw [hkj] at HK
          rw [hkj]
          by_cases hs : nm j = s
          · subst hs
            have hk : knw (nm j) (j + 1) = true := by rw [HK.out]; simp
            cases kj <;>
              (go_wp2_with fail
               go_roundw
               case rel => exact ⟨j + 1, by omega, by go_num, by rw [hk], HBQ.out⟩
               case measure => simp [intOf]; omega)
          · have hk : knw s (j + 1) = kj := by rw [HK.out]; simp [hs]
            have hsl : ((nm j).toList == s.toList) = false := by simpa [bytes_eq] using hs
            cases kj <;>
              (go_wp2_with fail
               go_roundw
               case rel => exact ⟨j + 1, by omega, by go_num, by rw [hk], HBQ.out⟩
               case measure => simp [intOf]; omega)
        · have : j = 19 := by omega
          subst this
          rw [hkk]
          rw [hkk] at HNK
          have cB := blk_cell (blk_below HG.out HBQ.out)
          have g0 := cB 0; have g1 := cB 1
          simp at g0 g1
          clear cB
          cases ok with
          | true =>
            have h1 := HOK.out.1 rfl
            have k1 : decide (k ≥ 1) = true := decide_eq_true h1.1
            have k2 : decide (k ≤ 19) = true := decide_eq_true h1.2
            clear h1
            cases kk with
            | true =>
              go_wp2_with fail
              go_ret
              exact ⟨rfl, below_step HB6.out HBQ.out⟩
            | false =>
              have := HNK.out rfl
              subst this
              go_wp2_with fail
              go_ret
              exact ⟨rfl, below_step HB6.out HBQ.out⟩
          | false =>
            obtain ⟨rfl, rfl⟩ := HNO.out rfl
            have h1 : ¬ (1 ≤ k ∧ k ≤ 19) := fun h => by have := HOK.out.2 h; cases this
            by_cases hk : 1 ≤ k
            · have k1 : decide (k ≥ 1) = true := decide_eq_true hk
              have k2 : decide (k ≤ 19) = false := decide_eq_false (fun h => h1 ⟨hk, h⟩)
              clear h1 hk
              cases kk with
              | true =>
                go_wp2_with fail
                go_ret
                exact ⟨rfl, below_step HB6.out HBQ.out⟩
              | false =>
                have := HNK.out rfl
                subst this
                go_wp2_with fail
                go_ret
                exact ⟨rfl, below_step HB6.out HBQ.out⟩
            · have k1 : decide (k ≥ 1) = false := decide_eq_false hk
              clear h1 hk
              cases kk with
              | true =>
                go_wp2_with fail
                go_ret
                exact ⟨rfl, below_step HB6.out HBQ.out⟩
              | false =>
                have := HNK.out rfl
                subst this
                go_wp2_with fail
                go_ret
                exact ⟨rfl, below_step HB6.out HBQ.out⟩
/-- The walk, as the row asks for it. -/
theorem rowWalk {W : World} (k : Int) (_wk : (Lit.int .u8 k).wf = true) (s : ByteArray) (_hs : s.size ≤ reachBytes) :
    Calls Try.prog 3 #[.int .u8 k, .string s] W fun e w' => e = .returned (.bool true) ∧ Below W.heap.size W w' := walk k s
end Go.Proofs.Ytclmnpdabnogkaa.ShapesWalk
