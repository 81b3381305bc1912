/- The call of the law PnumWholes answers true for every input, and nothing that was there has changed. No condition. -/
import Derived.Test.YtloiihbhpmmaiaaPnumA
import Derived.Test.YtloiihbhpmmaiaaPWholex1
import Derived.SizedLaws
namespace Go.Proofs.Ytloiihbhpmmaiaa.Wholes
open Go.RowKit Go.Proofs.YtloiihbhpmmaiaaW.PrintWords Go.Proofs.YtloiihbhpmmaiaaW.PrintLast Go.Proofs.YtloiihbhpmmaiaaW.PrintMore Go.Proofs.Ytloiihbhpmmaiaa.Whole Go.Proofs.Ytloiihbhpmmaiaa.PWhole
attribute [local go_sem] max2_int min2_int

theorem away_f (a b : Int) (ha : 0 ≤ a ∧ a < 9223372036854775808) (hb : 0 ≤ b ∧ b < 9223372036854775808) : binnacleref01_away.f a b = some (if a > b then a - b else b - a) := by
  unfold binnacleref01_away.f
  split
  · rw [u64_id (by omega) (by omega)]
  · rw [u64_id (by omega) (by omega)]

/-- The document's answer, behind its first loop: a window W is reckoned. -/
theorem ref_end (k : Nat) (n s e W i : Int) (hi : ¬ i < s) (hW : W = 256 ∨ W = 65536 ∨ W = 16777216 ∨ W = 4294967296) (hn : 0 ≤ n ∧ n < W) (he : 0 ≤ e ∧ e < 4611686018427387904) :
    binnacleref01_Whole.l0 (k + 3) n s e W i = some (near n e W) := by
  have hq : Int.tmod e W = e % W := Int.tmod_eq_emod_of_nonneg he.1
  have hm0 : 0 ≤ e % W := Int.emod_nonneg _ (by omega)
  have hm1 : e % W < W := Int.emod_lt_of_pos _ (by omega)
  have hm2 : e % W ≤ e := by
    rcases hW with rfl | rfl | rfl | rfl <;> omega
  have b1 : IntKind.u64.wrap (e - e % W) = e - e % W := u64_id (by omega) (by omega)
  have b2 : IntKind.u64.wrap (e - e % W + n) = e - e % W + n := u64_id (by omega) (by omega)
  have b3 : IntKind.u64.wrap (e - e % W + n + W) = e - e % W + n + W := u64_id (by omega) (by omega)
  have last : ∀ (P best : Int), P = e - e % W + n → (best = P ∨ best = P + W) → (best = P + W → P + W / 2 ≤ e) → (best = P → ¬ (P + W / 2 ≤ e ∧ P < 4611686018427387904 - W)) → (best = P + W → P < 4611686018427387904 - W) →
      binnacleref01_Whole.j2 (k + 1) e W P best = some (near n e W) := by
    intro P best hP hb h1 h2 h3
    have hnear : near n e W = if P + W / 2 ≤ e ∧ P < 4611686018427387904 - W then P + W else if P > e + W / 2 ∧ P ≥ W then P - W else P := by
      rw [hP]; rfl
    rw [hnear, binnacleref01_Whole.j2]
    by_cases hg : P ≥ W
    · have b4 : IntKind.u64.wrap (P - W) = P - W := u64_id (by omega) (by omega)
      rw [if_pos hg, b4, away_f (P - W) e (by omega) (by omega), away_f best e (by omega) (by omega)]
      simp only [Option.bind_some]
      rcases hb with rfl | rfl
      · have hno := h2 rfl
        by_cases hc : best > e + W / 2
        · have hlt : (if best - W > e then best - W - e else e - (best - W)) < (if best > e then best - e else e - best) := by
            rcases hW with rfl | rfl | rfl | rfl <;> (split <;> split <;> omega)
          rw [if_pos hlt, if_neg hno, if_pos ⟨hc, hg⟩]
        · have hlt : ¬ (if best - W > e then best - W - e else e - (best - W)) < (if best > e then best - e else e - best) := by
            rcases hW with rfl | rfl | rfl | rfl <;> (split <;> split <;> omega)
          rw [if_neg hlt, if_neg hno, if_neg (fun h => hc h.1)]
      · have hc := h1 rfl
        have hlt : ¬ (if P - W > e then P - W - e else e - (P - W)) < (if P + W > e then P + W - e else e - (P + W)) := by
          rcases hW with rfl | rfl | rfl | rfl <;> (split <;> split <;> omega)
        rw [if_neg hlt, if_pos ⟨hc, h3 rfl⟩]
    · rw [if_neg hg]
      rcases hb with rfl | rfl
      · rw [if_neg (h2 rfl), if_neg (fun h => hg h.2)]
      · rw [if_pos ⟨h1 rfl, h3 rfl⟩]
  rw [binnacleref01_Whole.l0, if_neg hi, if_neg (by omega), hq, b1, b2, b3]
  generalize hP : e - e % W + n = P at *
  by_cases hA : P + W ≤ 4611686018427387903
  · rw [if_pos hA, away_f (P + W) e (by omega) (by omega), away_f P e (by omega) (by omega)]
    simp only [Option.bind_some]
    rw [binnacleref01_Whole.j1]
    by_cases hB : P + W / 2 ≤ e
    · have : decide ((if P + W > e then P + W - e else e - (P + W)) ≤ (if P > e then P - e else e - P)) = true := by
        rw [decide_eq_true_iff]
        rcases hW with rfl | rfl | rfl | rfl <;> (split <;> split <;> omega)
      rw [this, if_pos rfl, b3]
      exact last P (P + W) rfl (.inr rfl) (fun _ => hB) (fun h => by omega) (fun _ => by omega)
    · have : decide ((if P + W > e then P + W - e else e - (P + W)) ≤ (if P > e then P - e else e - P)) = false := by
        rw [decide_eq_false_iff_not]
        rcases hW with rfl | rfl | rfl | rfl <;> (split <;> split <;> omega)
      rw [this, if_neg (by decide)]
      exact last P P rfl (.inl rfl) (fun h => by omega) (fun _ h => hB h.1) (fun h => by omega)
  · rw [if_neg hA, binnacleref01_Whole.j1, if_neg (by decide)]
    exact last P P rfl (.inl rfl) (fun h => by omega) (fun _ h => by omega) (fun h => by omega)

theorem ref_whole (n s e : Int) (hs : s = 1 ∨ s = 2 ∨ s = 3 ∨ s = 4) (hn : 0 ≤ n ∧ n < 256 ^ s.toNat) (he : 0 ≤ e ∧ e < 4611686018427387904) :
    binnacleref01_Whole.f 8 n s e = some (near n e (256 ^ s.toNat)) := by
  have u1 : IntKind.u64.wrap (1 * 256) = 256 := by decide +kernel
  have u2 : IntKind.u64.wrap (256 * 256) = 65536 := by decide +kernel
  have u3 : IntKind.u64.wrap (65536 * 256) = 16777216 := by decide +kernel
  have u4 : IntKind.u64.wrap (16777216 * 256) = 4294967296 := by decide +kernel
  have i1 : wrap64 (0 + 1) = 1 := by decide +kernel
  have i2 : wrap64 (1 + 1) = 2 := by decide +kernel
  have i3 : wrap64 (2 + 1) = 3 := by decide +kernel
  have i4 : wrap64 (3 + 1) = 4 := by decide +kernel
  unfold binnacleref01_Whole.f
  rcases hs with rfl | rfl | rfl | rfl
  · have hp : (256 : Int) ^ (1 : Int).toNat = 256 := by decide +kernel
    rw [hp] at hn ⊢
    rw [binnacleref01_Whole.l0, if_pos (by decide), u1, i1]
    exact ref_end 4 n 1 e 256 1 (by decide) (by omega) hn he
  · have hp : (256 : Int) ^ (2 : Int).toNat = 65536 := by decide +kernel
    rw [hp] at hn ⊢
    rw [binnacleref01_Whole.l0, if_pos (by decide), u1, i1, binnacleref01_Whole.l0, if_pos (by decide), u2, i2]
    exact ref_end 3 n 2 e 65536 2 (by decide) (by omega) hn he
  · have hp : (256 : Int) ^ (3 : Int).toNat = 16777216 := by decide +kernel
    rw [hp] at hn ⊢
    rw [binnacleref01_Whole.l0, if_pos (by decide), u1, i1, binnacleref01_Whole.l0, if_pos (by decide), u2, i2, binnacleref01_Whole.l0, if_pos (by decide), u3, i3]
    exact ref_end 2 n 3 e 16777216 3 (by decide) (by omega) hn he
  · have hp : (256 : Int) ^ (4 : Int).toNat = 4294967296 := by decide +kernel
    rw [hp] at hn ⊢
    rw [binnacleref01_Whole.l0, if_pos (by decide), u1, i1, binnacleref01_Whole.l0, if_pos (by decide), u2, i2, binnacleref01_Whole.l0, if_pos (by decide), u3, i3, binnacleref01_Whole.l0, if_pos (by decide), u4, i4]
    exact ref_end 1 n 4 e 4294967296 4 (by decide) (by omega) hn he

theorem ref_calls (n s e r : Int) (hs : s = 1 ∨ s = 2 ∨ s = 3 ∨ s = 4) (hn : 0 ≤ n ∧ n < 256 ^ s.toNat) (he : 0 ≤ e ∧ e < 4611686018427387904) (hr : near n e (256 ^ s.toNat) = r) (w : World) :
    Calls Try.prog 18 #[.int .u64 n, .int .i64 s, .int .u64 e] w fun e' w' => e' = .returned (.int .u64 r) ∧ Below w.heap.size w w' := by
  subst hr
  refine (binnacleref01_Whole.calls 8 n s e _ w (ref_whole n s e hs hn he)).mono ?_
  rintro e' w' ⟨rfl, hd⟩
  exact ⟨rfl, hd.below⟩

set_option maxRecDepth 100000 in
set_option maxHeartbeats 2000000 in
theorem wholes_bad {w : World} {A : Option Addr} {cap : Nat} {xs : List Int} (hC : Kd.C (Kd.int .u8) w A xs.length xs) (hx : ∀ x ∈ xs, 0 ≤ x ∧ x ≤ 255) (hlen : xs.length ≤ 140737488355328) (g n : Int) (hg : -9223372036854775808 ≤ g ∧ g ≤ 9223372036854775807) (hn : 0 ≤ n ∧ n ≤ 255)
    (h : xs.length < 1 ∨ 4 < xs.length) :
    Calls Try.prog 4 #[.slice A xs.length cap, .int .i64 g, .int .u8 n] w fun e w' => e = .returned (.bool true) ∧ Below w.heap.size w w' := by
  have cw : ∀ (w1 : World) (g : Int), Below w.heap.size w w1 → g ≤ 9223372036854775807 → Calls Try.prog 17 #[.slice A xs.length cap, .int .i64 g] w1 fun e w' => e = .returned (.tuple #[.int .u64 0, .int .i64 6]) ∧ w1 = w' := by
    intro w1 g hb hg
    have h1 := whole_calls (cap := cap) (Kd.C_below hC hb) hx hlen g hg
    have hr : whole xs g = (0, 6) := by unfold whole; rw [if_pos h]
    rw [hr] at h1
    exact h1
  have CW := Lib.hid cw
  have HG := Lib.hid hg
  clear cw hC hx hg
  have hbad : decide ((xs.length : Int) < 1) = true ∨ (decide ((xs.length : Int) < 1) = false ∧ decide ((4 : Int) < (xs.length : Int)) = true) := by
    rcases h with h | h
    · exact .inl (decide_eq_true (by omega))
    · exact .inr ⟨decide_eq_false (by omega), decide_eq_true (by omega)⟩
  clear h
  rcases hbad with hb1 | ⟨hb1, hb2⟩
  all_goals
    go_enter Try.func4, Try.ntmps4
    go_wp2_with fail
    refine (awake_calls _).mono ?_
    rintro e w1 ⟨rfl, hw1⟩
    have HW := Lib.hid hw1
    clear hw1
    go_wp2_with fail
    go_loopw [23] (fun i wr => ∃ j : Nat, j ≤ 2 ∧ i = .int .i64 j ∧ Below w.heap.size w wr ∧ wr.cell? ⟨w1.heap.size, 0, none⟩ = some (.int .i64 g) ∧ wr.cell? ⟨w1.heap.size, 1, none⟩ = some (.int .i64 (n - 3))) (fun i _ => 2 - (intOf i).toNat)
    case atStart => exact ⟨0, by omega, rfl, HW.out.alloc HW.out.size _, by simp, by simp⟩
    case round =>
      obtain ⟨j, hj, rfl, hb, c0, c1⟩ := hrel
      have hj3 : j = 0 ∨ j = 1 ∨ j = 2 := by omega
      rcases hj3 with rfl | rfl | rfl
      · go_wp2_with fail
        refine (CW.out _ g hb HG.out.2).mono ?_
        rintro e w2 ⟨rfl, rfl⟩
        go_wp2_with fail
        go_roundw
        case rel => exact ⟨1, by omega, by go_num, hb, c0, c1⟩
        case measure => simp [intOf]
      · go_wp2_with fail
        refine (CW.out _ (n - 3) hb (by omega)).mono ?_
        rintro e w2 ⟨rfl, rfl⟩
        go_wp2_with fail
        go_roundw
        case rel => exact ⟨2, by omega, by go_num, hb, c0, c1⟩
        case measure => simp [intOf]
      · go_wp2_with fail
        go_ret
        exact ⟨rfl, hb⟩

/-- What is expected. -/
def exp (g : Int) : Int := if g < -1 then 0 else g + 1

theorem good_facts {w : World} {A : Option Addr} {cap : Nat} {xs : List Int} (hC : Kd.C (Kd.int .u8) w A xs.length xs) (hx : ∀ x ∈ xs, 0 ≤ x ∧ x ≤ 255) (h1 : 1 ≤ xs.length) (h4 : xs.length ≤ 4) (g : Int) (hg : g ≤ 9223372036854775807) :
    ∀ w1 : World, Below w.heap.size w w1 → (g ≥ 4611686018427387903 → Calls Try.prog 17 #[.slice A xs.length cap, .int .i64 g] w1 fun e w' => e = .returned (.tuple #[.int .u64 0, .int .i64 2]) ∧ w1 = w') ∧
      (g < 4611686018427387903 → Calls Try.prog 17 #[.slice A xs.length cap, .int .i64 g] w1 fun e w' => e = .returned (.tuple #[.int .u64 (near (val xs) (exp g) (256 ^ xs.length)), .int .i64 0]) ∧ w1 = w') := by
  intro w1 hb
  have k1 := whole_calls (cap := cap) (Kd.C_below hC hb) hx (by omega) g hg
  have hr : whole xs g = if g ≥ 4611686018427387903 then (0, 2) else (near (val xs) (exp g) (256 ^ xs.length), 0) := by
    unfold whole exp
    rw [if_neg (by omega)]
  rw [hr] at k1
  refine ⟨fun h => ?_, fun h => ?_⟩
  · rw [if_pos h] at k1
    exact k1
  · rw [if_neg (by omega)] at k1
    exact k1

set_option maxRecDepth 100000 in
set_option maxHeartbeats 4000000 in
theorem wholes_good {w : World} {A : Option Addr} {cap : Nat} {xs : List Int} (hC : Kd.C (Kd.int .u8) w A xs.length xs) (hx : ∀ x ∈ xs, 0 ≤ x ∧ x ≤ 255) (g n : Int) (hg : -9223372036854775808 ≤ g ∧ g ≤ 9223372036854775807) (hn : 0 ≤ n ∧ n ≤ 255)
    (h1 : 1 ≤ xs.length) (h4 : xs.length ≤ 4) :
    Calls Try.prog 4 #[.slice A xs.length cap, .int .i64 g, .int .u8 n] w fun e w' => e = .returned (.bool true) ∧ Below w.heap.size w w' := by
  have cw := fun (g : Int) (hg : g ≤ 9223372036854775807) => good_facts (cap := cap) hC hx h1 h4 g hg
  obtain ⟨ad, rfl, hcell⟩ : ∃ ad, A = some ad ∧ ∀ j : Nat, j < xs.length → w.cell? (ad.add j) = some (.int .u8 (rd xs j)) := by
    obtain ⟨ad, e, _⟩ := Kd.at_int hC 0 (by omega) (by omega)
    refine ⟨ad, e, fun j hj => ?_⟩
    obtain ⟨ad', e', h⟩ := Kd.at_int hC j (by omega) (by omega)
    rw [e] at e'
    injection e' with e'
    subst e'
    simpa using h
  have CW := Lib.hid cw
  have CL := Lib.hid hcell
  have HG := Lib.hid hg
  have HX := Lib.hid hx
  have HS : Hid (∀ r e, 0 ≤ e ∧ e < 4611686018427387904 → near (val xs) e (256 ^ xs.length) = r → ∀ wr : World, Calls Try.prog 18 #[.int .u64 (val xs), .int .i64 xs.length, .int .u64 e] wr fun e' w' => e' = .returned (.int .u64 r) ∧ Below wr.heap.size wr w') := by
    refine Lib.hid ?_
    intro r e he hr wr
    have hv := val_bound xs hx xs.length (Nat.le_refl _)
    rw [List.take_length] at hv
    exact ref_calls (val xs) xs.length e r (by omega) hv he hr wr
  clear cw hC hx hg hcell
  go_enter Try.func4, Try.ntmps4
  go_wp2_with fail
  refine (awake_calls _).mono ?_
  rintro e w1 ⟨rfl, hw1⟩
  have HW := Lib.hid hw1
  clear hw1
  go_wp2_with fail
  go_loopw [23] (fun i wr => ∃ j : Nat, j ≤ 2 ∧ i = .int .i64 j ∧ Below w.heap.size w wr ∧ wr.cell? ⟨w1.heap.size, 0, none⟩ = some (.int .i64 g) ∧ wr.cell? ⟨w1.heap.size, 1, none⟩ = some (.int .i64 (n - 3)) ∧ w1.heap.size < wr.heap.size) (fun i _ => 2 - (intOf i).toNat)
  case atStart => exact ⟨0, by omega, rfl, HW.out.alloc HW.out.size _, by simp, by simp, by simp⟩
  case round =>
    obtain ⟨j, hj, rfl, hb, c0, c1, hs⟩ := hrel
    by_cases hj2 : j = 2
    · subst hj2
      go_wp2_with fail
      go_ret
      exact ⟨rfl, hb⟩
    · obtain ⟨q, hq⟩ : ∃ q : Int, q = (if j = 0 then g else n - 3) := ⟨_, rfl⟩
      have hcq : wr.cell? ⟨w1.heap.size, j, none⟩ = some (.int .i64 q) := by
        have : j = 0 ∨ j = 1 := by omega
        rcases this with rfl | rfl
        · rw [hq, if_pos rfl]; exact c0
        · rw [hq, if_neg (by decide)]; exact c1
      have hq1 : q ≤ 9223372036854775807 := by rw [hq]; split; exact HG.out.2; omega
      clear hq
      have cc := CW.out q hq1 wr hb
      have CC := Lib.hid cc
      have C0 := Lib.hid c0
      have C1 := Lib.hid c1
      clear cc c0 c1
      by_cases hbig : q ≥ 4611686018427387903
      · go_wp2_with fail
        refine (CC.out.1 hbig).mono ?_
        rintro e w2 ⟨rfl, rfl⟩
        have hT : decide ((4611686018427387903 : Int) < q + 1) = true := decide_eq_true (by omega)
        have hwq : IntKind.u64.wrap q = q := u64_id (by omega) (by omega)
        have hwq1 : IntKind.u64.wrap (q + 1) = q + 1 := u64_id (by omega) (by omega)
        have q0 : 0 ≤ q := by omega
        clear hbig
        go_wp2_with fail
        go_roundw
        case rel => exact ⟨j + 1, by omega, by go_num, hb, C0.out, C1.out, hs⟩
        case measure => simp [intOf]; omega
      · have he : exp q = if q ≥ 0 then q + 1 else 0 := by
          unfold exp
          by_cases h : q < -1
          · rw [if_pos h, if_neg (by omega)]
          · rw [if_neg h]; split <;> omega
        by_cases hq0 : q ≥ 0
        · rw [if_pos hq0] at he
          go_wp2_with fail
          refine (CC.out.2 (by omega)).mono ?_
          rintro e w2 ⟨rfl, rfl⟩
          generalize hr : near (val xs) (exp q) (256 ^ xs.length) = r at *
          have HR : Hid (near (val xs) (q + 1) (256 ^ xs.length) = r) := Lib.hid (by rw [← hr, he])
          clear hr he
          have hT : decide ((4611686018427387903 : Int) < q + 1) = false := decide_eq_false (by omega)
          have hwq : IntKind.u64.wrap q = q := u64_id (by omega) (by omega)
          have hwq1 : IntKind.u64.wrap (q + 1) = q + 1 := u64_id (by omega) (by omega)
          have q1 : q + 1 < 4611686018427387904 := by omega
          clear hbig
          go_wp2_with fail
          go_loop [12, 62] (fun v i => ∃ t : Nat, t ≤ xs.length ∧ i = .int .i64 t ∧ v = .int .u64 (val (xs.take t))) (fun _ i => xs.length - (intOf i).toNat)
          case atStart => exact ⟨0, Nat.zero_le _, rfl, rfl⟩
          case round =>
            obtain ⟨t, ht, rfl, rfl⟩ := hrel
            by_cases hlt : t < xs.length
            · have hc := (pw_cell_below hb (CL.out t hlt))
              have hbd := rd_in HX.out t
              have hv : 0 ≤ val (xs.take t) ∧ val (xs.take t) < 281474976710656 := by
                have := val_bound xs HX.out t (by omega)
                have h2 : (256 : Int) ^ t ≤ 256 ^ 6 := by
                  have : t = 0 ∨ t = 1 ∨ t = 2 ∨ t = 3 := by omega
                  rcases this with rfl | rfl | rfl | rfl <;> decide
                omega
              have hn := val_take xs t (by omega)
              have HN := Lib.hid hn
              clear hn
              generalize val (xs.take t) = v at *
              generalize rd xs t = c at *
              go_wp2_with fail
              go_round
              case rel => exact ⟨t + 1, by omega, by go_num, by rw [HN.out]⟩
              case measure => simp [intOf]; omega
            · have ht2 : t = xs.length := by omega
              subst ht2
              rw [List.take_length]
              go_wp2_with fail
              refine (HS.out r (q + 1) (by omega) HR.out _).mono ?_
              rintro e w3 ⟨rfl, hb3⟩
              have hb4 := below_step hb hb3
              have c0' := pw_cell_below hb3 C0.out
              have c1' := pw_cell_below hb3 C1.out
              have hs' : w1.heap.size < w3.heap.size := by have := hb3.size; omega
              have D0 := Lib.hid c0'
              have D1 := Lib.hid c1'
              clear c0' c1'
              go_wp2_with fail
              go_roundw
              case rel => exact ⟨j + 1, by omega, by go_num, hb4, D0.out, D1.out, hs'⟩
              case measure => simp [intOf]; omega
        · rw [if_neg hq0] at he
          go_wp2_with fail
          refine (CC.out.2 (by omega)).mono ?_
          rintro e w2 ⟨rfl, rfl⟩
          generalize hr : near (val xs) (exp q) (256 ^ xs.length) = r at *
          have HR : Hid (near (val xs) (0) (256 ^ xs.length) = r) := Lib.hid (by rw [← hr, he])
          clear hr he
          have hT : decide ((4611686018427387903 : Int) < 0) = false := decide_eq_false (by omega)
          have q1 : q < 0 := by omega
          clear hbig
          go_wp2_with fail
          go_loop [12, 62] (fun v i => ∃ t : Nat, t ≤ xs.length ∧ i = .int .i64 t ∧ v = .int .u64 (val (xs.take t))) (fun _ i => xs.length - (intOf i).toNat)
          case atStart => exact ⟨0, Nat.zero_le _, rfl, rfl⟩
          case round =>
            obtain ⟨t, ht, rfl, rfl⟩ := hrel
            by_cases hlt : t < xs.length
            · have hc := (pw_cell_below hb (CL.out t hlt))
              have hbd := rd_in HX.out t
              have hv : 0 ≤ val (xs.take t) ∧ val (xs.take t) < 281474976710656 := by
                have := val_bound xs HX.out t (by omega)
                have h2 : (256 : Int) ^ t ≤ 256 ^ 6 := by
                  have : t = 0 ∨ t = 1 ∨ t = 2 ∨ t = 3 := by omega
                  rcases this with rfl | rfl | rfl | rfl <;> decide
                omega
              have hn := val_take xs t (by omega)
              have HN := Lib.hid hn
              clear hn
              generalize val (xs.take t) = v at *
              generalize rd xs t = c at *
              go_wp2_with fail
              go_round
              case rel => exact ⟨t + 1, by omega, by go_num, by rw [HN.out]⟩
              case measure => simp [intOf]; omega
            · have ht2 : t = xs.length := by omega
              subst ht2
              rw [List.take_length]
              go_wp2_with fail
              refine (HS.out r (0) (by omega) HR.out _).mono ?_
              rintro e w3 ⟨rfl, hb3⟩
              have hb4 := below_step hb hb3
              have c0' := pw_cell_below hb3 C0.out
              have c1' := pw_cell_below hb3 C1.out
              have hs' : w1.heap.size < w3.heap.size := by have := hb3.size; omega
              have D0 := Lib.hid c0'
              have D1 := Lib.hid c1'
              clear c0' c1'
              go_wp2_with fail
              go_roundw
              case rel => exact ⟨j + 1, by omega, by go_num, hb4, D0.out, D1.out, hs'⟩
              case measure => simp [intOf]; omega

theorem walk {W : World} (A : Option Addr) (len cap : Nat) (xs : List Int) (e : xs.length = len) (_hc : len ≤ cap) (hC : Kd.C (Kd.int .u8) W A len xs) (hw : xs.length * 1 ≤ reachBytes ∧ ∀ y ∈ xs, (Lit.int .u8 y).wf = true)
    (g : Int) (wg : (Lit.int .i64 g).wf = true) (n : Int) (wn : (Lit.int .u8 n).wf = true) :
    Calls Try.prog 4 #[.slice A len cap, .int .i64 g, .int .u8 n] W fun e w' => e = .returned (.bool true) ∧ Below W.heap.size W w' := by
  subst e
  have hx : ∀ x ∈ xs, 0 ≤ x ∧ x ≤ 255 := fun x hx => bounds_u8 (hw.2 x hx)
  by_cases h : xs.length < 1 ∨ 4 < xs.length
  · exact wholes_bad hC hx (by have := hw.1; unfold reachBytes at this; omega) g n (bounds_i64 wg) (bounds_u8 wn) h
  · exact wholes_good hC hx g n (bounds_i64 wg) (bounds_u8 wn) (by omega) (by omega)
end Go.Proofs.Ytloiihbhpmmaiaa.Wholes
