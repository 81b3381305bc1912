/- The call of the law RttBounds answers true for every input, and nothing that was there has changed. No condition. -/
import Derived.Test.YtloiihbhpmmaiaaPRttBoundsx1
import Derived.OpenShut
import Derived.Lib.Hide
import Derived.SizedLaws
import Derived.Deep.RegionHeld3
namespace Go.Proofs.Ytloiihbhpmmaiaa.Bounds
open Go.RowKit Go.Proofs.Ytloiihbhpmmaiaa.PRttBounds Go.Proofs.YtloiihbhpmmaiaaW.PrintWords Go.Proofs.YtloiihbhpmmaiaaW.PrintLast Go.Proofs.YtloiihbhpmmaiaaW.PrintMore
attribute [local go_sem] max2_int min2_int

theorem u64_id {n : Int} (h0 : 0 ≤ n) (h1 : n < 18446744073709551616) : IntKind.u64.wrap n = n := by rw [IntKind.wrap_u64]; omega

theorem measure_first (k : Nat) (a b c d n : Int) (h0 : 0 ≤ n) (h1 : n < 4294967296) :
    rtt_Rtt_Measure.f k a b c d false n 0 0 = some (n, n, n, n / 2, true) := by
  have e : mn n 1125899906842624 = n := by unfold mn; split <;> omega
  unfold rtt_Rtt_Measure.f
  rw [if_neg (by decide), e, Int.tdiv_eq_ediv_of_nonneg h0, u64_id (by omega) (by omega)]

theorem measure_next (k : Nat) (a b s v n : Int) (h0 : 0 ≤ n) (h1 : n < 4294967296) (hs : 0 ≤ s ∧ s < 1125899906842625) (hv : 0 ≤ v ∧ v < 1125899906842625) :
    rtt_Rtt_Measure.f (k + 1) a b s v true n 0 0 = some (n, mn b n, (7 * s + n) / 8, (3 * v + (if n > s then n - s else s - n)) / 4, true) := by
  have e : mn n 1125899906842624 = n := by unfold mn; split <;> omega
  have e0 : mn 0 0 = 0 := rfl
  have hm : mn b n ≤ n := by unfold mn; split <;> omega
  unfold rtt_Rtt_Measure.f
  rw [if_pos rfl, e, e0, if_pos (by omega)]
  have e1 : IntKind.u64.wrap (n - 0) = n := by rw [u64_id] <;> omega
  rw [e1]
  have e2 : decide (n ≥ mn b n) = true := by simp; omega
  rw [e2]
  simp only [rtt_Rtt_Measure.j0, if_true]
  rw [e1]
  have w1 : IntKind.u64.wrap (7 * s) = 7 * s := u64_id (by omega) (by omega)
  have w2 : IntKind.u64.wrap (3 * v) = 3 * v := u64_id (by omega) (by omega)
  have w3 : IntKind.u64.wrap (7 * s + n) = 7 * s + n := u64_id (by omega) (by omega)
  have w4 : Int.tdiv (7 * s + n) 8 = (7 * s + n) / 8 := Int.tdiv_eq_ediv_of_nonneg (by omega)
  have w5 : IntKind.u64.wrap ((7 * s + n) / 8) = (7 * s + n) / 8 := u64_id (by omega) (by omega)
  rw [w1, w2, w3, w4, w5]
  by_cases hc : n > s
  · rw [if_pos hc, if_pos hc]
    have x1 : IntKind.u64.wrap (n - s) = n - s := u64_id (by omega) (by omega)
    have x2 : IntKind.u64.wrap (3 * v + (n - s)) = 3 * v + (n - s) := u64_id (by omega) (by omega)
    have x3 : Int.tdiv (3 * v + (n - s)) 4 = (3 * v + (n - s)) / 4 := Int.tdiv_eq_ediv_of_nonneg (by omega)
    rw [x1, x2, x3, u64_id (n := (3 * v + (n - s)) / 4) (by omega) (by omega)]
  · rw [if_neg hc, if_neg hc]
    have x1 : IntKind.u64.wrap (s - n) = s - n := u64_id (by omega) (by omega)
    have x2 : IntKind.u64.wrap (3 * v + (s - n)) = 3 * v + (s - n) := u64_id (by omega) (by omega)
    have x3 : Int.tdiv (3 * v + (s - n)) 4 = (3 * v + (s - n)) / 4 := Int.tdiv_eq_ediv_of_nonneg (by omega)
    rw [x1, x2, x3, u64_id (n := (3 * v + (s - n)) / 4) (by omega) (by omega)]

theorem awake (k : Nat) : binnaclelaw17_Awake.f k = some true := by
  unfold binnaclelaw17_Awake.f rtt_New.f
  simp only [Option.bind_some]
  rw [measure_first k 0 0 333000 166500 800 (by omega) (by omega)]
  rfl

/-- What was measured, so far: nothing, or what lies between the bounds. -/
def Ok (lo hi _la le s v : Int) (b : Bool) : Prop :=
  (b = false ∧ lo = 4611686018427387904 ∧ hi = 0) ∨
  (b = true ∧ le = lo ∧ 0 ≤ lo ∧ lo ≤ hi ∧ hi < 4294967296 ∧ lo ≤ s + 7 ∧ s ≤ hi ∧ 0 ≤ s ∧ 0 ≤ v ∧ v < 4294967296)

/-- One more: what Measure answers, and what the law then finds. -/
theorem more (lo hi la le s v n : Int) (b : Bool) (h : Ok lo hi la le s v b) (h0 : 0 ≤ n) (h1 : n < 4294967296) :
    ∃ s' v', rtt_Rtt_Measure.f 1 la le s v b n 0 0 = some (n, mn lo n, s', v', true) ∧ Ok (mn lo n) (mx hi n) n (mn lo n) s' v' true := by
  rcases h with ⟨rfl, rfl, rfl⟩ | ⟨rfl, rfl, a0, a1, a2, a3, a4, a5, a6, a7⟩
  · have e : mn 4611686018427387904 n = n := by unfold mn; rw [if_pos (by omega)]
    have e2 : mx 0 n = n := by unfold mx; split <;> omega
    refine ⟨n, n / 2, by rw [e]; exact measure_first 1 la le s v n h0 h1, ?_⟩
    rw [e, e2]
    exact .inr ⟨rfl, rfl, h0, by omega, h1, by omega, by omega, h0, by omega, by omega⟩
  · refine ⟨_, _, measure_next 0 la le s v n h0 h1 (by omega) (by omega), ?_⟩
    have m1 : mn le n ≤ n ∧ mn le n ≤ le ∧ (mn le n = n ∨ mn le n = le) := by unfold mn; split <;> omega
    have m2 : n ≤ mx hi n ∧ hi ≤ mx hi n ∧ (mx hi n = n ∨ mx hi n = hi) := by unfold mx; split <;> omega
    refine .inr ⟨rfl, rfl, by omega, by omega, by omega, by omega, by omega, by omega, ?_, ?_⟩
    · split <;> omega
    · split <;> omega

theorem rd_in {xs : List Int} (hx : ∀ x ∈ xs, 0 ≤ x ∧ x ≤ 4294967295) (j : Int) : 0 ≤ rd xs j ∧ rd xs j ≤ 4294967295 := by
  unfold rd
  rw [List.getD_eq_getElem?_getD]
  by_cases h : j.toNat < xs.length
  · rw [List.getElem?_eq_getElem h]
    exact hx _ (List.getElem_mem h)
  · rw [List.getElem?_eq_none (by omega)]
    exact ⟨by decide, by decide⟩

/-- The window's cells. -/
def At (w : World) (g : Nat) (la le s v : Int) (b : Bool) : Prop :=
  w.cell? ⟨g, 0, none⟩ = some (.int .u64 la) ∧ w.cell? ⟨g, 1, none⟩ = some (.int .u64 le) ∧ w.cell? ⟨g, 2, none⟩ = some (.int .u64 s) ∧ w.cell? ⟨g, 3, none⟩ = some (.int .u64 v) ∧ w.cell? ⟨g, 4, none⟩ = some (.bool b) ∧
  w.frozen? ⟨g, 0, none⟩ = false ∧ w.frozen? ⟨g, 1, none⟩ = false ∧ w.frozen? ⟨g, 2, none⟩ = false ∧ w.frozen? ⟨g, 3, none⟩ = false ∧ w.frozen? ⟨g, 4, none⟩ = false
theorem At.below {w w1 : World} {g : Nat} {la le s v : Int} {b : Bool} (h : At w g la le s v b) (hb : Below w.heap.size w w1) : At w1 g la le s v b := by
  obtain ⟨c0, c1, c2, c3, c4, f0, f1, f2, f3, f4⟩ := h
  have hg : g < w.heap.size := World.block_lt_of_cell? w _ c0
  exact ⟨pw_cell_below hb c0, pw_cell_below hb c1, pw_cell_below hb c2, pw_cell_below hb c3, pw_cell_below hb c4,
    (hb.frozen (p := ⟨g, 0, none⟩) hg).trans f0, (hb.frozen (p := ⟨g, 1, none⟩) hg).trans f1, (hb.frozen (p := ⟨g, 2, none⟩) hg).trans f2, (hb.frozen (p := ⟨g, 3, none⟩) hg).trans f3, (hb.frozen (p := ⟨g, 4, none⟩) hg).trans f4⟩

theorem keep5 {w w' : World} {g : Nat} {x0 x1 x2 x3 x4 : Value} (hb : Below w.heap.size w w') (h : w.cell? ⟨g, 0, none⟩ = some x0 ∧ w.cell? ⟨g, 1, none⟩ = some x1 ∧ w.cell? ⟨g, 2, none⟩ = some x2 ∧ w.cell? ⟨g, 3, none⟩ = some x3 ∧ w.cell? ⟨g, 4, none⟩ = some x4) :
    w'.cell? ⟨g, 0, none⟩ = some x0 ∧ w'.cell? ⟨g, 1, none⟩ = some x1 ∧ w'.cell? ⟨g, 2, none⟩ = some x2 ∧ w'.cell? ⟨g, 3, none⟩ = some x3 ∧ w'.cell? ⟨g, 4, none⟩ = some x4 :=
  ⟨pw_cell_below hb h.1, pw_cell_below hb h.2.1, pw_cell_below hb h.2.2.1, pw_cell_below hb h.2.2.2.1, pw_cell_below hb h.2.2.2.2⟩
theorem frozen_set {w : World} {g i j : Nat} {u : Value} (h : w.frozen? ⟨g, i, none⟩ = false) : (w.setCell ⟨g, j, none⟩ u).frozen? ⟨g, i, none⟩ = false := by
  rw [World.frozen?_setCell]; exact h
theorem At.put {w : World} {g : Nat} {la le s v la' le' s' v' : Int} {b b' : Bool} (h : At w g la le s v b) :
    At (((((w.setCell ⟨g, 0, none⟩ (.int .u64 la')).setCell ⟨g, 1, none⟩ (.int .u64 le')).setCell ⟨g, 2, none⟩ (.int .u64 s')).setCell ⟨g, 3, none⟩ (.int .u64 v')).setCell ⟨g, 4, none⟩ (.bool b')) g la' le' s' v' b' := by
  obtain ⟨c0, c1, c2, c3, c4, f0, f1, f2, f3, f4⟩ := h
  refine ⟨?_, ?_, ?_, ?_, ?_, ?_, ?_, ?_, ?_, ?_⟩
  all_goals go_simp
theorem below_put {w0 w : World} {g : Nat} {la' le' s' v' : Int} {b' : Bool} (hb : Below w0.heap.size w0 w) (hg : w0.heap.size ≤ g) :
    Below w0.heap.size w0 (((((w.setCell ⟨g, 0, none⟩ (.int .u64 la')).setCell ⟨g, 1, none⟩ (.int .u64 le')).setCell ⟨g, 2, none⟩ (.int .u64 s')).setCell ⟨g, 3, none⟩ (.int .u64 v')).setCell ⟨g, 4, none⟩ (.bool b')) :=
  ((((hb.setCell hg _).setCell hg _).setCell hg _).setCell hg _).setCell hg _

set_option maxRecDepth 100000 in
set_option maxHeartbeats 4000000 in
theorem bounds_calls {w : World} {A : Option Addr} {cap : Nat} {xs : List Int} (hC : Kd.C (Kd.int .u32) w A xs.length xs) (hx : ∀ x ∈ xs, 0 ≤ x ∧ x ≤ 4294967295) (_hlen : xs.length ≤ 140737488355328) (u : Int) (hu : 0 ≤ u ∧ u ≤ 4294967295) :
    Calls Try.prog 6 #[.slice A xs.length cap, .int .u32 u] w fun e w' => e = .returned (.bool true) ∧ Below w.heap.size w w' := by
  have H := Lib.hid hC
  have HX := Lib.hid hx
  clear hC hx
  go_enter Try.func6, Try.ntmps6
  go_wp2_with fail
  refine (binnaclelaw17_Awake.calls 0 true _ (awake 0)).mono ?_
  rintro e w1 ⟨rfl, hw1⟩
  have HW := Lib.hid hw1
  clear hw1
  go_wp2_with fail
  refine (rtt_New.calls 0 0 333000 166500 false _ rfl).mono ?_
  rintro e w2 ⟨rfl, hw2⟩
  have hw := below_step HW.out hw2
  have HW2 := Lib.hid hw
  clear hw HW hw2
  go_wp2_with fail
  go_loopw [6, 7, 15] (fun vl vh i wr => ∃ (j : Nat) (lo hi la le s v : Int) (b : Bool), j ≤ xs.length ∧ i = .int .i64 j ∧ vl = .int .u64 lo ∧ vh = .int .u64 hi ∧ At wr w2.heap.size la le s v b ∧ Ok lo hi la le s v b ∧ Below w.heap.size w wr) (fun _ _ i _ => xs.length - (intOf i).toNat)
  case atStart =>
    refine ⟨0, _, _, 0, 0, 333000, 166500, false, Nat.zero_le _, rfl, rfl, rfl, ?_, .inl ⟨rfl, rfl, rfl⟩, ?_⟩
    · refine ⟨?_, ?_, ?_, ?_, ?_, ?_, ?_, ?_, ?_, ?_⟩
      all_goals go_simp
    · exact HW2.out.alloc HW2.out.size _
  case round =>
    obtain ⟨j, lo, hi, la, le, s, v, b, hj, rfl, rfl, rfl, hat, hok, hb⟩ := hrel
    by_cases hlt : j < xs.length
    · obtain ⟨ad, rfl, hcell⟩ := Kd.at_int (Kd.C_below H.out hb) j (by omega) (by omega)
      rw [Int.toNat_natCast] at hcell
      have hn := rd_in HX.out j
      generalize rd xs j = n at *
      by_cases h100 : j ≥ 100
      · clear hat hok
        go_wp2_with fail
        go_ret
        exact ⟨rfl, hb⟩
      · obtain ⟨s', v', hm, hok'⟩ := more lo hi la le s v n b hok hn.1 (by omega)
        obtain ⟨L, hL⟩ : ∃ L, (if n < lo then n else lo) = L := ⟨_, rfl⟩
        obtain ⟨U, hU⟩ : ∃ U, (if hi < n then n else hi) = U := ⟨_, rfl⟩
        have eL : mn lo n = L := hL
        have eU : mx hi n = U := hU
        rw [eL] at hm
        rw [eL, eU] at hok'
        clear eL eU
        have HM := Lib.hid hm
        have HO := Lib.hid hok'
        have hbnd : 0 ≤ lo ∧ lo ≤ 4611686018427387904 ∧ 0 ≤ hi ∧ hi < 4294967296 := by
          rcases hok with ⟨_, rfl, rfl⟩ | ⟨_, _, h⟩
          · omega
          · omega
        have hat0 := hat
        obtain ⟨c0, c1, c2, c3, c4, f0, f1, f2, f3, f4⟩ := hat
        have HT := Lib.hid hat0
        clear hm hok' hok hat0
        go_wp2_with fail
        refine (rtt_Rtt_Measure.calls 1 la le s v b n 0 0 n L s' v' true _ HM.out).mono ?_
        rintro e w3 ⟨rfl, hb3⟩
        obtain ⟨d0, d1, d2, d3, d4, g0, g1, g2, g3, g4⟩ := HT.out.below hb3
        clear c0 c1 c2 c3 c4 f0 f1 f2 f3 f4
        go_wp2_with fail
        have hat5 := (HT.out.below hb3).put (la' := n) (le' := L) (s' := s') (v' := v') (b' := true)
        have hb5 := below_put (la' := n) (le' := L) (s' := s') (v' := v') (b' := true) (below_step hb hb3) HW2.out.size
        clear d0 d1 d2 d3 d4 g0 g1 g2 g3 g4
        generalize (((((w3.setCell ⟨w2.heap.size, 0, none⟩ (.int .u64 n)).setCell ⟨w2.heap.size, 1, none⟩ (.int .u64 L)).setCell ⟨w2.heap.size, 2, none⟩ (.int .u64 s')).setCell ⟨w2.heap.size, 3, none⟩ (.int .u64 v')).setCell ⟨w2.heap.size, 4, none⟩ (.bool true)) = w5 at *
        have hok := HO.out
        obtain ⟨o1, o2, o3, o4, o5, o6⟩ : 0 ≤ s' ∧ s' < 4294967296 ∧ L ≤ s' + 7 ∧ s' ≤ U ∧ 0 ≤ v' ∧ v' < 4294967296 := by
          rcases hok with ⟨h, _⟩ | ⟨_, _, h⟩
          · cases h
          · omega
        clear hok
        obtain ⟨p, hp, hp1⟩ : ∃ p, rtt_Rtt_Probe.f n L s' v' true u = some p ∧ s' + 1000 + u ≤ p := by
          have e1 : mn u 1125899906842624 = u := by unfold mn; rw [if_neg (by omega)]
          have e2 : 1000 ≤ mx (4 * v') 1000 ∧ mx (4 * v') 1000 ≤ 4 * v' + 1000 := by unfold mx; split <;> omega
          refine ⟨_, rfl, ?_⟩
          rw [e1, u64_id (n := 4 * v') (by omega) (by omega), u64_id (n := s' + mx (4 * v') 1000) (by omega) (by omega), u64_id (by omega) (by omega)]
          omega
        obtain ⟨q, hq, hq1⟩ : ∃ q, rtt_Rtt_Lost.f n L s' v' true = some q ∧ n ≤ q := by
          have e1 : n ≤ mx s' n ∧ mx s' n < 4294967296 := by unfold mx; split <;> omega
          refine ⟨_, rfl, ?_⟩
          rw [u64_id (n := 9 * mx s' n) (by omega) (by omega), Int.tdiv_eq_ediv_of_nonneg (by omega), u64_id (n := 9 * mx s' n / 8) (by omega) (by omega)]
          have : 9 * mx s' n / 8 ≤ mx (9 * mx s' n / 8) 1000 := by
            generalize 9 * mx s' n / 8 = z
            unfold mx; split <;> omega
          omega
        have HP := Lib.hid hp
        have HQ := Lib.hid hq
        have b1 : decide (s' + 8 < L) = false := decide_eq_false (by omega)
        have b2 : decide (U < s') = false := decide_eq_false (by omega)
        have b3 : decide (p < s' + 1000 + u) = false := decide_eq_false (by omega)
        have b4 : decide (q < n) = false := decide_eq_false (by omega)
        clear hp hq hp1 hq1
        have HA5 := Lib.hid hat5
        obtain ⟨c0, c1, c2, c3, c4, f0, f1, f2, f3, f4⟩ := hat5
        clear HT HM hL hU
        have x1 : IntKind.u64.wrap (s' + 8) = s' + 8 := u64_id (by omega) (by omega)
        have x2 : IntKind.u64.wrap (s' + 1000) = s' + 1000 := u64_id (by omega) (by omega)
        have x3 : IntKind.u64.wrap (s' + 1000 + u) = s' + 1000 + u := u64_id (by omega) (by omega)
        have x4 : IntKind.u64.wrap u = u := u64_id (by omega) (by omega)
        have x5 : IntKind.u64.wrap n = n := u64_id (by omega) (by omega)
        go_region_held3 (fun w' => w'.cell? ⟨w2.heap.size, 0, none⟩ = some (.int .u64 n) ∧ w'.cell? ⟨w2.heap.size, 1, none⟩ = some (.int .u64 L) ∧ w'.cell? ⟨w2.heap.size, 2, none⟩ = some (.int .u64 s') ∧ w'.cell? ⟨w2.heap.size, 3, none⟩ = some (.int .u64 v') ∧ w'.cell? ⟨w2.heap.size, 4, none⟩ = some (.bool true))
          (first | go_keep | exact keep5 (by assumption) (by assumption) | exact keep5 (by assumption) ⟨c0, c1, c2, c3, c4⟩)
          (first | (go_at_call 24; refine (rtt_Rtt_Probe.calls n L s' v' true u p _ HP.out).mono ?_; rintro e wp ⟨rfl, hbp⟩) | (go_at_call 25; refine (rtt_Rtt_Lost.calls n L s' v' true q _ HQ.out).mono ?_; rintro e wq ⟨rfl, hbq⟩))
        have hbz : Below w5.heap.size w5 wq := below_step (below_step (below_drew (Below.refl _ _)) hbp) hbq
        have hatq := HA5.out.below hbz
        have hbq5 := below_step hb5 hbz
        have HAQ := Lib.hid hatq
        clear hatq c0 c1 c2 c3 c4 f0 f1 f2 f3 f4
        go_wp2_with fail
        go_roundw
        case rel => exact ⟨j + 1, L, U, n, L, s', v', true, by omega, by go_num, rfl, rfl, HAQ.out, HO.out, hbq5⟩
        case measure => simp [intOf]; omega
    · go_wp2_with fail
      go_ret
      exact ⟨rfl, hb⟩

theorem walk {W : World} (A : Option Addr) (len cap : Nat) (xs : List Int) (e : xs.length = len) (_hc : len ≤ cap) (hC : Kd.C (Kd.int .u32) W A len xs) (hw : xs.length * 4 ≤ reachBytes ∧ ∀ y ∈ xs, (Lit.int .u32 y).wf = true)
    (u : Int) (wu : (Lit.int .u32 u).wf = true) :
    Calls Try.prog 6 #[.slice A len cap, .int .u32 u] W fun e w' => e = .returned (.bool true) ∧ Below W.heap.size W w' := by
  subst e
  exact bounds_calls hC (fun x hx => bounds_u32 (hw.2 x hx)) (by have := hw.1; unfold reachBytes at this; omega) u (bounds_u32 wu)
end Go.Proofs.Ytloiihbhpmmaiaa.Bounds
