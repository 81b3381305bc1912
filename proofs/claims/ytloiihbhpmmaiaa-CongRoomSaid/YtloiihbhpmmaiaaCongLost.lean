/- What (cong.Window).Lost answers: its contract. No condition. -/
import Derived.Test.YtloiihbhpmmaiaaPCongGrowsx1
import Derived.OpenShut
import Derived.Lib.Hide
import Derived.Deep.DeepCutAuto
import Derived.Deep.CutBlock
namespace Go.Proofs.Ytloiihbhpmmaiaa.CongLost
open Go.RowKit Go.Proofs.Ytloiihbhpmmaiaa.PCongGrows Go.Proofs.YtloiihbhpmmaiaaW.PrintWords Go.Proofs.YtloiihbhpmmaiaaW.PrintLast Go.Proofs.YtloiihbhpmmaiaaW.PrintMore
attribute [local go_sem] max2_int min2_int

theorem u64_id {n : Int} (h0 : 0 ≤ n) (h1 : n < 18446744073709551616) : IntKind.u64.wrap n = n := by rw [IntKind.wrap_u64]; omega

theorem gone_f (S F L si n : Int) (rd : Bool) (h0 : 0 ≤ F) (h1 : F < 18446744073709551616) (hn : 0 ≤ n) : cong_Window_gone.f S F L si rd n = some (S, F - mn F n, L, si, rd) := by
  unfold cong_Window_gone.f
  have : 0 ≤ mn F n ∧ mn F n ≤ F := by unfold mn; split <;> omega
  rw [u64_id (by omega) (by omega)]

/-- The two blocks that the call lays. -/
def A1 (S F L si : Int) (rd : Bool) : Obj := .cells #[.int .u64 S, .int .u64 F, .int .u64 L, .int .u64 si, .bool rd] 39
def A2 : Obj := .cells #[.int .u64 0, .int .u64 0, .int .u64 0, .int .u64 0, .bool false] 39
theorem blocks (S F L si : Int) (rd : Bool) (w w1 : World) (hb : Below ((w.alloc (A1 S F L si rd)).alloc A2).heap.size ((w.alloc (A1 S F L si rd)).alloc A2) w1) :
    w1.heap[w.heap.size]? = some (A1 S F L si rd) ∧ w1.heap[w.heap.size + 1]? = some A2 ∧ Below w.heap.size w w1 := by
  refine ⟨blk_below (blk_alloc (blk_new w (A1 S F L si rd)) A2) hb, ?_, below_step (below_alloc (below_alloc (Below.refl w.heap.size w) (A1 S F L si rd)) A2) hb⟩
  have := blk_below (blk_new (w.alloc (A1 S F L si rd)) A2) hb
  rwa [World.size_alloc] at this

/-- The first block written whole: what it then is; the second one is as it was. -/
theorem put5 {w1 : World} {g h : Nat} {x0 x1 x2 x3 x4 y0 y1 y2 y3 y4 : Value} {o : Obj} (B1 : w1.heap[g]? = some (.cells #[x0, x1, x2, x3, x4] 39 (0, 0))) (B2 : w1.heap[h]? = some o) (hne : h ≠ g) :
    (((((w1.setCell ⟨g, 0, none⟩ y0).setCell ⟨g, 1, none⟩ y1).setCell ⟨g, 2, none⟩ y2).setCell ⟨g, 3, none⟩ y3).setCell ⟨g, 4, none⟩ y4).heap[g]? = some (.cells #[y0, y1, y2, y3, y4] 39 (0, 0)) ∧
    (((((w1.setCell ⟨g, 0, none⟩ y0).setCell ⟨g, 1, none⟩ y1).setCell ⟨g, 2, none⟩ y2).setCell ⟨g, 3, none⟩ y3).setCell ⟨g, 4, none⟩ y4).heap[h]? = some o := by
  refine ⟨blk_put (blk_put (blk_put (blk_put (blk_put B1 0 y0 rfl) 1 y1 rfl) 2 y2 rfl) 3 y3 rfl) 4 y4 rfl, ?_⟩
  have far : ∀ (w : World) (i : Nat) (u : Value), w.heap[h]? = some o → (w.setCell ⟨g, i, none⟩ u).heap[h]? = some o := fun w i u e => (Below.heap_setCell w ⟨g, i, none⟩ u h hne).trans e
  exact far _ _ _ (far _ _ _ (far _ _ _ (far _ _ _ (far _ _ _ B2))))

set_option maxRecDepth 100000 in
set_option maxHeartbeats 1000000 in
theorem lost_stays (S F L si n t now : Int) (rd : Bool) (w : World) (h0 : 0 ≤ F) (h1 : F < 18446744073709551616) (hn : 0 ≤ n) (hr : rd = true) (ht : t ≤ si) :
    Calls Try.prog 40 #[.agg #[.int .u64 S, .int .u64 F, .int .u64 L, .int .u64 si, .bool rd], .int .u64 n, .int .u64 t, .int .u64 now] w fun e w' =>
      e = .returned (.agg #[.int .u64 S, .int .u64 (F - mn F n), .int .u64 L, .int .u64 si, .bool rd]) ∧ Below w.heap.size w w' := by
  have hg := gone_f S F L si n rd h0 h1 hn
  generalize F - mn F n = F' at *
  subst hr
  have HG := Lib.hid hg
  clear hg h0 h1
  go_enter Try.func40, Try.ntmps40
  go_wp2_with fail
  refine (cong_Window_gone.calls _ _ _ _ _ n _ _ _ _ _ _ HG.out).mono ?_
  rintro e w1 ⟨rfl, hb⟩
  obtain ⟨B1, B2, hb1⟩ := blocks _ _ _ _ _ _ _ hb
  have c1 := blk_cell B1
  have c2 := blk_cell B2
  have f1 := blk_frozen B1
  have f2 := blk_frozen B2
  have HB1 := Lib.hid hb1
  clear hb hb1 B1 B2
  go_wp2_with fail
  refine bodyPost_ret (v := .agg #[.int .u64 S, .int .u64 F', .int .u64 L, .int .u64 si, .bool true]) (by simp [results, Try.results40, go_sem, c2]) rfl ⟨rfl, ?_⟩
  repeat (first | (with_reducible exact HB1.out) | refine below_set ?_ (by omega))

set_option maxRecDepth 100000 in
set_option maxHeartbeats 2000000 in
theorem lost_turns (S F L si n t now M : Int) (rd : Bool) (w : World) (hS : 0 ≤ S ∧ S < 18446744073709551616) (h0 : 0 ≤ F) (h1 : F < 18446744073709551616) (hn : 0 ≤ n) (hr : rd = true → ¬ t ≤ si) (hM : (if S / 2 < 2400 then 2400 else S / 2) = M) :
    Calls Try.prog 40 #[.agg #[.int .u64 S, .int .u64 F, .int .u64 L, .int .u64 si, .bool rd], .int .u64 n, .int .u64 t, .int .u64 now] w fun e w' =>
      e = .returned (.agg #[.int .u64 M, .int .u64 (F - mn F n), .int .u64 M, .int .u64 now, .bool true]) ∧ Below w.heap.size w w' := by
  have hg := gone_f S F L si n rd h0 h1 hn
  generalize F - mn F n = F' at *
  have HG := Lib.hid hg
  have hq : IntKind.u64.wrap (S.tdiv 2) = S / 2 := by
    rw [Int.tdiv_eq_ediv_of_nonneg hS.1]
    exact u64_id (by omega) (by omega)
  clear hg h0 h1
  cases rd with
  | false =>
    clear hr
    go_enter Try.func40, Try.ntmps40
    go_wp2_with fail
    refine (cong_Window_gone.calls _ _ _ _ _ n _ _ _ _ _ _ HG.out).mono ?_
    rintro e w1 ⟨rfl, hb⟩
    obtain ⟨B1, B2, hb1⟩ := blocks _ _ _ _ _ _ _ hb
    have c1 := blk_cell B1
    have c2 := blk_cell B2
    have f1 := blk_frozen B1
    have f2 := blk_frozen B2
    have HB1 := Lib.hid hb1
    have P := put5 (y0 := .int .u64 S) (y1 := .int .u64 F') (y2 := .int .u64 L) (y3 := .int .u64 si) (y4 := .bool false) B1 B2 (by omega)
    have HP := Lib.hid P
    clear hb hb1 B1 B2 P
    go_upto_region 2 with (fail)
    have hb2 : Below w.heap.size w (((((w1.setCell ⟨w.heap.size, 0, none⟩ (.int .u64 S)).setCell ⟨w.heap.size, 1, none⟩ (.int .u64 F')).setCell ⟨w.heap.size, 2, none⟩ (.int .u64 L)).setCell ⟨w.heap.size, 3, none⟩ (.int .u64 si)).setCell ⟨w.heap.size, 4, none⟩ (.bool false)) :=
      below_set (below_set (below_set (below_set (below_set HB1.out (Nat.le_refl _)) (Nat.le_refl _)) (Nat.le_refl _)) (Nat.le_refl _)) (Nat.le_refl _)
    obtain ⟨B1, B2⟩ := HP.out
    clear HP HB1 c1 c2 f1 f2
    generalize (((((w1.setCell ⟨w.heap.size, 0, none⟩ (.int .u64 S)).setCell ⟨w.heap.size, 1, none⟩ (.int .u64 F')).setCell ⟨w.heap.size, 2, none⟩ (.int .u64 L)).setCell ⟨w.heap.size, 3, none⟩ (.int .u64 si)).setCell ⟨w.heap.size, 4, none⟩ (.bool false)) = w2 at *
    have c1 := blk_cell B1
    have c2 := blk_cell B2
    have f1 := blk_frozen B1
    have f2 := blk_frozen B2
    have HB2 := Lib.hid hb2
    clear hb2 B1 B2
    go_wp2_with fail
    refine bodyPost_ret (v := .agg #[.int .u64 M, .int .u64 F', .int .u64 M, .int .u64 now, .bool true]) (by simp [results, Try.results40, go_sem, c2]) rfl ⟨rfl, ?_⟩
    repeat (first | (with_reducible exact HB2.out) | refine below_set ?_ (by omega))
  | true =>
    have hT := hr rfl
    clear hr
    go_enter Try.func40, Try.ntmps40
    go_wp2_with fail
    refine (cong_Window_gone.calls _ _ _ _ _ n _ _ _ _ _ _ HG.out).mono ?_
    rintro e w1 ⟨rfl, hb⟩
    obtain ⟨B1, B2, hb1⟩ := blocks _ _ _ _ _ _ _ hb
    have c1 := blk_cell B1
    have c2 := blk_cell B2
    have f1 := blk_frozen B1
    have f2 := blk_frozen B2
    have HB1 := Lib.hid hb1
    have P := put5 (y0 := .int .u64 S) (y1 := .int .u64 F') (y2 := .int .u64 L) (y3 := .int .u64 si) (y4 := .bool true) B1 B2 (by omega)
    have HP := Lib.hid P
    clear hb hb1 B1 B2 P
    go_upto_region 2 with (fail)
    have hb2 : Below w.heap.size w (((((w1.setCell ⟨w.heap.size, 0, none⟩ (.int .u64 S)).setCell ⟨w.heap.size, 1, none⟩ (.int .u64 F')).setCell ⟨w.heap.size, 2, none⟩ (.int .u64 L)).setCell ⟨w.heap.size, 3, none⟩ (.int .u64 si)).setCell ⟨w.heap.size, 4, none⟩ (.bool true)) :=
      below_set (below_set (below_set (below_set (below_set HB1.out (Nat.le_refl _)) (Nat.le_refl _)) (Nat.le_refl _)) (Nat.le_refl _)) (Nat.le_refl _)
    obtain ⟨B1, B2⟩ := HP.out
    clear HP HB1 c1 c2 f1 f2
    generalize (((((w1.setCell ⟨w.heap.size, 0, none⟩ (.int .u64 S)).setCell ⟨w.heap.size, 1, none⟩ (.int .u64 F')).setCell ⟨w.heap.size, 2, none⟩ (.int .u64 L)).setCell ⟨w.heap.size, 3, none⟩ (.int .u64 si)).setCell ⟨w.heap.size, 4, none⟩ (.bool true)) = w2 at *
    have c1 := blk_cell B1
    have c2 := blk_cell B2
    have f1 := blk_frozen B1
    have f2 := blk_frozen B2
    have HB2 := Lib.hid hb2
    clear hb2 B1 B2
    go_wp2_with fail
    refine bodyPost_ret (v := .agg #[.int .u64 M, .int .u64 F', .int .u64 M, .int .u64 now, .bool true]) (by simp [results, Try.results40, go_sem, c2]) rfl ⟨rfl, ?_⟩
    repeat (first | (with_reducible exact HB2.out) | refine below_set ?_ (by omega))
end Go.Proofs.Ytloiihbhpmmaiaa.CongLost
