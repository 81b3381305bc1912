-- PRINTED BY print.sh 35421559b90ae4d0a3588c463048766b98c2df88dd9212a6774a882060cdf62d: not written by this session
import Derived.Test.YtclmnpdabnogkaaPLossTimesx0
namespace Go.Proofs.Ytclmnpdabnogkaa.PLossTimes
open Go.RowKit Go.Proofs.YtclmnpdabnogkaaW.PrintWords Go.Proofs.YtclmnpdabnogkaaW.PrintLast Go.Proofs.YtclmnpdabnogkaaW.PrintMore
attribute [local go_sem] max2_int min2_int max_two min_two max_three min_three max_four min_four   -- for this text's walks alone
set_option linter.unusedVariables false
set_option linter.unusedSimpArgs false

/-- A state of type 81 at block g of W; what its slices lead to came in by w0. -/
def IsS81 (w0 W : World) (g : Nat) (f0 : List (S56)) (f1 : Int) (f2 : Int) (f3 : Bool) (f4 : Int) (f5 : Bool) : Prop := ∃ A0 c0, W.heap[g]? = some (.cells #[.slice A0 f0.length c0, .int .i64 f1, .int .u64 f2, .bool f3, .int .u64 f4, .bool f5] 81 (0, 0)) ∧ w0.heap.size ≤ g ∧ Kd.C k56 w0 A0 f0.length f0
theorem IsS81.grown {w0 W : World} {g : Nat} {f0 : List (S56)} {f1 : Int} {f2 : Int} {f3 : Bool} {f4 : Int} {f5 : Bool} {W1 : World} {row : Option Nat} (h : IsS81 w0 W g f0 f1 f2 f3 f4 f5) (hw : W.grownBy W1 row) (hne : some g ≠ row) : IsS81 w0 W1 g f0 f1 f2 f3 f4 f5 := by
  obtain ⟨A0, c0, hb, hg, hr0⟩ := h
  exact ⟨A0, c0, blk_grown hb hw hne, hg, hr0⟩
theorem IsS81.own_neN {w0 W : World} {g : Nat} {f0 : List (S56)} {f1 : Int} {f2 : Int} {f3 : Bool} {f4 : Int} {f5 : Bool} {α : Type} {d : Kd α} {e : Nat} {base : Nat} {ok : Nat → Prop} {v : Value} {xs : List α} (h : IsS81 w0 W g f0 f1 f2 f3 f4 f5) (ho : Kd.N d e W base ok v xs) (ht : e ≠ 81) : some g ≠ v.ownBlock := by
  obtain ⟨A0, c0, hb, hg, hr0⟩ := h
  exact Kd.N_ne ho hb ht
theorem IsS81.fresh {w0 W : World} {g : Nat} {f0 : List (S56)} {f1 : Int} {f2 : Int} {f3 : Bool} {f4 : Int} {f5 : Bool} (h : IsS81 w0 W g f0 f1 f2 f3 f4 f5) : ∀ k, W.heap.size ≤ k → k ≠ g := by
  obtain ⟨A0, c0, hb, hg, hr0⟩ := h
  exact Kd.freshB hb
theorem IsS81.kept {w0 W : World} {g : Nat} {f0 : List (S56)} {f1 : Int} {f2 : Int} {f3 : Bool} {f4 : Int} {f5 : Bool} {W1 : World} {S : Nat → Prop} (h : IsS81 w0 W g f0 f1 f2 f3 f4 f5) (hk : Kept W W1 S) (hne : ¬ S g) : IsS81 w0 W1 g f0 f1 f2 f3 f4 f5 := by
  obtain ⟨A0, c0, hb, hg, hr0⟩ := h
  exact ⟨A0, c0, blk_kept hb hk hne, hg, hr0⟩
theorem IsS81.below {w0 W : World} {g : Nat} {f0 : List (S56)} {f1 : Int} {f2 : Int} {f3 : Bool} {f4 : Int} {f5 : Bool} {W1 : World} (h : IsS81 w0 W g f0 f1 f2 f3 f4 f5) (hw : Below W.heap.size W W1) : IsS81 w0 W1 g f0 f1 f2 f3 f4 f5 := h.grown (grown_of_below hw none) (by simp)
theorem IsS81.alloc {w0 W : World} {g : Nat} {f0 : List (S56)} {f1 : Int} {f2 : Int} {f3 : Bool} {f4 : Int} {f5 : Bool} (h : IsS81 w0 W g f0 f1 f2 f3 f4 f5) (o : Obj) : IsS81 w0 (W.alloc o) g f0 f1 f2 f3 f4 f5 := h.below (below_alloc (Below.refl _ _) o)
theorem IsS81.drewN {w0 W : World} {g : Nat} {f0 : List (S56)} {f1 : Int} {f2 : Int} {f3 : Bool} {f4 : Int} {f5 : Bool} (h : IsS81 w0 W g f0 f1 f2 f3 f4 f5) (m : Nat) : IsS81 w0 (W.drewN m) g f0 f1 f2 f3 f4 f5 := h
theorem IsS81.drew {w0 W : World} {g : Nat} {f0 : List (S56)} {f1 : Int} {f2 : Int} {f3 : Bool} {f4 : Int} {f5 : Bool} (h : IsS81 w0 W g f0 f1 f2 f3 f4 f5) : IsS81 w0 W.drew g f0 f1 f2 f3 f4 f5 := h
theorem IsS81.at_ {w0 W : World} {g : Nat} {f0 : List (S56)} {f1 : Int} {f2 : Int} {f3 : Bool} {f4 : Int} {f5 : Bool} {w' : World} {m : Nat} (hq : W.drewN m = w') (h : IsS81 w0 W g f0 f1 f2 f3 f4 f5) : IsS81 w0 w' g f0 f1 f2 f3 f4 f5 := by subst hq; exact IsS81.drewN h m
theorem IsS81.apart {w0 W : World} {g : Nat} {f0 : List (S56)} {f1 : Int} {f2 : Int} {f3 : Bool} {f4 : Int} {f5 : Bool} {α : Type} {d : Kd α} {e : Nat} {base : Nat} {ok : Nat → Prop} {v : Value} {xs : List α} (h : IsS81 w0 W g f0 f1 f2 f3 f4 f5) (ho : d.R e W base ok v xs) (ht : ∀ q, q ∈ e :: d.E → q ≠ 81) : d.R e W base (fun k => ok k ∧ k ≠ g) v xs := by
  obtain ⟨A0, c0, hb, hg, hr0⟩ := h
  exact Kd.R_types ho hb ht
theorem IsS81.own_ne {w0 W : World} {g : Nat} {f0 : List (S56)} {f1 : Int} {f2 : Int} {f3 : Bool} {f4 : Int} {f5 : Bool} {α : Type} {d : Kd α} {e : Nat} {base : Nat} {ok : Nat → Prop} {v : Value} {xs : List α} (h : IsS81 w0 W g f0 f1 f2 f3 f4 f5) (ho : d.R e W base ok v xs) (ht : e ≠ 81) : some g ≠ v.ownBlock := by
  obtain ⟨A0, c0, hb, hg, hr0⟩ := h
  exact Kd.R_ne ho hb ht
theorem IsS81.apartQ {w0 W : World} {g : Nat} {f0 : List (S56)} {f1 : Int} {f2 : Int} {f3 : Bool} {f4 : Int} {f5 : Bool} {α : Type} {d : Kd α} {e : Nat} {base : Nat} {ok : Nat → Prop} {v : Value} {xs : List α} (h : IsS81 w0 W g f0 f1 f2 f3 f4 f5) (ho : d.Q e W base ok v xs) (ht : ∀ q, q ∈ e :: d.E → q ≠ 81) : d.Q e W base (fun k => ok k ∧ k ≠ g) v xs := by
  obtain ⟨A0, c0, hb, hg, hr0⟩ := h
  exact Kd.Q_types ho hb ht
theorem IsS81.own_neQ {w0 W : World} {g : Nat} {f0 : List (S56)} {f1 : Int} {f2 : Int} {f3 : Bool} {f4 : Int} {f5 : Bool} {α : Type} {d : Kd α} {e : Nat} {base : Nat} {ok : Nat → Prop} {v : Value} {xs : List α} (h : IsS81 w0 W g f0 f1 f2 f3 f4 f5) (ho : d.Q e W base ok v xs) (ht : e ≠ 81) : some g ≠ v.ownBlock := by
  obtain ⟨A0, c0, hb, hg, hr0⟩ := h
  exact Kd.Q_ne ho hb ht
theorem IsS81.apartS {w0 W : World} {g : Nat} {f0 : List (S56)} {f1 : Int} {f2 : Int} {f3 : Bool} {f4 : Int} {f5 : Bool} {α : Type} {d : Kd α} {e : Nat} {base : Nat} {ok : Nat → Prop} {v : Value} {xs : List α} (h : IsS81 w0 W g f0 f1 f2 f3 f4 f5) (ho : d.S e W base ok v xs) (ht : ∀ q, q ∈ e :: d.E → q ≠ 81) : d.S e W base (fun k => ok k ∧ k ≠ g) v xs := by
  obtain ⟨A0, c0, hb, hg, hr0⟩ := h
  exact Kd.S_types ho hb ht
theorem IsS81.own_neS {w0 W : World} {g : Nat} {f0 : List (S56)} {f1 : Int} {f2 : Int} {f3 : Bool} {f4 : Int} {f5 : Bool} {α : Type} {d : Kd α} {e : Nat} {base : Nat} {ok : Nat → Prop} {v : Value} {xs : List α} (h : IsS81 w0 W g f0 f1 f2 f3 f4 f5) (ho : d.S e W base ok v xs) (ht : e ≠ 81) : some g ≠ v.ownBlock := by
  obtain ⟨A0, c0, hb, hg, hr0⟩ := h
  exact Kd.S_ne ho hb ht
theorem IsS81.lt {w0 W : World} {g : Nat} {f0 : List (S56)} {f1 : Int} {f2 : Int} {f3 : Bool} {f4 : Int} {f5 : Bool} (h : IsS81 w0 W g f0 f1 f2 f3 f4 f5) : g < W.heap.size := by
  obtain ⟨A0, c0, hb, hg, hr0⟩ := h
  exact blk_lt hb
theorem IsS81.ge {w0 W : World} {g : Nat} {f0 : List (S56)} {f1 : Int} {f2 : Int} {f3 : Bool} {f4 : Int} {f5 : Bool} (h : IsS81 w0 W g f0 f1 f2 f3 f4 f5) : w0.heap.size ≤ g := by
  obtain ⟨A0, c0, hb, hg, hr0⟩ := h
  exact hg
theorem IsS81.ne_blk {w0 W : World} {g : Nat} {f0 : List (S56)} {f1 : Int} {f2 : Int} {f3 : Bool} {f4 : Int} {f5 : Bool} {a : Nat} {cs : Array Value} {t : TypeId} {fr : Nat × Nat} (h : IsS81 w0 W g f0 f1 f2 f3 f4 f5) (hb2 : W.heap[a]? = some (.cells cs t fr)) (ht : t ≠ 81) : g ≠ a := by
  obtain ⟨A0, c0, hb, hg, hr0⟩ := h
  rintro rfl
  rw [hb] at hb2
  injection hb2 with hb2
  injection hb2 with _ ht2
  exact ht ht2.symm
theorem IsS81.far {w0 W : World} {g : Nat} {f0 : List (S56)} {f1 : Int} {f2 : Int} {f3 : Bool} {f4 : Int} {f5 : Bool} {p : Addr} (h : IsS81 w0 W g f0 f1 f2 f3 f4 f5) (hne : g ≠ p.block) (u : Value) : IsS81 w0 (W.setCell p u) g f0 f1 f2 f3 f4 f5 := by
  obtain ⟨A0, c0, hb, hg, hr0⟩ := h
  exact ⟨A0, c0, blk_far hb hne u, hg, hr0⟩
theorem cellS81_0 {W : World} {g : Nat} {A0 : Option Addr} {c0 : Nat} {f0 : List (S56)} {f1 : Int} {f2 : Int} {f3 : Bool} {f4 : Int} {f5 : Bool} (h : W.heap[g]? = some (.cells #[.slice A0 f0.length c0, .int .i64 f1, .int .u64 f2, .bool f3, .int .u64 f4, .bool f5] 81 (0, 0))) : W.cell? ⟨g, 0, none⟩ = some (.slice A0 f0.length c0) := (blk_cell h 0).trans rfl
theorem cellS81_1 {W : World} {g : Nat} {A0 : Option Addr} {c0 : Nat} {f0 : List (S56)} {f1 : Int} {f2 : Int} {f3 : Bool} {f4 : Int} {f5 : Bool} (h : W.heap[g]? = some (.cells #[.slice A0 f0.length c0, .int .i64 f1, .int .u64 f2, .bool f3, .int .u64 f4, .bool f5] 81 (0, 0))) : W.cell? ⟨g, 1, none⟩ = some (.int .i64 f1) := (blk_cell h 1).trans rfl
theorem IsS81.set_1 {w0 W : World} {g : Nat} {f0 : List (S56)} {f1 : Int} {f2 : Int} {f3 : Bool} {f4 : Int} {f5 : Bool} (h : IsS81 w0 W g f0 f1 f2 f3 f4 f5) (x : Int) : IsS81 w0 (W.setCell ⟨g, 1, none⟩ (.int .i64 x)) g f0 x f2 f3 f4 f5 := by
  obtain ⟨A0, c0, hb, hg, hr0⟩ := h
  exact ⟨A0, c0, by simpa using blk_set hb 1 (.int .i64 x), hg, hr0⟩
theorem cellS81_2 {W : World} {g : Nat} {A0 : Option Addr} {c0 : Nat} {f0 : List (S56)} {f1 : Int} {f2 : Int} {f3 : Bool} {f4 : Int} {f5 : Bool} (h : W.heap[g]? = some (.cells #[.slice A0 f0.length c0, .int .i64 f1, .int .u64 f2, .bool f3, .int .u64 f4, .bool f5] 81 (0, 0))) : W.cell? ⟨g, 2, none⟩ = some (.int .u64 f2) := (blk_cell h 2).trans rfl
theorem IsS81.set_2 {w0 W : World} {g : Nat} {f0 : List (S56)} {f1 : Int} {f2 : Int} {f3 : Bool} {f4 : Int} {f5 : Bool} (h : IsS81 w0 W g f0 f1 f2 f3 f4 f5) (x : Int) : IsS81 w0 (W.setCell ⟨g, 2, none⟩ (.int .u64 x)) g f0 f1 x f3 f4 f5 := by
  obtain ⟨A0, c0, hb, hg, hr0⟩ := h
  exact ⟨A0, c0, by simpa using blk_set hb 2 (.int .u64 x), hg, hr0⟩
theorem cellS81_3 {W : World} {g : Nat} {A0 : Option Addr} {c0 : Nat} {f0 : List (S56)} {f1 : Int} {f2 : Int} {f3 : Bool} {f4 : Int} {f5 : Bool} (h : W.heap[g]? = some (.cells #[.slice A0 f0.length c0, .int .i64 f1, .int .u64 f2, .bool f3, .int .u64 f4, .bool f5] 81 (0, 0))) : W.cell? ⟨g, 3, none⟩ = some (.bool f3) := (blk_cell h 3).trans rfl
theorem IsS81.set_3 {w0 W : World} {g : Nat} {f0 : List (S56)} {f1 : Int} {f2 : Int} {f3 : Bool} {f4 : Int} {f5 : Bool} (h : IsS81 w0 W g f0 f1 f2 f3 f4 f5) (x : Bool) : IsS81 w0 (W.setCell ⟨g, 3, none⟩ (.bool x)) g f0 f1 f2 x f4 f5 := by
  obtain ⟨A0, c0, hb, hg, hr0⟩ := h
  exact ⟨A0, c0, by simpa using blk_set hb 3 (.bool x), hg, hr0⟩
theorem cellS81_4 {W : World} {g : Nat} {A0 : Option Addr} {c0 : Nat} {f0 : List (S56)} {f1 : Int} {f2 : Int} {f3 : Bool} {f4 : Int} {f5 : Bool} (h : W.heap[g]? = some (.cells #[.slice A0 f0.length c0, .int .i64 f1, .int .u64 f2, .bool f3, .int .u64 f4, .bool f5] 81 (0, 0))) : W.cell? ⟨g, 4, none⟩ = some (.int .u64 f4) := (blk_cell h 4).trans rfl
theorem IsS81.set_4 {w0 W : World} {g : Nat} {f0 : List (S56)} {f1 : Int} {f2 : Int} {f3 : Bool} {f4 : Int} {f5 : Bool} (h : IsS81 w0 W g f0 f1 f2 f3 f4 f5) (x : Int) : IsS81 w0 (W.setCell ⟨g, 4, none⟩ (.int .u64 x)) g f0 f1 f2 f3 x f5 := by
  obtain ⟨A0, c0, hb, hg, hr0⟩ := h
  exact ⟨A0, c0, by simpa using blk_set hb 4 (.int .u64 x), hg, hr0⟩
theorem cellS81_5 {W : World} {g : Nat} {A0 : Option Addr} {c0 : Nat} {f0 : List (S56)} {f1 : Int} {f2 : Int} {f3 : Bool} {f4 : Int} {f5 : Bool} (h : W.heap[g]? = some (.cells #[.slice A0 f0.length c0, .int .i64 f1, .int .u64 f2, .bool f3, .int .u64 f4, .bool f5] 81 (0, 0))) : W.cell? ⟨g, 5, none⟩ = some (.bool f5) := (blk_cell h 5).trans rfl
theorem IsS81.set_5 {w0 W : World} {g : Nat} {f0 : List (S56)} {f1 : Int} {f2 : Int} {f3 : Bool} {f4 : Int} {f5 : Bool} (h : IsS81 w0 W g f0 f1 f2 f3 f4 f5) (x : Bool) : IsS81 w0 (W.setCell ⟨g, 5, none⟩ (.bool x)) g f0 f1 f2 f3 f4 x := by
  obtain ⟨A0, c0, hb, hg, hr0⟩ := h
  exact ⟨A0, c0, by simpa using blk_set hb 5 (.bool x), hg, hr0⟩
theorem IsS81.new (w0 W : World) (A0 : Option Addr) (c0 : Nat) (f0 : List (S56)) (f1 : Int) (f2 : Int) (f3 : Bool) (f4 : Int) (f5 : Bool) (hB : Below w0.heap.size w0 W) (hr0 : Kd.C k56 w0 A0 f0.length f0) : IsS81 w0 (W.alloc (.cells #[.slice A0 f0.length c0, .int .i64 f1, .int .u64 f2, .bool f3, .int .u64 f4, .bool f5] 81)) W.heap.size f0 f1 f2 f3 f4 f5 := ⟨A0, c0, by simpa using heap_alloc_new W _, hB.size, hr0⟩

/-! ### loss_New: function 20 -/
def loss_New.f  : Option ((List (S56)) × Int × Int × Bool × Int × Bool) := some (([] : List (S56)), (-1), 0, false, 0, false)
set_option maxHeartbeats 8000000 in
set_option maxRecDepth 100000 in
theorem loss_New.calls  (r1 : List (S56)) (r2 : Int) (r3 : Int) (r4 : Bool) (r5 : Int) (r6 : Bool) (w0 w : World) (hB : Below w0.heap.size w0 w) (h : loss_New.f  = some (r1, r2, r3, r4, r5, r6)) :
    Calls Try.prog 20 #[] w fun e w' => ∃ g_ : Nat, e = .returned (.pointer (some ⟨g_, 0, none⟩)) ∧ IsS81 w0 w' g_ r1 r2 r3 r4 r5 r6 ∧ Below w0.heap.size w0 w' ∧ Below w.heap.size w w' := by
  have hu81 := Try.underlying81
  have HBW := Aside0.mk (Below.refl w.heap.size w)
  have HW0 := Aside0.mk hB.size
  have HB := Aside0.mk hB
  clear hB
  have H : (some (([] : List (S56)), (-1), 0, false, 0, false)) = some (r1, r2, r3, r4, r5, r6) := h
  clear h
  simp only [Option.some.injEq, Prod.mk.injEq] at H
  obtain ⟨rfl, rfl, rfl, rfl, rfl, rfl⟩ := H
  go_enter Try.func20, Try.ntmps20
  go_wp2_with (first | ((with_reducible refine gate_dst (N := 2) rfl ?_); refine box_event ?hg (N := 2) ?hd (cs := #[.slice none 0 0, .int .i64 (-1), .int .u64 0, .bool false, .int .u64 0, .bool false]) (t := 81) ?hr ?_; (case hd => rfl); (case hg => rfl); (case hr => first | (go_simp; done) | (go_simp; rfl)); intro gb101 hg w1 hbox hb; have n0_ := Aside0.mk (below_step HBW.out hb); have n1_ := Aside0.mk (below_step (by repeat (first | (with_reducible first | exact HB.out | apply below_alloc | apply pw_below_drewN | apply below_drew1) | exact HB.out)) hb); have n2_ := Aside0.mk (hbox); have n3_ := Aside0.mk ((by rw [hg]; exact (below_size (by repeat (first | (with_reducible first | exact HBW.out | apply below_alloc | apply pw_below_drewN | apply below_drew1) | exact HBW.out))) : w.heap.size ≤ gb101)); have n4_ := Aside0.mk ((Nat.le_trans HW0.out (by rw [hg]; exact (below_size (by repeat (first | (with_reducible first | exact HBW.out | apply below_alloc | apply pw_below_drewN | apply below_drew1) | exact HBW.out))) : w.heap.size ≤ gb101) : w0.heap.size ≤ gb101)); clear HBW; clear HB; have HBW := n0_; have HB := n1_; have BK101 := n2_; have GW101 := n3_; have GE101 := n4_; clear n0_ n1_ n2_ n3_ n4_; clear hb hbox hg))
  go_ret
  exact ⟨_, rfl, (show IsS81 w0 _ gb101 ([] : List (S56)) (-1) 0 false 0 false from ⟨none, 0, by (with_reducible repeat (first | refine blk_drewN ?_ _ | refine blk_drew ?_ | refine blk_alloc ?_ _)); exact BK101.out, GE101.out, (Kd.C_nil _ _)⟩), by repeat (first | (with_reducible first | exact HB.out | apply below_alloc | apply pw_below_drewN | apply below_drew1 | refine below_set ?_ GE101.out) | exact HB.out), by repeat (first | (with_reducible first | exact HBW.out | apply below_alloc | apply pw_below_drewN | apply below_drew1 | refine below_set ?_ GW101.out) | exact HBW.out)⟩

-- NOT PRINTED: function 21 (loss_Ledger_Sent)

/-! ### rtt_New: function 22 -/
def rtt_New.f  : Option (Int × Int × Int × Int × Bool) := some (0, 0, 333000, 166500, false)
set_option maxHeartbeats 8000000 in
set_option maxRecDepth 100000 in
theorem rtt_New.calls  (r1 : Int) (r2 : Int) (r3 : Int) (r4 : Int) (r5 : Bool) (w : World) (h : rtt_New.f  = some (r1, r2, r3, r4, r5)) :
    Calls Try.prog 22 #[] w fun e w' => e = .returned (.agg #[.int .u64 r1, .int .u64 r2, .int .u64 r3, .int .u64 r4, .bool r5]) ∧ Below w.heap.size w w' := by
  have hu58 := Try.underlying58
  have HB := Aside0.mk (Below.refl w.heap.size w)
  have H : (some (0, 0, 333000, 166500, false)) = some (r1, r2, r3, r4, r5) := h
  clear h
  simp only [Option.some.injEq, Prod.mk.injEq] at H
  obtain ⟨rfl, rfl, rfl, rfl, rfl⟩ := H
  go_enter Try.func22, Try.ntmps22
  go_wp2_with (first | ((with_reducible refine gate_dst (N := 0) rfl ?_); refine box_event ?hg (N := 0) ?hd (cs := #[.int .u64 0, .int .u64 0, .int .u64 0, .int .u64 0, .bool false]) (t := 58) ?hr ?_; (case hd => rfl); (case hg => rfl); (case hr => first | (go_simp; done) | (go_simp; rfl)); intro gb103 hg w1 hbox hb; have n0_ := Aside0.mk (below_step (by repeat (first | (with_reducible first | exact HB.out | apply below_alloc | apply pw_below_drewN | apply below_drew1) | exact HB.out)) hb); have n1_ := Aside0.mk (hbox); have n2_ := Aside0.mk ((by rw [hg]; exact (below_size (by repeat (first | (with_reducible first | exact HB.out | apply below_alloc | apply pw_below_drewN | apply below_drew1) | exact HB.out))) : w.heap.size ≤ gb103)); have n3_ := Aside0.mk ((by rw [hg]; exact (below_size (by repeat (first | (with_reducible first | exact HB.out | apply below_alloc | apply pw_below_drewN | apply below_drew1) | exact HB.out))) : w.heap.size ≤ gb103)); clear HB; have HB := n0_; have BK103 := n1_; have GW103 := n2_; have GE103 := n3_; clear n0_ n1_ n2_ n3_; clear hb hbox hg; have hcz2_0 : w1.cell? ⟨gb103, 0, none⟩ = some (.int .u64 0) := (blk_cell BK103.out 0).trans rfl; have hcz2_1 : w1.cell? ⟨gb103, 1, none⟩ = some (.int .u64 0) := (blk_cell BK103.out 1).trans rfl; have hcz2_2 : w1.cell? ⟨gb103, 2, none⟩ = some (.int .u64 0) := (blk_cell BK103.out 2).trans rfl; have hcz2_3 : w1.cell? ⟨gb103, 3, none⟩ = some (.int .u64 0) := (blk_cell BK103.out 3).trans rfl; have hcz2_4 : w1.cell? ⟨gb103, 4, none⟩ = some (.bool false) := (blk_cell BK103.out 4).trans rfl; have hfz2_0 := blk_frozen BK103.out 0; have hfz2_1 := blk_frozen BK103.out 1; have hfz2_2 := blk_frozen BK103.out 2; have hfz2_3 := blk_frozen BK103.out 3; have hfz2_4 := blk_frozen BK103.out 4))
  refine bodyPost_ret (results_cell_row rfl _ _ gb103 58 #[.int .u64 0, .int .u64 0, .int .u64 333000, .int .u64 166500, .bool false] (0, 0) _ rfl (by (with_reducible repeat (first | refine blk_drewN ?_ _ | refine blk_drew ?_ | refine blk_alloc ?_ _)); refine blk_put (cs := #[.int .u64 0, .int .u64 0, .int .u64 333000, .int .u64 166500, .bool false]) ?_ 4 _ rfl; (with_reducible repeat (first | refine blk_drewN ?_ _ | refine blk_drew ?_ | refine blk_alloc ?_ _)); refine blk_put (cs := #[.int .u64 0, .int .u64 0, .int .u64 333000, .int .u64 0, .bool false]) ?_ 3 _ rfl; (with_reducible repeat (first | refine blk_drewN ?_ _ | refine blk_drew ?_ | refine blk_alloc ?_ _)); refine blk_put (cs := #[.int .u64 0, .int .u64 0, .int .u64 0, .int .u64 0, .bool false]) ?_ 2 _ rfl; (with_reducible repeat (first | refine blk_drewN ?_ _ | refine blk_drew ?_ | refine blk_alloc ?_ _)); refine blk_put (cs := #[.int .u64 0, .int .u64 0, .int .u64 0, .int .u64 0, .bool false]) ?_ 1 _ rfl; (with_reducible repeat (first | refine blk_drewN ?_ _ | refine blk_drew ?_ | refine blk_alloc ?_ _)); refine blk_put (cs := #[.int .u64 0, .int .u64 0, .int .u64 0, .int .u64 0, .bool false]) ?_ 0 _ rfl; (with_reducible repeat (first | refine blk_drewN ?_ _ | refine blk_drew ?_ | refine blk_alloc ?_ _)); exact BK103.out) Try.underlying58 rfl (by kernel_rfl)) rfl ?_
  exact ⟨by first | rfl | (simp [errW_none, errW_some] <;> rfl) | (simp [*, errW_none, errW_some] <;> rfl), by repeat (first | (with_reducible first | exact HB.out | apply below_alloc | apply pw_below_drewN | apply below_drew1 | refine below_set ?_ GE103.out) | exact HB.out)⟩

-- NOT PRINTED: function 34 (span_Range_34)

-- NOT PRINTED: function 31 (span_Range_31)

-- NOT PRINTED: function 23 (loss_Ledger_Came)

/-! ### rtt_Rtt_Lost: function 26 -/
def rtt_Rtt_Lost.f (a0_0 : Int) (a0_1 : Int) (a0_2 : Int) (a0_3 : Int) (a0_4 : Bool) : Option (Int) := some (mx (IntKind.u64.wrap (Int.tdiv (IntKind.u64.wrap (9 * (mx a0_2 a0_0))) 8)) 1000)
set_option maxHeartbeats 8000000 in
set_option maxRecDepth 100000 in
theorem rtt_Rtt_Lost.calls (a0_0 : Int) (a0_1 : Int) (a0_2 : Int) (a0_3 : Int) (a0_4 : Bool) (r : Int) (w : World) (h : rtt_Rtt_Lost.f a0_0 a0_1 a0_2 a0_3 a0_4 = some r) :
    Calls Try.prog 26 #[.agg #[.int .u64 a0_0, .int .u64 a0_1, .int .u64 a0_2, .int .u64 a0_3, .bool a0_4]] w fun e w' => e = .returned (.int .u64 r) ∧ Below w.heap.size w w' := by
  have hu58 := Try.underlying58
  have HB := Aside0.mk (Below.refl w.heap.size w)
  have H : (some (mx (IntKind.u64.wrap (Int.tdiv (IntKind.u64.wrap (9 * (mx a0_2 a0_0))) 8)) 1000)) = some r := h
  clear h
  obtain ⟨ji2, hji2⟩ : ∃ j_ : Int, (mx a0_2 a0_0) = j_ := ⟨_, rfl⟩
  replace H : (some (mx (IntKind.u64.wrap (Int.tdiv (IntKind.u64.wrap (9 * (ji2))) 8)) 1000)) = some r := by first | (rw [hji2] at H; exact H) | (simp only [hji2] at H ⊢; exact H)
  have hji2_ : (if a0_2 < a0_0 then a0_0 else a0_2) = ji2 := hji2
  obtain ⟨ji3, hji3⟩ : ∃ j_ : Int, (mx (IntKind.u64.wrap (Int.tdiv (IntKind.u64.wrap (9 * (ji2))) 8)) 1000) = j_ := ⟨_, rfl⟩
  replace H : (some ji3) = some r := by first | (rw [hji3] at H; exact H) | (simp only [hji3] at H ⊢; exact H)
  have hji3_ : (if (IntKind.u64.wrap (Int.tdiv (IntKind.u64.wrap (9 * (ji2))) 8)) < 1000 then 1000 else (IntKind.u64.wrap (Int.tdiv (IntKind.u64.wrap (9 * (ji2))) 8))) = ji3 := hji3
  obtain rfl := Option.some.inj H
  go_enter Try.func26, Try.ntmps26
  go_wp2_with (first | ((with_reducible refine gate_dst (N := 1) rfl ?_); refine box_event ?hg (N := 1) ?hd (cs := #[.int .u64 a0_0, .int .u64 a0_1, .int .u64 a0_2, .int .u64 a0_3, .bool a0_4]) (t := 58) ?hr ?_; (case hd => rfl); (case hg => rfl); (case hr => first | (go_simp; done) | (go_simp; rfl)); intro gb104 hg w4 hbox hb; have n0_ := Aside0.mk (below_step (by repeat (first | (with_reducible first | exact HB.out | apply below_alloc | apply pw_below_drewN | apply below_drew1) | exact HB.out)) hb); have n1_ := Aside0.mk (hbox); have n2_ := Aside0.mk ((by rw [hg]; exact (below_size (by repeat (first | (with_reducible first | exact HB.out | apply below_alloc | apply pw_below_drewN | apply below_drew1) | exact HB.out))) : w.heap.size ≤ gb104)); have n3_ := Aside0.mk ((by rw [hg]; exact (below_size (by repeat (first | (with_reducible first | exact HB.out | apply below_alloc | apply pw_below_drewN | apply below_drew1) | exact HB.out))) : w.heap.size ≤ gb104)); clear HB; have HB := n0_; have BK104 := n1_; have GW104 := n2_; have GE104 := n3_; clear n0_ n1_ n2_ n3_; clear hb hbox hg; have hcz5_0 : w4.cell? ⟨gb104, 0, none⟩ = some (.int .u64 a0_0) := (blk_cell BK104.out 0).trans rfl; have hcz5_1 : w4.cell? ⟨gb104, 1, none⟩ = some (.int .u64 a0_1) := (blk_cell BK104.out 1).trans rfl; have hcz5_2 : w4.cell? ⟨gb104, 2, none⟩ = some (.int .u64 a0_2) := (blk_cell BK104.out 2).trans rfl; have hcz5_3 : w4.cell? ⟨gb104, 3, none⟩ = some (.int .u64 a0_3) := (blk_cell BK104.out 3).trans rfl; have hcz5_4 : w4.cell? ⟨gb104, 4, none⟩ = some (.bool a0_4) := (blk_cell BK104.out 4).trans rfl; have hfz5_0 := blk_frozen BK104.out 0; have hfz5_1 := blk_frozen BK104.out 1; have hfz5_2 := blk_frozen BK104.out 2; have hfz5_3 := blk_frozen BK104.out 3; have hfz5_4 := blk_frozen BK104.out 4))
  go_ret
  exact ⟨by first | rfl | (simp [errW_none, errW_some] <;> rfl) | (simp only [← hji2, ← hji3]; first | rfl | (simp [errW_none, errW_some] <;> rfl)) | (simp [*, errW_none, errW_some] <;> rfl), by repeat (first | (with_reducible first | exact HB.out | apply below_alloc | apply pw_below_drewN | apply below_drew1 | refine below_set ?_ GE104.out) | exact HB.out)⟩

-- NOT PRINTED: function 24 (loss_Ledger_Find)

-- NOT PRINTED: function 19 (binnaclelaw19_Awake)

/-! ### rtt_Rtt_Measure: function 27 -/
def rtt_Rtt_Measure.j0 : Nat → Int → Int → Bool → Int → Int → Int → Int → Bool → Option (Int × Int × Int × Int × Bool)
  | 0, _, _, _, _, _, _, _, _ => none
  | k + 1, x1, x2, x41, x114000, x114001, x114002, x114003, x114004 => if x41 = true then (if (IntKind.u64.wrap (x1 - x2)) > x114002 then (some (x114000, x114001, IntKind.u64.wrap (Int.tdiv (IntKind.u64.wrap ((IntKind.u64.wrap (7 * x114002)) + (IntKind.u64.wrap (x1 - x2)))) 8), IntKind.u64.wrap (Int.tdiv (IntKind.u64.wrap ((IntKind.u64.wrap (3 * x114003)) + (IntKind.u64.wrap ((IntKind.u64.wrap (x1 - x2)) - x114002)))) 4), x114004)) else (some (x114000, x114001, IntKind.u64.wrap (Int.tdiv (IntKind.u64.wrap ((IntKind.u64.wrap (7 * x114002)) + (IntKind.u64.wrap (x1 - x2)))) 8), IntKind.u64.wrap (Int.tdiv (IntKind.u64.wrap ((IntKind.u64.wrap (3 * x114003)) + (IntKind.u64.wrap (x114002 - (IntKind.u64.wrap (x1 - x2)))))) 4), x114004))) else (if x1 > x114002 then (some (x114000, x114001, IntKind.u64.wrap (Int.tdiv (IntKind.u64.wrap ((IntKind.u64.wrap (7 * x114002)) + x1)) 8), IntKind.u64.wrap (Int.tdiv (IntKind.u64.wrap ((IntKind.u64.wrap (3 * x114003)) + (IntKind.u64.wrap (x1 - x114002)))) 4), x114004)) else (some (x114000, x114001, IntKind.u64.wrap (Int.tdiv (IntKind.u64.wrap ((IntKind.u64.wrap (7 * x114002)) + x1)) 8), IntKind.u64.wrap (Int.tdiv (IntKind.u64.wrap ((IntKind.u64.wrap (3 * x114003)) + (IntKind.u64.wrap (x114002 - x1)))) 4), x114004)))
def rtt_Rtt_Measure.f (k : Nat) (a0_0 : Int) (a0_1 : Int) (a0_2 : Int) (a0_3 : Int) (a0_4 : Bool) (a1 : Int) (a2 : Int) (a3 : Int) : Option (Int × Int × Int × Int × Bool) := if a0_4 = true then (if (mn a2 a3) ≤ (mn a1 1125899906842624) then (rtt_Rtt_Measure.j0 k (mn a1 1125899906842624) (mn a2 a3) (decide ((IntKind.u64.wrap ((mn a1 1125899906842624) - (mn a2 a3))) ≥ (mn a0_1 (mn a1 1125899906842624)))) (mn a1 1125899906842624) (mn a0_1 (mn a1 1125899906842624)) a0_2 a0_3 a0_4) else (rtt_Rtt_Measure.j0 k (mn a1 1125899906842624) (mn a2 a3) false (mn a1 1125899906842624) (mn a0_1 (mn a1 1125899906842624)) a0_2 a0_3 a0_4)) else (some (mn a1 1125899906842624, mn a1 1125899906842624, mn a1 1125899906842624, IntKind.u64.wrap (Int.tdiv (mn a1 1125899906842624) 2), true))
theorem rtt_Rtt_Measure.mono_l : ∀ k, (∀ y0 y1 y2 y3 y4 y5 y6 y7, LeO (rtt_Rtt_Measure.j0 k y0 y1 y2 y3 y4 y5 y6 y7) (rtt_Rtt_Measure.j0 (k + 1) y0 y1 y2 y3 y4 y5 y6 y7))
  | 0 => fun _ _ _ _ _ _ _ _ r h => by simp [rtt_Rtt_Measure.j0] at h
  | k + 1 => by
    have ih0 := rtt_Rtt_Measure.mono_l k
    · intro y0 y1 y2 y3 y4 y5 y6 y7
      unfold rtt_Rtt_Measure.j0
      repeat' first
      | (with_reducible exact ih0 _ _ _ _ _ _ _ _)
      | (with_reducible exact LeO.refl _)
      | (with_reducible exact LeO.none _)
      | (with_reducible refine LeO.ite ?_ ?_)
      | (with_reducible refine LeO.bind ?_ (fun _ => ?_))
      | exact ih0 _ _ _ _ _ _ _ _
      | exact LeO.none _
      | refine LeO.ite ?_ ?_
      | refine LeO.bind ?_ (fun _ => ?_)
theorem rtt_Rtt_Measure.mono : ∀ a0 a1 a2 a3 a4 a5 a6 a7 k, LeO (rtt_Rtt_Measure.f k a0 a1 a2 a3 a4 a5 a6 a7) (rtt_Rtt_Measure.f (k + 1) a0 a1 a2 a3 a4 a5 a6 a7) := by
  intro a0 a1 a2 a3 a4 a5 a6 a7 k
  have ih0 := rtt_Rtt_Measure.mono_l k
  unfold rtt_Rtt_Measure.f
  repeat' first
      | (with_reducible exact ih0 _ _ _ _ _ _ _ _)
      | (with_reducible exact LeO.refl _)
      | (with_reducible exact LeO.none _)
      | (with_reducible refine LeO.ite ?_ ?_)
      | (with_reducible refine LeO.bind ?_ (fun _ => ?_))
      | exact ih0 _ _ _ _ _ _ _ _
      | exact LeO.none _
      | refine LeO.ite ?_ ?_
      | refine LeO.bind ?_ (fun _ => ?_)
set_option maxHeartbeats 8000000 in
set_option maxRecDepth 100000 in
theorem rtt_Rtt_Measure.calls (k : Nat) (a0_0 : Int) (a0_1 : Int) (a0_2 : Int) (a0_3 : Int) (a0_4 : Bool) (a1 : Int) (a2 : Int) (a3 : Int) (r1 : Int) (r2 : Int) (r3 : Int) (r4 : Int) (r5 : Bool) (w : World) (h : rtt_Rtt_Measure.f k a0_0 a0_1 a0_2 a0_3 a0_4 a1 a2 a3 = some (r1, r2, r3, r4, r5)) :
    Calls Try.prog 27 #[.agg #[.int .u64 a0_0, .int .u64 a0_1, .int .u64 a0_2, .int .u64 a0_3, .bool a0_4], .int .u64 a1, .int .u64 a2, .int .u64 a3] w fun e w' => e = .returned (.agg #[.int .u64 r1, .int .u64 r2, .int .u64 r3, .int .u64 r4, .bool r5]) ∧ Below w.heap.size w w' := by
  have hu58 := Try.underlying58
  have HB := Aside0.mk (Below.refl w.heap.size w)
  have H : (if a0_4 = true then (if (mn a2 a3) ≤ (mn a1 1125899906842624) then (rtt_Rtt_Measure.j0 k (mn a1 1125899906842624) (mn a2 a3) (decide ((IntKind.u64.wrap ((mn a1 1125899906842624) - (mn a2 a3))) ≥ (mn a0_1 (mn a1 1125899906842624)))) (mn a1 1125899906842624) (mn a0_1 (mn a1 1125899906842624)) a0_2 a0_3 a0_4) else (rtt_Rtt_Measure.j0 k (mn a1 1125899906842624) (mn a2 a3) false (mn a1 1125899906842624) (mn a0_1 (mn a1 1125899906842624)) a0_2 a0_3 a0_4)) else (some (mn a1 1125899906842624, mn a1 1125899906842624, mn a1 1125899906842624, IntKind.u64.wrap (Int.tdiv (mn a1 1125899906842624) 2), true))) = some (r1, r2, r3, r4, r5) := h
  clear h
  obtain ⟨ji5, hji5⟩ : ∃ j_ : Int, (mn a1 1125899906842624) = j_ := ⟨_, rfl⟩
  replace H : (if a0_4 = true then (if (mn a2 a3) ≤ (ji5) then (rtt_Rtt_Measure.j0 k ji5 (mn a2 a3) (decide ((IntKind.u64.wrap ((ji5) - (mn a2 a3))) ≥ (mn a0_1 (ji5)))) ji5 (mn a0_1 (ji5)) a0_2 a0_3 a0_4) else (rtt_Rtt_Measure.j0 k ji5 (mn a2 a3) false ji5 (mn a0_1 (ji5)) a0_2 a0_3 a0_4)) else (some (ji5, ji5, ji5, IntKind.u64.wrap (Int.tdiv (ji5) 2), true))) = some (r1, r2, r3, r4, r5) := by first | (rw [hji5] at H; exact H) | (simp only [hji5] at H ⊢; exact H)
  (try (have hji5h : ji5 ≤ 1125899906842624 := by (rw [← hji5]; unfold mn; (repeat' split) <;> omega)))
  (try (have hji5g : ji5 ≤ 64 := by omega))
  have hji5_ : (if 1125899906842624 < a1 then 1125899906842624 else a1) = ji5 := hji5
  by_cases c6 : a0_4 = true
  · subst c6
    have H1 : (if (mn a2 a3) ≤ (ji5) then (rtt_Rtt_Measure.j0 k ji5 (mn a2 a3) (decide ((IntKind.u64.wrap ((ji5) - (mn a2 a3))) ≥ (mn a0_1 (ji5)))) ji5 (mn a0_1 (ji5)) a0_2 a0_3 true) else (rtt_Rtt_Measure.j0 k ji5 (mn a2 a3) false ji5 (mn a0_1 (ji5)) a0_2 a0_3 true)) = some (r1, r2, r3, r4, r5) := by rw [if_pos rfl] at H; exact H
    clear H
    have H := H1
    clear H1
    obtain ⟨ji7, hji7⟩ : ∃ j_ : Int, (mn a0_1 (ji5)) = j_ := ⟨_, rfl⟩
    replace H : (if (mn a2 a3) ≤ (ji5) then (rtt_Rtt_Measure.j0 k ji5 (mn a2 a3) (decide ((IntKind.u64.wrap ((ji5) - (mn a2 a3))) ≥ (ji7))) ji5 ji7 a0_2 a0_3 true) else (rtt_Rtt_Measure.j0 k ji5 (mn a2 a3) false ji5 ji7 a0_2 a0_3 true)) = some (r1, r2, r3, r4, r5) := by first | (rw [hji7] at H; exact H) | (simp only [hji7] at H ⊢; exact H)
    have hji7_ : (if (ji5) < a0_1 then (ji5) else a0_1) = ji7 := hji7
    obtain ⟨ji8, hji8⟩ : ∃ j_ : Int, (mn a2 a3) = j_ := ⟨_, rfl⟩
    replace H : (if (ji8) ≤ (ji5) then (rtt_Rtt_Measure.j0 k ji5 ji8 (decide ((IntKind.u64.wrap ((ji5) - (ji8))) ≥ (ji7))) ji5 ji7 a0_2 a0_3 true) else (rtt_Rtt_Measure.j0 k ji5 ji8 false ji5 ji7 a0_2 a0_3 true)) = some (r1, r2, r3, r4, r5) := by first | (rw [hji8] at H; exact H) | (simp only [hji8] at H ⊢; exact H)
    have hji8_ : (if a3 < a2 then a3 else a2) = ji8 := hji8
    have HC9 := Aside0.mk H
    clear H
    go_enter Try.func27, Try.ntmps27
    go_upto_region 6 with (first | ((with_reducible refine gate_dst (N := 4) rfl ?_); refine box_event ?hg (N := 4) ?hd (cs := #[.int .u64 a0_0, .int .u64 a0_1, .int .u64 a0_2, .int .u64 a0_3, .bool true]) (t := 58) ?hr ?_; (case hd => rfl); (case hg => rfl); (case hr => first | (go_simp; done) | (go_simp; rfl)); intro gb113 hg w10 hbox hb; have n0_ := Aside0.mk (below_step (by repeat (first | (with_reducible first | exact HB.out | apply below_alloc | apply pw_below_drewN | apply below_drew1) | exact HB.out)) hb); have n1_ := Aside0.mk (hbox); have n2_ := Aside0.mk ((by rw [hg]; exact (below_size (by repeat (first | (with_reducible first | exact HB.out | apply below_alloc | apply pw_below_drewN | apply below_drew1) | exact HB.out))) : w.heap.size ≤ gb113)); have n3_ := Aside0.mk ((by rw [hg]; exact (below_size (by repeat (first | (with_reducible first | exact HB.out | apply below_alloc | apply pw_below_drewN | apply below_drew1) | exact HB.out))) : w.heap.size ≤ gb113)); clear HB; have HB := n0_; have BK113 := n1_; have GW113 := n2_; have GE113 := n3_; clear n0_ n1_ n2_ n3_; clear hb hbox hg) | ((with_reducible refine gate_dst (N := 8) rfl ?_); refine box_event ?hg (N := 8) ?hd (cs := #[.int .u64 0, .int .u64 0, .int .u64 0, .int .u64 0, .bool false]) (t := 58) ?hr ?_; (case hd => rfl); (case hg => rfl); (case hr => first | (go_simp; done) | (go_simp; rfl)); intro gb114 hg w11 hbox hb; have n0_ := Aside0.mk (blk_below (g := gb113) (o := .cells #[.int .u64 a0_0, .int .u64 a0_1, .int .u64 a0_2, .int .u64 a0_3, .bool true] 58 (0, 0)) (by (with_reducible repeat (first | refine blk_drewN ?_ _ | refine blk_drew ?_ | refine blk_alloc ?_ _)); exact BK113.out) hb); have n1_ := Aside0.mk (below_step (by repeat (first | (with_reducible first | exact HB.out | apply below_alloc | apply pw_below_drewN | apply below_drew1 | refine below_set ?_ GE113.out) | exact HB.out)) hb); have n2_ := Aside0.mk (hbox); have n3_ := Aside0.mk ((by rw [hg]; exact (below_size (by repeat (first | (with_reducible first | exact HB.out | apply below_alloc | apply pw_below_drewN | apply below_drew1 | refine below_set ?_ GE113.out) | exact HB.out))) : w.heap.size ≤ gb114)); have n4_ := Aside0.mk ((by rw [hg]; exact (below_size (by repeat (first | (with_reducible first | exact HB.out | apply below_alloc | apply pw_below_drewN | apply below_drew1 | refine below_set ?_ GE113.out) | exact HB.out))) : w.heap.size ≤ gb114)); have n5_ := Aside0.mk ((by rw [hg]; exact Nat.ne_of_lt (blk_lt (g := gb113) (o := .cells #[.int .u64 a0_0, .int .u64 a0_1, .int .u64 a0_2, .int .u64 a0_3, .bool true] 58 (0, 0)) (by (with_reducible repeat (first | refine blk_drewN ?_ _ | refine blk_drew ?_ | refine blk_alloc ?_ _)); exact BK113.out)) : gb113 ≠ gb114)); have n6_ := Aside0.mk ((by rw [hg]; exact Nat.ne_of_gt (blk_lt (g := gb113) (o := .cells #[.int .u64 a0_0, .int .u64 a0_1, .int .u64 a0_2, .int .u64 a0_3, .bool true] 58 (0, 0)) (by (with_reducible repeat (first | refine blk_drewN ?_ _ | refine blk_drew ?_ | refine blk_alloc ?_ _)); exact BK113.out)) : gb114 ≠ gb113)); clear BK113; clear HB; have BK113 := n0_; have HB := n1_; have BK114 := n2_; have GW114 := n3_; have GE114 := n4_; have NB113_114 := n5_; have NB114_113 := n6_; clear n0_ n1_ n2_ n3_ n4_ n5_ n6_; clear hb hbox hg; have hnb12 := NB113_114.out; have hnc12 := NB114_113.out; have hcz13_0 : w11.cell? ⟨gb113, 0, none⟩ = some (.int .u64 a0_0) := (blk_cell BK113.out 0).trans rfl; have hcz13_1 : w11.cell? ⟨gb113, 1, none⟩ = some (.int .u64 a0_1) := (blk_cell BK113.out 1).trans rfl; have hcz13_2 : w11.cell? ⟨gb113, 2, none⟩ = some (.int .u64 a0_2) := (blk_cell BK113.out 2).trans rfl; have hcz13_3 : w11.cell? ⟨gb113, 3, none⟩ = some (.int .u64 a0_3) := (blk_cell BK113.out 3).trans rfl; have hcz13_4 : w11.cell? ⟨gb113, 4, none⟩ = some (.bool true) := (blk_cell BK113.out 4).trans rfl; have hfz13_0 := blk_frozen BK113.out 0; have hfz13_1 := blk_frozen BK113.out 1; have hfz13_2 := blk_frozen BK113.out 2; have hfz13_3 := blk_frozen BK113.out 3; have hfz13_4 := blk_frozen BK113.out 4))
    (try simp only [Act.put, List.setIfInBounds_toArray, List.set_cons_zero, List.set_cons_succ])
    go_cut [41] (fun v41 wc => ∃ (kq : Nat) (x41_8 : Bool), v41 = .bool x41_8 ∧ Aside0 (rtt_Rtt_Measure.j0 kq ji5 ji8 x41_8 ji5 ji7 a0_2 a0_3 true = some (r1, r2, r3, r4, r5)) ∧ Aside0 (kq ≤ k) ∧ Aside0 (wc.heap[gb113]? = some (.cells #[.int .u64 ji5, .int .u64 ji7, .int .u64 a0_2, .int .u64 a0_3, .bool true] 58 (0, 0))) ∧ Aside0 (wc.heap[gb114]? = some (.cells #[.int .u64 0, .int .u64 0, .int .u64 0, .int .u64 0, .bool false] 58 (0, 0))) ∧ Aside0 (Below w.heap.size w wc))
    case first =>
      have H := HC9.out
      clear HC9
      by_cases c14 : (ji8) ≤ (ji5)
      · rw [if_pos c14] at H
        have c14b0 : decide ((ji8) ≤ (ji5)) = true := decide_eq_true c14
        clear c14
        (first | rw [c14b0] | (simp only [i64_w, i32_w]; rw [c14b0]) | skip)
        have H' := Aside0.mk H
        clear H
        have hnb15 := NB113_114.out
        have hnc15 := NB114_113.out
        have hcz16_0 : w11.cell? ⟨gb113, 0, none⟩ = some (.int .u64 a0_0) := (blk_cell BK113.out 0).trans rfl
        have hcz16_1 : w11.cell? ⟨gb113, 1, none⟩ = some (.int .u64 a0_1) := (blk_cell BK113.out 1).trans rfl
        have hcz16_2 : w11.cell? ⟨gb113, 2, none⟩ = some (.int .u64 a0_2) := (blk_cell BK113.out 2).trans rfl
        have hcz16_3 : w11.cell? ⟨gb113, 3, none⟩ = some (.int .u64 a0_3) := (blk_cell BK113.out 3).trans rfl
        have hcz16_4 : w11.cell? ⟨gb113, 4, none⟩ = some (.bool true) := (blk_cell BK113.out 4).trans rfl
        have hfz16_0 := blk_frozen BK113.out 0
        have hfz16_1 := blk_frozen BK113.out 1
        have hfz16_2 := blk_frozen BK113.out 2
        have hfz16_3 := blk_frozen BK113.out 3
        have hfz16_4 := blk_frozen BK113.out 4
        go_wp2
        go_meet
        case rel => exact ⟨_, (decide ((IntKind.u64.wrap ((ji5) - (ji8))) ≥ (ji7))), (by first | rfl | (simp; done) | (simp only [← hji5, ← hji7, ← hji8] <;> (first | rfl | simp)) | (simp [*]; done)), H', ⟨by first | omega | exact Nat.le_refl _⟩, ⟨by (with_reducible repeat (first | refine blk_drewN ?_ _ | refine blk_drew ?_ | refine blk_alloc ?_ _)); refine blk_put (cs := #[.int .u64 ji5, .int .u64 a0_1, .int .u64 a0_2, .int .u64 a0_3, .bool true]) ?_ 1 _ rfl; (with_reducible repeat (first | refine blk_drewN ?_ _ | refine blk_drew ?_ | refine blk_alloc ?_ _)); refine blk_put (cs := #[.int .u64 a0_0, .int .u64 a0_1, .int .u64 a0_2, .int .u64 a0_3, .bool true]) ?_ 0 _ rfl; (with_reducible repeat (first | refine blk_drewN ?_ _ | refine blk_drew ?_ | refine blk_alloc ?_ _)); exact BK113.out⟩, ⟨by (with_reducible repeat (first | refine blk_drewN ?_ _ | refine blk_drew ?_ | refine blk_alloc ?_ _)); refine blk_far ?_ NB114_113.out _; (with_reducible repeat (first | refine blk_drewN ?_ _ | refine blk_drew ?_ | refine blk_alloc ?_ _)); refine blk_far ?_ NB114_113.out _; (with_reducible repeat (first | refine blk_drewN ?_ _ | refine blk_drew ?_ | refine blk_alloc ?_ _)); exact BK114.out⟩, ⟨by repeat (first | (with_reducible first | exact HB.out | apply below_alloc | apply pw_below_drewN | apply below_drew1 | refine below_set ?_ GE113.out | refine below_set ?_ GE114.out) | exact HB.out)⟩⟩
      · rw [if_neg c14] at H
        have c14b0 : decide ((ji8) ≤ (ji5)) = false := decide_eq_false c14
        clear c14
        (first | rw [c14b0] | (simp only [i64_w, i32_w]; rw [c14b0]) | skip)
        have H' := Aside0.mk H
        clear H
        go_wp2
        go_meet
        case rel => exact ⟨_, (false), (by first | rfl | (simp; done) | (simp [*]; done)), H', ⟨by first | omega | exact Nat.le_refl _⟩, ⟨by (with_reducible repeat (first | refine blk_drewN ?_ _ | refine blk_drew ?_ | refine blk_alloc ?_ _)); refine blk_put (cs := #[.int .u64 ji5, .int .u64 a0_1, .int .u64 a0_2, .int .u64 a0_3, .bool true]) ?_ 1 _ rfl; (with_reducible repeat (first | refine blk_drewN ?_ _ | refine blk_drew ?_ | refine blk_alloc ?_ _)); refine blk_put (cs := #[.int .u64 a0_0, .int .u64 a0_1, .int .u64 a0_2, .int .u64 a0_3, .bool true]) ?_ 0 _ rfl; (with_reducible repeat (first | refine blk_drewN ?_ _ | refine blk_drew ?_ | refine blk_alloc ?_ _)); exact BK113.out⟩, ⟨by (with_reducible repeat (first | refine blk_drewN ?_ _ | refine blk_drew ?_ | refine blk_alloc ?_ _)); refine blk_far ?_ NB114_113.out _; (with_reducible repeat (first | refine blk_drewN ?_ _ | refine blk_drew ?_ | refine blk_alloc ?_ _)); refine blk_far ?_ NB114_113.out _; (with_reducible repeat (first | refine blk_drewN ?_ _ | refine blk_drew ?_ | refine blk_alloc ?_ _)); exact BK114.out⟩, ⟨by repeat (first | (with_reducible first | exact HB.out | apply below_alloc | apply pw_below_drewN | apply below_drew1 | refine below_set ?_ GE113.out | refine below_set ?_ GE114.out) | exact HB.out)⟩⟩
    case rest =>
      clear HC9
      try clear c1
      try clear c2
      try clear p2
      try clear c6
      try clear c12
      try clear c14
      try clear c14b0
      try clear c15
      try clear hcz13_0
      try clear hcz13_1
      try clear hcz13_2
      try clear hcz13_3
      try clear hcz13_4
      try clear hcz16_0
      try clear hcz16_1
      try clear hcz16_2
      try clear hcz16_3
      try clear hcz16_4
      try clear hfz13_0
      try clear hfz13_1
      try clear hfz13_2
      try clear hfz13_3
      try clear hfz13_4
      try clear hfz16_0
      try clear hfz16_1
      try clear hfz16_2
      try clear hfz16_3
      try clear hfz16_4
      obtain ⟨kq, x41_8, rfl, HA, HJ8, BK113, BK114, HB⟩ := hcut
      cases kq with
      | zero => exact absurd HA.out (by simp [rtt_Rtt_Measure.j0])
      | succ kj8 =>
        have H := HA.out
        clear HA
        simp only [rtt_Rtt_Measure.j0] at H
        by_cases c17 : x41_8 = true
        · subst c17
          have H1 : (if (IntKind.u64.wrap (ji5 - ji8)) > a0_2 then (some (ji5, ji7, IntKind.u64.wrap (Int.tdiv (IntKind.u64.wrap ((IntKind.u64.wrap (7 * a0_2)) + (IntKind.u64.wrap (ji5 - ji8)))) 8), IntKind.u64.wrap (Int.tdiv (IntKind.u64.wrap ((IntKind.u64.wrap (3 * a0_3)) + (IntKind.u64.wrap ((IntKind.u64.wrap (ji5 - ji8)) - a0_2)))) 4), true)) else (some (ji5, ji7, IntKind.u64.wrap (Int.tdiv (IntKind.u64.wrap ((IntKind.u64.wrap (7 * a0_2)) + (IntKind.u64.wrap (ji5 - ji8)))) 8), IntKind.u64.wrap (Int.tdiv (IntKind.u64.wrap ((IntKind.u64.wrap (3 * a0_3)) + (IntKind.u64.wrap (a0_2 - (IntKind.u64.wrap (ji5 - ji8)))))) 4), true))) = some (r1, r2, r3, r4, r5) := by rw [if_pos rfl] at H; exact H
          clear H
          have H := H1
          clear H1
          by_cases c18 : (IntKind.u64.wrap (ji5 - ji8)) > a0_2
          · rw [if_pos c18] at H
            have c18b0 : decide (a0_2 < (IntKind.u64.wrap (ji5 - ji8))) = true := decide_eq_true c18
            clear c18
            simp only [Option.some.injEq, Prod.mk.injEq] at H
            obtain ⟨rfl, rfl, rfl, rfl, rfl⟩ := H
            have hnb19 := NB113_114.out
            have hnc19 := NB114_113.out
            have hcz20_0 : wc.cell? ⟨gb113, 0, none⟩ = some (.int .u64 ji5) := (blk_cell BK113.out 0).trans rfl
            have hcz20_1 : wc.cell? ⟨gb113, 1, none⟩ = some (.int .u64 ji7) := (blk_cell BK113.out 1).trans rfl
            have hcz20_2 : wc.cell? ⟨gb113, 2, none⟩ = some (.int .u64 a0_2) := (blk_cell BK113.out 2).trans rfl
            have hcz20_3 : wc.cell? ⟨gb113, 3, none⟩ = some (.int .u64 a0_3) := (blk_cell BK113.out 3).trans rfl
            have hcz20_4 : wc.cell? ⟨gb113, 4, none⟩ = some (.bool true) := (blk_cell BK113.out 4).trans rfl
            have hfz20_0 := blk_frozen BK113.out 0
            have hfz20_1 := blk_frozen BK113.out 1
            have hfz20_2 := blk_frozen BK113.out 2
            have hfz20_3 := blk_frozen BK113.out 3
            have hfz20_4 := blk_frozen BK113.out 4
            have hcz21_0 : wc.cell? ⟨gb114, 0, none⟩ = some (.int .u64 0) := (blk_cell BK114.out 0).trans rfl
            have hcz21_1 : wc.cell? ⟨gb114, 1, none⟩ = some (.int .u64 0) := (blk_cell BK114.out 1).trans rfl
            have hcz21_2 : wc.cell? ⟨gb114, 2, none⟩ = some (.int .u64 0) := (blk_cell BK114.out 2).trans rfl
            have hcz21_3 : wc.cell? ⟨gb114, 3, none⟩ = some (.int .u64 0) := (blk_cell BK114.out 3).trans rfl
            have hcz21_4 : wc.cell? ⟨gb114, 4, none⟩ = some (.bool false) := (blk_cell BK114.out 4).trans rfl
            have hfz21_0 := blk_frozen BK114.out 0
            have hfz21_1 := blk_frozen BK114.out 1
            have hfz21_2 := blk_frozen BK114.out 2
            have hfz21_3 := blk_frozen BK114.out 3
            have hfz21_4 := blk_frozen BK114.out 4
            go_wp2
            refine bodyPost_ret (results_cell_row rfl _ _ gb114 58 #[.int .u64 ji5, .int .u64 ji7, .int .u64 (IntKind.u64.wrap (Int.tdiv (IntKind.u64.wrap ((IntKind.u64.wrap (7 * a0_2)) + (IntKind.u64.wrap (ji5 - ji8)))) 8)), .int .u64 (IntKind.u64.wrap (Int.tdiv (IntKind.u64.wrap ((IntKind.u64.wrap (3 * a0_3)) + (IntKind.u64.wrap ((IntKind.u64.wrap (ji5 - ji8)) - a0_2)))) 4)), .bool true] (0, 0) _ rfl (by (with_reducible repeat (first | refine blk_drewN ?_ _ | refine blk_drew ?_ | refine blk_alloc ?_ _)); refine blk_put (cs := #[.int .u64 ji5, .int .u64 ji7, .int .u64 (IntKind.u64.wrap (Int.tdiv (IntKind.u64.wrap ((IntKind.u64.wrap (7 * a0_2)) + (IntKind.u64.wrap (ji5 - ji8)))) 8)), .int .u64 (IntKind.u64.wrap (Int.tdiv (IntKind.u64.wrap ((IntKind.u64.wrap (3 * a0_3)) + (IntKind.u64.wrap ((IntKind.u64.wrap (ji5 - ji8)) - a0_2)))) 4)), .bool false]) ?_ 4 _ rfl; (with_reducible repeat (first | refine blk_drewN ?_ _ | refine blk_drew ?_ | refine blk_alloc ?_ _)); refine blk_put (cs := #[.int .u64 ji5, .int .u64 ji7, .int .u64 (IntKind.u64.wrap (Int.tdiv (IntKind.u64.wrap ((IntKind.u64.wrap (7 * a0_2)) + (IntKind.u64.wrap (ji5 - ji8)))) 8)), .int .u64 0, .bool false]) ?_ 3 _ rfl; (with_reducible repeat (first | refine blk_drewN ?_ _ | refine blk_drew ?_ | refine blk_alloc ?_ _)); refine blk_put (cs := #[.int .u64 ji5, .int .u64 ji7, .int .u64 0, .int .u64 0, .bool false]) ?_ 2 _ rfl; (with_reducible repeat (first | refine blk_drewN ?_ _ | refine blk_drew ?_ | refine blk_alloc ?_ _)); refine blk_put (cs := #[.int .u64 ji5, .int .u64 0, .int .u64 0, .int .u64 0, .bool false]) ?_ 1 _ rfl; (with_reducible repeat (first | refine blk_drewN ?_ _ | refine blk_drew ?_ | refine blk_alloc ?_ _)); refine blk_put (cs := #[.int .u64 0, .int .u64 0, .int .u64 0, .int .u64 0, .bool false]) ?_ 0 _ rfl; (with_reducible repeat (first | refine blk_drewN ?_ _ | refine blk_drew ?_ | refine blk_alloc ?_ _)); refine blk_far ?_ NB114_113.out _; (with_reducible repeat (first | refine blk_drewN ?_ _ | refine blk_drew ?_ | refine blk_alloc ?_ _)); refine blk_far ?_ NB114_113.out _; (with_reducible repeat (first | refine blk_drewN ?_ _ | refine blk_drew ?_ | refine blk_alloc ?_ _)); exact BK114.out) Try.underlying58 rfl (by kernel_rfl)) rfl ?_
            exact ⟨by first | rfl | (simp [errW_none, errW_some] <;> rfl) | (simp only [← hji5, ← hji7, ← hji8]; first | rfl | (simp [errW_none, errW_some] <;> rfl)) | (simp [*, errW_none, errW_some] <;> rfl), by repeat (first | (with_reducible first | exact HB.out | apply below_alloc | apply pw_below_drewN | apply below_drew1 | refine below_set ?_ GE113.out | refine below_set ?_ GE114.out) | exact HB.out)⟩
          · rw [if_neg c18] at H
            have c18b0 : decide (a0_2 < (IntKind.u64.wrap (ji5 - ji8))) = false := decide_eq_false c18
            clear c18
            simp only [Option.some.injEq, Prod.mk.injEq] at H
            obtain ⟨rfl, rfl, rfl, rfl, rfl⟩ := H
            have hnb22 := NB113_114.out
            have hnc22 := NB114_113.out
            have hcz23_0 : wc.cell? ⟨gb113, 0, none⟩ = some (.int .u64 ji5) := (blk_cell BK113.out 0).trans rfl
            have hcz23_1 : wc.cell? ⟨gb113, 1, none⟩ = some (.int .u64 ji7) := (blk_cell BK113.out 1).trans rfl
            have hcz23_2 : wc.cell? ⟨gb113, 2, none⟩ = some (.int .u64 a0_2) := (blk_cell BK113.out 2).trans rfl
            have hcz23_3 : wc.cell? ⟨gb113, 3, none⟩ = some (.int .u64 a0_3) := (blk_cell BK113.out 3).trans rfl
            have hcz23_4 : wc.cell? ⟨gb113, 4, none⟩ = some (.bool true) := (blk_cell BK113.out 4).trans rfl
            have hfz23_0 := blk_frozen BK113.out 0
            have hfz23_1 := blk_frozen BK113.out 1
            have hfz23_2 := blk_frozen BK113.out 2
            have hfz23_3 := blk_frozen BK113.out 3
            have hfz23_4 := blk_frozen BK113.out 4
            have hcz24_0 : wc.cell? ⟨gb114, 0, none⟩ = some (.int .u64 0) := (blk_cell BK114.out 0).trans rfl
            have hcz24_1 : wc.cell? ⟨gb114, 1, none⟩ = some (.int .u64 0) := (blk_cell BK114.out 1).trans rfl
            have hcz24_2 : wc.cell? ⟨gb114, 2, none⟩ = some (.int .u64 0) := (blk_cell BK114.out 2).trans rfl
            have hcz24_3 : wc.cell? ⟨gb114, 3, none⟩ = some (.int .u64 0) := (blk_cell BK114.out 3).trans rfl
            have hcz24_4 : wc.cell? ⟨gb114, 4, none⟩ = some (.bool false) := (blk_cell BK114.out 4).trans rfl
            have hfz24_0 := blk_frozen BK114.out 0
            have hfz24_1 := blk_frozen BK114.out 1
            have hfz24_2 := blk_frozen BK114.out 2
            have hfz24_3 := blk_frozen BK114.out 3
            have hfz24_4 := blk_frozen BK114.out 4
            go_wp2
            refine bodyPost_ret (results_cell_row rfl _ _ gb114 58 #[.int .u64 ji5, .int .u64 ji7, .int .u64 (IntKind.u64.wrap (Int.tdiv (IntKind.u64.wrap ((IntKind.u64.wrap (7 * a0_2)) + (IntKind.u64.wrap (ji5 - ji8)))) 8)), .int .u64 (IntKind.u64.wrap (Int.tdiv (IntKind.u64.wrap ((IntKind.u64.wrap (3 * a0_3)) + (IntKind.u64.wrap (a0_2 - (IntKind.u64.wrap (ji5 - ji8)))))) 4)), .bool true] (0, 0) _ rfl (by (with_reducible repeat (first | refine blk_drewN ?_ _ | refine blk_drew ?_ | refine blk_alloc ?_ _)); refine blk_put (cs := #[.int .u64 ji5, .int .u64 ji7, .int .u64 (IntKind.u64.wrap (Int.tdiv (IntKind.u64.wrap ((IntKind.u64.wrap (7 * a0_2)) + (IntKind.u64.wrap (ji5 - ji8)))) 8)), .int .u64 (IntKind.u64.wrap (Int.tdiv (IntKind.u64.wrap ((IntKind.u64.wrap (3 * a0_3)) + (IntKind.u64.wrap (a0_2 - (IntKind.u64.wrap (ji5 - ji8)))))) 4)), .bool false]) ?_ 4 _ rfl; (with_reducible repeat (first | refine blk_drewN ?_ _ | refine blk_drew ?_ | refine blk_alloc ?_ _)); refine blk_put (cs := #[.int .u64 ji5, .int .u64 ji7, .int .u64 (IntKind.u64.wrap (Int.tdiv (IntKind.u64.wrap ((IntKind.u64.wrap (7 * a0_2)) + (IntKind.u64.wrap (ji5 - ji8)))) 8)), .int .u64 0, .bool false]) ?_ 3 _ rfl; (with_reducible repeat (first | refine blk_drewN ?_ _ | refine blk_drew ?_ | refine blk_alloc ?_ _)); refine blk_put (cs := #[.int .u64 ji5, .int .u64 ji7, .int .u64 0, .int .u64 0, .bool false]) ?_ 2 _ rfl; (with_reducible repeat (first | refine blk_drewN ?_ _ | refine blk_drew ?_ | refine blk_alloc ?_ _)); refine blk_put (cs := #[.int .u64 ji5, .int .u64 0, .int .u64 0, .int .u64 0, .bool false]) ?_ 1 _ rfl; (with_reducible repeat (first | refine blk_drewN ?_ _ | refine blk_drew ?_ | refine blk_alloc ?_ _)); refine blk_put (cs := #[.int .u64 0, .int .u64 0, .int .u64 0, .int .u64 0, .bool false]) ?_ 0 _ rfl; (with_reducible repeat (first | refine blk_drewN ?_ _ | refine blk_drew ?_ | refine blk_alloc ?_ _)); refine blk_far ?_ NB114_113.out _; (with_reducible repeat (first | refine blk_drewN ?_ _ | refine blk_drew ?_ | refine blk_alloc ?_ _)); refine blk_far ?_ NB114_113.out _; (with_reducible repeat (first | refine blk_drewN ?_ _ | refine blk_drew ?_ | refine blk_alloc ?_ _)); exact BK114.out) Try.underlying58 rfl (by kernel_rfl)) rfl ?_
            exact ⟨by first | rfl | (simp [errW_none, errW_some] <;> rfl) | (simp only [← hji5, ← hji7, ← hji8]; first | rfl | (simp [errW_none, errW_some] <;> rfl)) | (simp [*, errW_none, errW_some] <;> rfl), by repeat (first | (with_reducible first | exact HB.out | apply below_alloc | apply pw_below_drewN | apply below_drew1 | refine below_set ?_ GE113.out | refine below_set ?_ GE114.out) | exact HB.out)⟩
        · replace c17 := Bool.eq_false_iff.mpr c17
          subst c17
          have H1 : (if ji5 > a0_2 then (some (ji5, ji7, IntKind.u64.wrap (Int.tdiv (IntKind.u64.wrap ((IntKind.u64.wrap (7 * a0_2)) + ji5)) 8), IntKind.u64.wrap (Int.tdiv (IntKind.u64.wrap ((IntKind.u64.wrap (3 * a0_3)) + (IntKind.u64.wrap (ji5 - a0_2)))) 4), true)) else (some (ji5, ji7, IntKind.u64.wrap (Int.tdiv (IntKind.u64.wrap ((IntKind.u64.wrap (7 * a0_2)) + ji5)) 8), IntKind.u64.wrap (Int.tdiv (IntKind.u64.wrap ((IntKind.u64.wrap (3 * a0_3)) + (IntKind.u64.wrap (a0_2 - ji5)))) 4), true))) = some (r1, r2, r3, r4, r5) := by rw [if_neg (show ¬ (false = true) by decide)] at H; exact H
          clear H
          have H := H1
          clear H1
          by_cases c25 : ji5 > a0_2
          · rw [if_pos c25] at H
            have c25b0 : decide (a0_2 < ji5) = true := decide_eq_true c25
            clear c25
            simp only [Option.some.injEq, Prod.mk.injEq] at H
            obtain ⟨rfl, rfl, rfl, rfl, rfl⟩ := H
            have hnb26 := NB113_114.out
            have hnc26 := NB114_113.out
            have hcz27_0 : wc.cell? ⟨gb113, 0, none⟩ = some (.int .u64 ji5) := (blk_cell BK113.out 0).trans rfl
            have hcz27_1 : wc.cell? ⟨gb113, 1, none⟩ = some (.int .u64 ji7) := (blk_cell BK113.out 1).trans rfl
            have hcz27_2 : wc.cell? ⟨gb113, 2, none⟩ = some (.int .u64 a0_2) := (blk_cell BK113.out 2).trans rfl
            have hcz27_3 : wc.cell? ⟨gb113, 3, none⟩ = some (.int .u64 a0_3) := (blk_cell BK113.out 3).trans rfl
            have hcz27_4 : wc.cell? ⟨gb113, 4, none⟩ = some (.bool true) := (blk_cell BK113.out 4).trans rfl
            have hfz27_0 := blk_frozen BK113.out 0
            have hfz27_1 := blk_frozen BK113.out 1
            have hfz27_2 := blk_frozen BK113.out 2
            have hfz27_3 := blk_frozen BK113.out 3
            have hfz27_4 := blk_frozen BK113.out 4
            have hcz28_0 : wc.cell? ⟨gb114, 0, none⟩ = some (.int .u64 0) := (blk_cell BK114.out 0).trans rfl
            have hcz28_1 : wc.cell? ⟨gb114, 1, none⟩ = some (.int .u64 0) := (blk_cell BK114.out 1).trans rfl
            have hcz28_2 : wc.cell? ⟨gb114, 2, none⟩ = some (.int .u64 0) := (blk_cell BK114.out 2).trans rfl
            have hcz28_3 : wc.cell? ⟨gb114, 3, none⟩ = some (.int .u64 0) := (blk_cell BK114.out 3).trans rfl
            have hcz28_4 : wc.cell? ⟨gb114, 4, none⟩ = some (.bool false) := (blk_cell BK114.out 4).trans rfl
            have hfz28_0 := blk_frozen BK114.out 0
            have hfz28_1 := blk_frozen BK114.out 1
            have hfz28_2 := blk_frozen BK114.out 2
            have hfz28_3 := blk_frozen BK114.out 3
            have hfz28_4 := blk_frozen BK114.out 4
            go_wp2
            refine bodyPost_ret (results_cell_row rfl _ _ gb114 58 #[.int .u64 ji5, .int .u64 ji7, .int .u64 (IntKind.u64.wrap (Int.tdiv (IntKind.u64.wrap ((IntKind.u64.wrap (7 * a0_2)) + ji5)) 8)), .int .u64 (IntKind.u64.wrap (Int.tdiv (IntKind.u64.wrap ((IntKind.u64.wrap (3 * a0_3)) + (IntKind.u64.wrap (ji5 - a0_2)))) 4)), .bool true] (0, 0) _ rfl (by (with_reducible repeat (first | refine blk_drewN ?_ _ | refine blk_drew ?_ | refine blk_alloc ?_ _)); refine blk_put (cs := #[.int .u64 ji5, .int .u64 ji7, .int .u64 (IntKind.u64.wrap (Int.tdiv (IntKind.u64.wrap ((IntKind.u64.wrap (7 * a0_2)) + ji5)) 8)), .int .u64 (IntKind.u64.wrap (Int.tdiv (IntKind.u64.wrap ((IntKind.u64.wrap (3 * a0_3)) + (IntKind.u64.wrap (ji5 - a0_2)))) 4)), .bool false]) ?_ 4 _ rfl; (with_reducible repeat (first | refine blk_drewN ?_ _ | refine blk_drew ?_ | refine blk_alloc ?_ _)); refine blk_put (cs := #[.int .u64 ji5, .int .u64 ji7, .int .u64 (IntKind.u64.wrap (Int.tdiv (IntKind.u64.wrap ((IntKind.u64.wrap (7 * a0_2)) + ji5)) 8)), .int .u64 0, .bool false]) ?_ 3 _ rfl; (with_reducible repeat (first | refine blk_drewN ?_ _ | refine blk_drew ?_ | refine blk_alloc ?_ _)); refine blk_put (cs := #[.int .u64 ji5, .int .u64 ji7, .int .u64 0, .int .u64 0, .bool false]) ?_ 2 _ rfl; (with_reducible repeat (first | refine blk_drewN ?_ _ | refine blk_drew ?_ | refine blk_alloc ?_ _)); refine blk_put (cs := #[.int .u64 ji5, .int .u64 0, .int .u64 0, .int .u64 0, .bool false]) ?_ 1 _ rfl; (with_reducible repeat (first | refine blk_drewN ?_ _ | refine blk_drew ?_ | refine blk_alloc ?_ _)); refine blk_put (cs := #[.int .u64 0, .int .u64 0, .int .u64 0, .int .u64 0, .bool false]) ?_ 0 _ rfl; (with_reducible repeat (first | refine blk_drewN ?_ _ | refine blk_drew ?_ | refine blk_alloc ?_ _)); refine blk_far ?_ NB114_113.out _; (with_reducible repeat (first | refine blk_drewN ?_ _ | refine blk_drew ?_ | refine blk_alloc ?_ _)); refine blk_far ?_ NB114_113.out _; (with_reducible repeat (first | refine blk_drewN ?_ _ | refine blk_drew ?_ | refine blk_alloc ?_ _)); exact BK114.out) Try.underlying58 rfl (by kernel_rfl)) rfl ?_
            exact ⟨by first | rfl | (simp [errW_none, errW_some] <;> rfl) | (simp only [← hji5, ← hji7, ← hji8]; first | rfl | (simp [errW_none, errW_some] <;> rfl)) | (simp [*, errW_none, errW_some] <;> rfl), by repeat (first | (with_reducible first | exact HB.out | apply below_alloc | apply pw_below_drewN | apply below_drew1 | refine below_set ?_ GE113.out | refine below_set ?_ GE114.out) | exact HB.out)⟩
          · rw [if_neg c25] at H
            have c25b0 : decide (a0_2 < ji5) = false := decide_eq_false c25
            clear c25
            simp only [Option.some.injEq, Prod.mk.injEq] at H
            obtain ⟨rfl, rfl, rfl, rfl, rfl⟩ := H
            have hnb29 := NB113_114.out
            have hnc29 := NB114_113.out
            have hcz30_0 : wc.cell? ⟨gb113, 0, none⟩ = some (.int .u64 ji5) := (blk_cell BK113.out 0).trans rfl
            have hcz30_1 : wc.cell? ⟨gb113, 1, none⟩ = some (.int .u64 ji7) := (blk_cell BK113.out 1).trans rfl
            have hcz30_2 : wc.cell? ⟨gb113, 2, none⟩ = some (.int .u64 a0_2) := (blk_cell BK113.out 2).trans rfl
            have hcz30_3 : wc.cell? ⟨gb113, 3, none⟩ = some (.int .u64 a0_3) := (blk_cell BK113.out 3).trans rfl
            have hcz30_4 : wc.cell? ⟨gb113, 4, none⟩ = some (.bool true) := (blk_cell BK113.out 4).trans rfl
            have hfz30_0 := blk_frozen BK113.out 0
            have hfz30_1 := blk_frozen BK113.out 1
            have hfz30_2 := blk_frozen BK113.out 2
            have hfz30_3 := blk_frozen BK113.out 3
            have hfz30_4 := blk_frozen BK113.out 4
            have hcz31_0 : wc.cell? ⟨gb114, 0, none⟩ = some (.int .u64 0) := (blk_cell BK114.out 0).trans rfl
            have hcz31_1 : wc.cell? ⟨gb114, 1, none⟩ = some (.int .u64 0) := (blk_cell BK114.out 1).trans rfl
            have hcz31_2 : wc.cell? ⟨gb114, 2, none⟩ = some (.int .u64 0) := (blk_cell BK114.out 2).trans rfl
            have hcz31_3 : wc.cell? ⟨gb114, 3, none⟩ = some (.int .u64 0) := (blk_cell BK114.out 3).trans rfl
            have hcz31_4 : wc.cell? ⟨gb114, 4, none⟩ = some (.bool false) := (blk_cell BK114.out 4).trans rfl
            have hfz31_0 := blk_frozen BK114.out 0
            have hfz31_1 := blk_frozen BK114.out 1
            have hfz31_2 := blk_frozen BK114.out 2
            have hfz31_3 := blk_frozen BK114.out 3
            have hfz31_4 := blk_frozen BK114.out 4
            go_wp2
            refine bodyPost_ret (results_cell_row rfl _ _ gb114 58 #[.int .u64 ji5, .int .u64 ji7, .int .u64 (IntKind.u64.wrap (Int.tdiv (IntKind.u64.wrap ((IntKind.u64.wrap (7 * a0_2)) + ji5)) 8)), .int .u64 (IntKind.u64.wrap (Int.tdiv (IntKind.u64.wrap ((IntKind.u64.wrap (3 * a0_3)) + (IntKind.u64.wrap (a0_2 - ji5)))) 4)), .bool true] (0, 0) _ rfl (by (with_reducible repeat (first | refine blk_drewN ?_ _ | refine blk_drew ?_ | refine blk_alloc ?_ _)); refine blk_put (cs := #[.int .u64 ji5, .int .u64 ji7, .int .u64 (IntKind.u64.wrap (Int.tdiv (IntKind.u64.wrap ((IntKind.u64.wrap (7 * a0_2)) + ji5)) 8)), .int .u64 (IntKind.u64.wrap (Int.tdiv (IntKind.u64.wrap ((IntKind.u64.wrap (3 * a0_3)) + (IntKind.u64.wrap (a0_2 - ji5)))) 4)), .bool false]) ?_ 4 _ rfl; (with_reducible repeat (first | refine blk_drewN ?_ _ | refine blk_drew ?_ | refine blk_alloc ?_ _)); refine blk_put (cs := #[.int .u64 ji5, .int .u64 ji7, .int .u64 (IntKind.u64.wrap (Int.tdiv (IntKind.u64.wrap ((IntKind.u64.wrap (7 * a0_2)) + ji5)) 8)), .int .u64 0, .bool false]) ?_ 3 _ rfl; (with_reducible repeat (first | refine blk_drewN ?_ _ | refine blk_drew ?_ | refine blk_alloc ?_ _)); refine blk_put (cs := #[.int .u64 ji5, .int .u64 ji7, .int .u64 0, .int .u64 0, .bool false]) ?_ 2 _ rfl; (with_reducible repeat (first | refine blk_drewN ?_ _ | refine blk_drew ?_ | refine blk_alloc ?_ _)); refine blk_put (cs := #[.int .u64 ji5, .int .u64 0, .int .u64 0, .int .u64 0, .bool false]) ?_ 1 _ rfl; (with_reducible repeat (first | refine blk_drewN ?_ _ | refine blk_drew ?_ | refine blk_alloc ?_ _)); refine blk_put (cs := #[.int .u64 0, .int .u64 0, .int .u64 0, .int .u64 0, .bool false]) ?_ 0 _ rfl; (with_reducible repeat (first | refine blk_drewN ?_ _ | refine blk_drew ?_ | refine blk_alloc ?_ _)); refine blk_far ?_ NB114_113.out _; (with_reducible repeat (first | refine blk_drewN ?_ _ | refine blk_drew ?_ | refine blk_alloc ?_ _)); refine blk_far ?_ NB114_113.out _; (with_reducible repeat (first | refine blk_drewN ?_ _ | refine blk_drew ?_ | refine blk_alloc ?_ _)); exact BK114.out) Try.underlying58 rfl (by kernel_rfl)) rfl ?_
            exact ⟨by first | rfl | (simp [errW_none, errW_some] <;> rfl) | (simp only [← hji5, ← hji7, ← hji8]; first | rfl | (simp [errW_none, errW_some] <;> rfl)) | (simp [*, errW_none, errW_some] <;> rfl), by repeat (first | (with_reducible first | exact HB.out | apply below_alloc | apply pw_below_drewN | apply below_drew1 | refine below_set ?_ GE113.out | refine below_set ?_ GE114.out) | exact HB.out)⟩
  · replace c6 := Bool.eq_false_iff.mpr c6
    subst c6
    have H1 : (some (ji5, ji5, ji5, IntKind.u64.wrap (Int.tdiv (ji5) 2), true)) = some (r1, r2, r3, r4, r5) := by rw [if_neg (show ¬ (false = true) by decide)] at H; exact H
    clear H
    have H := H1
    clear H1
    simp only [Option.some.injEq, Prod.mk.injEq] at H
    obtain ⟨rfl, rfl, rfl, rfl, rfl⟩ := H
    go_enter Try.func27, Try.ntmps27
    go_wp2_with (first | ((with_reducible refine gate_dst (N := 4) rfl ?_); refine box_event ?hg (N := 4) ?hd (cs := #[.int .u64 a0_0, .int .u64 a0_1, .int .u64 a0_2, .int .u64 a0_3, .bool false]) (t := 58) ?hr ?_; (case hd => rfl); (case hg => rfl); (case hr => first | (go_simp; done) | (go_simp; rfl)); intro gb113 hg w32 hbox hb; have n0_ := Aside0.mk (below_step (by repeat (first | (with_reducible first | exact HB.out | apply below_alloc | apply pw_below_drewN | apply below_drew1) | exact HB.out)) hb); have n1_ := Aside0.mk (hbox); have n2_ := Aside0.mk ((by rw [hg]; exact (below_size (by repeat (first | (with_reducible first | exact HB.out | apply below_alloc | apply pw_below_drewN | apply below_drew1) | exact HB.out))) : w.heap.size ≤ gb113)); have n3_ := Aside0.mk ((by rw [hg]; exact (below_size (by repeat (first | (with_reducible first | exact HB.out | apply below_alloc | apply pw_below_drewN | apply below_drew1) | exact HB.out))) : w.heap.size ≤ gb113)); clear HB; have HB := n0_; have BK113 := n1_; have GW113 := n2_; have GE113 := n3_; clear n0_ n1_ n2_ n3_; clear hb hbox hg) | ((with_reducible refine gate_dst (N := 8) rfl ?_); refine box_event ?hg (N := 8) ?hd (cs := #[.int .u64 0, .int .u64 0, .int .u64 0, .int .u64 0, .bool false]) (t := 58) ?hr ?_; (case hd => rfl); (case hg => rfl); (case hr => first | (go_simp; done) | (go_simp; rfl)); intro gb114 hg w33 hbox hb; have n0_ := Aside0.mk (blk_below (g := gb113) (o := .cells #[.int .u64 a0_0, .int .u64 a0_1, .int .u64 a0_2, .int .u64 a0_3, .bool false] 58 (0, 0)) (by (with_reducible repeat (first | refine blk_drewN ?_ _ | refine blk_drew ?_ | refine blk_alloc ?_ _)); exact BK113.out) hb); have n1_ := Aside0.mk (below_step (by repeat (first | (with_reducible first | exact HB.out | apply below_alloc | apply pw_below_drewN | apply below_drew1 | refine below_set ?_ GE113.out) | exact HB.out)) hb); have n2_ := Aside0.mk (hbox); have n3_ := Aside0.mk ((by rw [hg]; exact (below_size (by repeat (first | (with_reducible first | exact HB.out | apply below_alloc | apply pw_below_drewN | apply below_drew1 | refine below_set ?_ GE113.out) | exact HB.out))) : w.heap.size ≤ gb114)); have n4_ := Aside0.mk ((by rw [hg]; exact (below_size (by repeat (first | (with_reducible first | exact HB.out | apply below_alloc | apply pw_below_drewN | apply below_drew1 | refine below_set ?_ GE113.out) | exact HB.out))) : w.heap.size ≤ gb114)); have n5_ := Aside0.mk ((by rw [hg]; exact Nat.ne_of_lt (blk_lt (g := gb113) (o := .cells #[.int .u64 a0_0, .int .u64 a0_1, .int .u64 a0_2, .int .u64 a0_3, .bool false] 58 (0, 0)) (by (with_reducible repeat (first | refine blk_drewN ?_ _ | refine blk_drew ?_ | refine blk_alloc ?_ _)); exact BK113.out)) : gb113 ≠ gb114)); have n6_ := Aside0.mk ((by rw [hg]; exact Nat.ne_of_gt (blk_lt (g := gb113) (o := .cells #[.int .u64 a0_0, .int .u64 a0_1, .int .u64 a0_2, .int .u64 a0_3, .bool false] 58 (0, 0)) (by (with_reducible repeat (first | refine blk_drewN ?_ _ | refine blk_drew ?_ | refine blk_alloc ?_ _)); exact BK113.out)) : gb114 ≠ gb113)); clear BK113; clear HB; have BK113 := n0_; have HB := n1_; have BK114 := n2_; have GW114 := n3_; have GE114 := n4_; have NB113_114 := n5_; have NB114_113 := n6_; clear n0_ n1_ n2_ n3_ n4_ n5_ n6_; clear hb hbox hg; have hnb34 := NB113_114.out; have hnc34 := NB114_113.out; have hcz35_0 : w33.cell? ⟨gb113, 0, none⟩ = some (.int .u64 a0_0) := (blk_cell BK113.out 0).trans rfl; have hcz35_1 : w33.cell? ⟨gb113, 1, none⟩ = some (.int .u64 a0_1) := (blk_cell BK113.out 1).trans rfl; have hcz35_2 : w33.cell? ⟨gb113, 2, none⟩ = some (.int .u64 a0_2) := (blk_cell BK113.out 2).trans rfl; have hcz35_3 : w33.cell? ⟨gb113, 3, none⟩ = some (.int .u64 a0_3) := (blk_cell BK113.out 3).trans rfl; have hcz35_4 : w33.cell? ⟨gb113, 4, none⟩ = some (.bool false) := (blk_cell BK113.out 4).trans rfl; have hfz35_0 := blk_frozen BK113.out 0; have hfz35_1 := blk_frozen BK113.out 1; have hfz35_2 := blk_frozen BK113.out 2; have hfz35_3 := blk_frozen BK113.out 3; have hfz35_4 := blk_frozen BK113.out 4; have hcz36_0 : w33.cell? ⟨gb114, 0, none⟩ = some (.int .u64 0) := (blk_cell BK114.out 0).trans rfl; have hcz36_1 : w33.cell? ⟨gb114, 1, none⟩ = some (.int .u64 0) := (blk_cell BK114.out 1).trans rfl; have hcz36_2 : w33.cell? ⟨gb114, 2, none⟩ = some (.int .u64 0) := (blk_cell BK114.out 2).trans rfl; have hcz36_3 : w33.cell? ⟨gb114, 3, none⟩ = some (.int .u64 0) := (blk_cell BK114.out 3).trans rfl; have hcz36_4 : w33.cell? ⟨gb114, 4, none⟩ = some (.bool false) := (blk_cell BK114.out 4).trans rfl; have hfz36_0 := blk_frozen BK114.out 0; have hfz36_1 := blk_frozen BK114.out 1; have hfz36_2 := blk_frozen BK114.out 2; have hfz36_3 := blk_frozen BK114.out 3; have hfz36_4 := blk_frozen BK114.out 4))
    refine bodyPost_ret (results_cell_row rfl _ _ gb114 58 #[.int .u64 ji5, .int .u64 ji5, .int .u64 ji5, .int .u64 (IntKind.u64.wrap (Int.tdiv (ji5) 2)), .bool true] (0, 0) _ rfl (by (with_reducible repeat (first | refine blk_drewN ?_ _ | refine blk_drew ?_ | refine blk_alloc ?_ _)); refine blk_put (cs := #[.int .u64 ji5, .int .u64 ji5, .int .u64 ji5, .int .u64 (IntKind.u64.wrap (Int.tdiv (ji5) 2)), .bool false]) ?_ 4 _ rfl; (with_reducible repeat (first | refine blk_drewN ?_ _ | refine blk_drew ?_ | refine blk_alloc ?_ _)); refine blk_put (cs := #[.int .u64 ji5, .int .u64 ji5, .int .u64 ji5, .int .u64 0, .bool false]) ?_ 3 _ rfl; (with_reducible repeat (first | refine blk_drewN ?_ _ | refine blk_drew ?_ | refine blk_alloc ?_ _)); refine blk_put (cs := #[.int .u64 ji5, .int .u64 ji5, .int .u64 0, .int .u64 0, .bool false]) ?_ 2 _ rfl; (with_reducible repeat (first | refine blk_drewN ?_ _ | refine blk_drew ?_ | refine blk_alloc ?_ _)); refine blk_put (cs := #[.int .u64 ji5, .int .u64 0, .int .u64 0, .int .u64 0, .bool false]) ?_ 1 _ rfl; (with_reducible repeat (first | refine blk_drewN ?_ _ | refine blk_drew ?_ | refine blk_alloc ?_ _)); refine blk_put (cs := #[.int .u64 0, .int .u64 0, .int .u64 0, .int .u64 0, .bool false]) ?_ 0 _ rfl; (with_reducible repeat (first | refine blk_drewN ?_ _ | refine blk_drew ?_ | refine blk_alloc ?_ _)); exact BK114.out) Try.underlying58 rfl (by kernel_rfl)) rfl ?_
    exact ⟨by first | rfl | (simp [errW_none, errW_some] <;> rfl) | (simp only [← hji5]; first | rfl | (simp [errW_none, errW_some] <;> rfl)) | (simp [*, errW_none, errW_some] <;> rfl), by repeat (first | (with_reducible first | exact HB.out | apply below_alloc | apply pw_below_drewN | apply below_drew1 | refine below_set ?_ GE113.out | refine below_set ?_ GE114.out) | exact HB.out)⟩

-- NOT PRINTED: function 28 (loss_Ledger_LostAt)

-- NOT PRINTED: function 33 (loss_Packet)

-- NOT PRINTED: function 29 (loss_Ledger_List)

-- NOT PRINTED: function 7 (binnaclelaw19_LossTimes)

end Go.Proofs.Ytclmnpdabnogkaa.PLossTimes
