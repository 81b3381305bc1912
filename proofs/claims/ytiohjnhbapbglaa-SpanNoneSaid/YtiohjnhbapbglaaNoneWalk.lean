/- The call of the law SpanNone answers true for every input, and nothing that was there has changed. No condition. -/
import Derived.Test.YtiohjnhbapbglaaSpAsk
namespace Go.Proofs.Ytiohjnhbapbglaa.NoneWalk
open Go.RowKit Go.Proofs.Ytiohjnhbapbglaa.PSpanPlays Go.Proofs.Ytiohjnhbapbglaa.SpSet Go.Proofs.YtiohjnhbapbglaaW.PrintWords Go.Proofs.YtiohjnhbapbglaaW.PrintLast Go.Proofs.YtiohjnhbapbglaaW.PrintMore

set_option maxRecDepth 100000 in
theorem nil_first (n : Int) (w : World) : Calls Try.prog 31 #[.pointer none, .int .u64 n] w fun e w' => e = .returned (.tuple #[.agg #[.int .u64 0, .int .u64 0], .bool false]) ∧ Below w.heap.size w w' := by
  have k1 := blk_new w (RG ⟨0, 0⟩)
  have hb := below_alloc (Below.refl w.heap.size w) (RG ⟨0, 0⟩)
  have u0 := blk_frozen k1 0
  have u1 := blk_frozen k1 1
  go_enter Try.func31, Try.ntmps31
  go_upto_region 1 with (fail)
  show Code.wp _ _ _ _ (w.alloc (RG ⟨0, 0⟩))
  generalize w.alloc (RG ⟨0, 0⟩) = w1 at *
  have K1 := Lib.hid (blk_put (blk_put k1 0 (.int .u64 0) rfl) 1 (.int .u64 0) rfl)
  have HB := Lib.hid ((hb.setCell (p := ⟨w.heap.size, 0, none⟩) (Nat.le_refl _) (.int .u64 0)).setCell (p := ⟨w.heap.size, 1, none⟩) (Nat.le_refl _) (.int .u64 0))
  obtain ⟨a0, a1⟩ := rg_cells k1
  clear k1 hb
  go_wp2_with fail
  refine bodyPost_ret (results_ct (P := Try.prog) (p := 4) (u := 5) rfl _ _ w.heap.size 28 _ (0, 0) _ rfl K1.out Try.underlying28 rfl (by kernel_rfl)) rfl ?_
  exact ⟨rfl, HB.out⟩
set_option maxRecDepth 100000 in
theorem nil_len (w : World) : Calls Try.prog 28 #[.pointer none] w fun e w' => e = .returned (.int .i64 0) ∧ w' = w := by
  go_enter Try.func28, Try.ntmps28
  go_wp2_with fail
  go_ret
  exact ⟨rfl, rfl⟩
set_option maxRecDepth 100000 in
theorem nil_list (w : World) : Calls Try.prog 17 #[.pointer none] w fun e w' => e = .returned (.slice none 0 0) ∧ w' = w := by
  go_enter Try.func17, Try.ntmps17
  go_wp2_with fail
  go_ret
  exact ⟨rfl, rfl⟩
set_option maxRecDepth 100000 in
theorem nil_has (n : Int) (w : World) : Calls Try.prog 22 #[.pointer none, .int .u64 n] w fun e w' => e = .returned (.bool false) ∧ w' = w := by
  go_enter Try.func22, Try.ntmps22
  go_wp2_with fail
  go_ret
  exact ⟨rfl, rfl⟩
set_option maxRecDepth 100000 in
theorem nil_covers (r : S28) (w : World) : Calls Try.prog 20 #[.pointer none, .agg #[.int .u64 r.f0, .int .u64 r.f1]] w fun e w' => e = .returned (.bool false) ∧ Below w.heap.size w w' := by
  have HB := Lib.hid (below_alloc (Below.refl w.heap.size w) (RG r))
  go_enter Try.func20, Try.ntmps20
  go_wp2_with fail
  go_ret
  exact ⟨rfl, HB.out⟩
set_option maxRecDepth 100000 in
theorem nil_add (r : S28) (w : World) : Calls Try.prog 15 #[.pointer none, .agg #[.int .u64 r.f0, .int .u64 r.f1]] w fun e w' => e = .returned (.int .i64 1) ∧ Below w.heap.size w w' := by
  have HB := Lib.hid (below_alloc (Below.refl w.heap.size w) (RG r))
  go_enter Try.func15, Try.ntmps15
  go_wp2_with fail
  go_ret
  exact ⟨rfl, HB.out⟩
set_option maxRecDepth 100000 in
theorem nil_last (r : S28) (w : World) : Calls Try.prog 25 #[.pointer none, .agg #[.int .u64 r.f0, .int .u64 r.f1]] w fun e w' => e = .returned (.int .i64 0) ∧ Below w.heap.size w w' := by
  have HB := Lib.hid (below_alloc (Below.refl w.heap.size w) (RG r))
  go_enter Try.func25, Try.ntmps25
  go_wp2_with fail
  go_ret
  exact ⟨rfl, HB.out⟩
set_option maxRecDepth 100000 in
theorem nil_cut (r : S28) (w : World) : Calls Try.prog 19 #[.pointer none, .agg #[.int .u64 r.f0, .int .u64 r.f1]] w fun e w' => e = .returned (.int .i64 1) ∧ Below w.heap.size w w' := by
  have HB := Lib.hid (below_alloc (Below.refl w.heap.size w) (RG r))
  go_enter Try.func19, Try.ntmps19
  go_wp2_with fail
  go_ret
  exact ⟨rfl, HB.out⟩
set_option maxRecDepth 100000 in
theorem nil_copy (w : World) : Calls Try.prog 18 #[.pointer none] w fun e w' => e = .returned (.pointer none) ∧ w' = w := by
  go_enter Try.func18, Try.ntmps18
  go_wp2_with fail
  go_ret
  exact ⟨rfl, rfl⟩
set_option maxRecDepth 100000 in
theorem nil_count (w : World) : Calls Try.prog 21 #[.pointer none] w fun e w' => e = .returned (.int .u64 0) ∧ Below w.heap.size w w' := by
  go_enter Try.func21, Try.ntmps21
  go_wp2_with fail
  refine (nil_list w).mono ?_
  rintro e w1 ⟨rfl, rfl⟩
  go_wp2_with fail
  refine wp_loop_rounds 1 ?_
  rw [rounds_succ]
  go_wp2_with fail
  go_ret
  exact ⟨rfl, Below.refl _ _⟩
set_option maxRecDepth 100000 in
theorem nil_last2 (w : World) : Calls Try.prog 29 #[.pointer none] w fun e w' => e = .returned (.tuple #[.agg #[.int .u64 0, .int .u64 0], .bool false]) ∧ Below w.heap.size w w' := by
  have k1 := blk_new w (RG ⟨0, 0⟩)
  have hb := below_alloc (Below.refl w.heap.size w) (RG ⟨0, 0⟩)
  have u0 := blk_frozen k1 0
  have u1 := blk_frozen k1 1
  go_enter Try.func29, Try.ntmps29
  go_upto_region 1 with (fail)
  show Code.wp _ _ _ _ (w.alloc (RG ⟨0, 0⟩))
  generalize w.alloc (RG ⟨0, 0⟩) = w1 at *
  have K1 := Lib.hid (blk_put (blk_put k1 0 (.int .u64 0) rfl) 1 (.int .u64 0) rfl)
  have HB := Lib.hid ((hb.setCell (p := ⟨w.heap.size, 0, none⟩) (Nat.le_refl _) (.int .u64 0)).setCell (p := ⟨w.heap.size, 1, none⟩) (Nat.le_refl _) (.int .u64 0))
  obtain ⟨a0, a1⟩ := rg_cells k1
  clear k1 hb
  go_wp2_with fail
  refine (nil_len w1).mono ?_
  rintro e w2 ⟨rfl, rfl⟩
  go_wp2_with fail
  refine bodyPost_ret (results_ct (P := Try.prog) (p := 2) (u := 3) rfl _ _ w.heap.size 28 _ (0, 0) _ rfl K1.out Try.underlying28 rfl (by kernel_rfl)) rfl ?_
  exact ⟨rfl, HB.out⟩

set_option maxRecDepth 100000 in
set_option maxHeartbeats 4000000 in
theorem walk (r : S28) (n : Int) (w : World) : Calls Try.prog 6 #[.agg #[.int .u64 r.f0, .int .u64 r.f1], .int .u64 n] w fun e w' => e = .returned (.bool true) ∧ Below w.heap.size w w' := by
  have k0 := blk_new w (RG r)
  have hb := below_alloc (Below.refl w.heap.size w) (RG r)
  go_enter Try.func6, Try.ntmps6
  go_upto_region 1 with (fail)
  show Code.wp _ _ _ _ (w.alloc (RG r))
  generalize w.alloc (RG r) = w1 at *
  have K := Lib.hid k0
  have HB := Lib.hid hb
  clear k0 hb
  go_wp2_with fail
  refine (SpAsk.awake_calls w1).mono ?_
  rintro e w2 ⟨rfl, hb⟩
  have K2 := Lib.hid (blk_below K.out hb)
  have HB2 := Lib.hid (below_step HB.out hb)
  clear K HB hb
  go_wp2_with fail
  refine (nil_first n w2).mono ?_
  rintro e w3 ⟨rfl, hb⟩
  have hb3 := below_step hb (below_alloc (Below.refl w3.heap.size w3) (RG ⟨0, 0⟩))
  have K3 := Lib.hid (blk_below K2.out hb3)
  have HB3 := Lib.hid (below_step HB2.out hb3)
  clear K2 HB2 hb hb3
  go_upto_region 5 with (fail)
  show Code.wp _ _ _ _ (w3.alloc (RG ⟨0, 0⟩))
  generalize w3.alloc (RG ⟨0, 0⟩) = w4 at *
  go_wp2_with fail
  refine (nil_last2 w4).mono ?_
  rintro e w5 ⟨rfl, hb⟩
  have hb5 := below_step hb (below_alloc (Below.refl w5.heap.size w5) (RG ⟨0, 0⟩))
  have K5 := Lib.hid (blk_below K3.out hb5)
  have HB5 := Lib.hid (below_step HB3.out hb5)
  clear K3 HB3 hb hb5
  go_upto_region 6 with (fail)
  show Code.wp _ _ _ _ (w5.alloc (RG ⟨0, 0⟩))
  generalize w5.alloc (RG ⟨0, 0⟩) = w6 at *
  go_wp2_with fail
  refine (nil_has n w6).mono ?_
  rintro e w7 ⟨rfl, rfl⟩
  obtain ⟨a0, a1⟩ := rg_cells K5.out
  go_wp2_with fail
  refine (nil_covers r w7).mono ?_
  rintro e w8 ⟨rfl, hb⟩
  have K8 := Lib.hid (blk_below K5.out hb)
  have HB8 := Lib.hid (below_step HB5.out hb)
  clear K5 HB5 hb a0 a1
  obtain ⟨a0, a1⟩ := rg_cells K8.out
  go_wp2_with fail
  refine (nil_add r w8).mono ?_
  rintro e w9 ⟨rfl, hb⟩
  have K9 := Lib.hid (blk_below K8.out hb)
  have HB9 := Lib.hid (below_step HB8.out hb)
  clear K8 HB8 hb a0 a1
  obtain ⟨a0, a1⟩ := rg_cells K9.out
  go_wp2_with fail
  refine (nil_last r w9).mono ?_
  rintro e w10 ⟨rfl, hb⟩
  have K10 := Lib.hid (blk_below K9.out hb)
  have HB10 := Lib.hid (below_step HB9.out hb)
  clear K9 HB9 hb a0 a1
  obtain ⟨a0, a1⟩ := rg_cells K10.out
  go_wp2_with fail
  refine (nil_cut r w10).mono ?_
  rintro e w11 ⟨rfl, hb⟩
  have HB11 := Lib.hid (below_step HB10.out hb)
  clear K10 HB10 hb a0 a1
  go_wp2_with fail
  refine (nil_len w11).mono ?_
  rintro e w12 ⟨rfl, rfl⟩
  go_wp2_with fail
  refine (nil_list w12).mono ?_
  rintro e w13 ⟨rfl, rfl⟩
  go_wp2_with fail
  refine (nil_count w13).mono ?_
  rintro e w14 ⟨rfl, hb⟩
  have HB14 := Lib.hid (below_step HB11.out hb)
  clear HB11 hb
  go_wp2_with fail
  refine (nil_copy w14).mono ?_
  rintro e w15 ⟨rfl, rfl⟩
  go_wp2_with fail
  go_ret
  exact ⟨rfl, HB14.out⟩
theorem rowWalk {W : World} (cs : Array Value) (x : S28) (K : k28.K W x cs.toList) (_w : (Lit.int .u64 x.f0).wf = true ∧ (Lit.int .u64 x.f1).wf = true) (n : Int) (_wn : (Lit.int .u64 n).wf = true) :
    Calls Try.prog 6 #[.agg cs, .int .u64 n] W fun e w' => e = .returned (.bool true) ∧ Below W.heap.size W w' := by
  obtain rfl : cs = #[.int .u64 x.f0, .int .u64 x.f1] := Array.toList_inj.1 (k28_open K)
  exact walk x n W
end Go.Proofs.Ytiohjnhbapbglaa.NoneWalk
