/- Clone: an event with rows of its own. Condition: no row is long. -/
import Derived.Test.YtclmnpdabnogkaaEvCalls
import Derived.SizedLaws
import Derived.Lib.Hide
import Derived.WalkKit
import Derived.OpenShut
namespace Go.Proofs.Ytclmnpdabnogkaa.EvClone
open Go.RowKit Go.Proofs.Ytclmnpdabnogkaa.PEventChecks Go.Proofs.YtclmnpdabnogkaaW.PrintWords Go.Proofs.YtclmnpdabnogkaaW.PrintLast Go.Proofs.YtclmnpdabnogkaaW.PrintMore

theorem info36 : (Try.prog.info? 36).map (fun i => (i.zero, i.size, i.bytes)) = some (some (.int .u64 0), 1, 8) := by kernel_rfl
theorem info5 : (Try.prog.info? 5).map (fun i => (i.zero, i.size, i.bytes)) = some (some (.int .u8 0), 1, 1) := by kernel_rfl

/-- What a call answers whose one named result is a struct in a block. -/
theorem results_one {P : Program} {fn : Func} {p : Tmp} {ty : TypeId} (h : fn.results = #[.cell p ty]) (tmps : Array Value) (w : World) (g : Nat) (t : TypeId) (cs : Array Value) (fr : Nat × Nat) (d : TypeDesc)
    (hp : tmps.getD p undef = .pointer (some ⟨g, 0, none⟩)) (hg : w.heap[g]? = some (.cells cs t fr))
    (hu : P.underlying ty = some d) (hd : (match d with | .struct _ | .array _ _ => true | _ => false) = true) (hi : (P.info? ty).map (·.size) = some cs.size) :
    (results fn tmps).run P w = .ok (.agg cs) w := by
  have hp' : tmps[p]?.getD undef = .pointer (some ⟨g, 0, none⟩) := by simpa using hp
  simp [results, h, hp', asAddr, run_loadVar_row w g t ty cs fr d hg hu hd hi]
theorem alloc_size (w : World) (o : Obj) : (w.alloc o).heap.size = w.heap.size + 1 := by rw [World.alloc]; simp

set_option maxRecDepth 100000 in
set_option maxHeartbeats 2000000 in
theorem clone_calls (k at' : Int) (A2 A3 : Option Addr) (c2 c3 : Nat) (l2 l3 : List Int) (w : World) (h2 : (Kd.int .u64).C w A2 l2.length l2) (h3 : (Kd.int .u8).C w A3 l3.length l3) (b2 : l2.length ≤ 1000) (b3 : l3.length ≤ 1000) :
    Calls Try.prog 14 #[.agg #[.int .u8 k, .int .u64 at', .slice A2 l2.length c2, .slice A3 l3.length c3]] w fun e w' => ∃ v2 v3, e = .returned (.agg #[.int .u8 k, .int .u64 at', v2, v3]) ∧ (Kd.int .u64).Q 36 w' w.heap.size (fun _ => True) v2 l2 ∧ (Kd.int .u8).Q 5 w' w.heap.size (fun _ => True) v3 l3 ∧ Below w.heap.size w w' := by
  have H2 := Lib.hid h2
  have H3 := Lib.hid h3
  clear h2 h3
  go_enter Try.func14, Try.ntmps14
  go_upto_region 1 with (fail)
  have hb1 := below_alloc (below_alloc (Below.refl w.heap.size w) (.cells #[.int .u8 k, .int .u64 at', .slice A2 l2.length c2, .slice A3 l3.length c3] 40)) (.cells #[.int .u8 0, .int .u64 0, .slice none 0 0, .slice none 0 0] 40)
  have k1 : (((w.alloc (.cells #[.int .u8 k, .int .u64 at', .slice A2 l2.length c2, .slice A3 l3.length c3] 40)).alloc (.cells #[.int .u8 0, .int .u64 0, .slice none 0 0, .slice none 0 0] 40)).heap[w.heap.size]?) = some (.cells #[.int .u8 k, .int .u64 at', .slice A2 l2.length c2, .slice A3 l3.length c3] 40) := blk_alloc (blk_new w _) _
  have k2 : (((w.alloc (.cells #[.int .u8 k, .int .u64 at', .slice A2 l2.length c2, .slice A3 l3.length c3] 40)).alloc (.cells #[.int .u8 0, .int .u64 0, .slice none 0 0, .slice none 0 0] 40)).heap[w.heap.size + 1]?) = some (.cells #[.int .u8 0, .int .u64 0, .slice none 0 0, .slice none 0 0] 40) := by
    have h := blk_new (w.alloc (.cells #[.int .u8 k, .int .u64 at', .slice A2 l2.length c2, .slice A3 l3.length c3] 40)) (.cells #[.int .u8 0, .int .u64 0, .slice none 0 0, .slice none 0 0] 40)
    rw [alloc_size] at h
    exact h
  generalize (w.alloc (.cells #[.int .u8 k, .int .u64 at', .slice A2 l2.length c2, .slice A3 l3.length c3] 40)).alloc (.cells #[.int .u8 0, .int .u64 0, .slice none 0 0, .slice none 0 0] 40) = w1 at *
  have HB := Lib.hid hb1
  have K1 := Lib.hid k1
  have K2 := Lib.hid k2
  clear hb1 k1 k2
  have cB := blk_cell K1.out
  have g2 := cB 2
  simp at g2
  clear cB
  go_upto_region 2 with (first | ((with_reducible refine gate_dst (N := 5) rfl ?_); refine Kd.R_append_rows (Kd.int .u64) (w0 := w) w.heap.size rfl (.const (.slice none 0 0)) (.tmp 4) 37 36 (.int .u64 0) 8 rfl Try.underlying37 info36 rfl (by decide) (by decide) (.slice none 0 0) [] l2 A2 l2.length c2 (fun _ => True) (fun _ => False) rfl (by first | (go_simp; done) | (go_simp; rfl)) (Kd.R_nil _ _ _ _ _) (Kd.C_below H2.out HB.out) (fun _ _ h => h) (fun _ hk => hk.elim) (fun _ _ => trivial) HB.out HB.out.size (by simp only [List.length_nil, Nat.zero_add]; omega) ?_; intro va wn hRa hbn hgn _; rw [List.nil_append] at hRa; obtain ⟨Aa, ca, rfl, _, _⟩ := Kd.R_reads hRa;  have k1 := blk_grown K1.out hgn (by simp [Value.ownBlock]); have k2 := blk_grown K2.out hgn (by simp [Value.ownBlock]); clear HB K1 K2 g2; have HB := Lib.hid hbn; have K1 := Lib.hid k1; have K2 := Lib.hid k2; have HRa := Lib.hid hRa; have cB := blk_cell K1.out; have g2 := cB 2; simp at g2; have f2 := blk_frozen K1.out 2; clear cB k1 k2 hgn hbn hRa))
  have hs3 := Kd.Q_set (Kd.Q_of_R HRa.out) K1.out (by intro q hq; simp [Kd.int, Kd.scalar] at hq; omega) 2 (.slice Aa l2.length ca)
  have k1 := blk_put K1.out 2 (.slice Aa l2.length ca) rfl
  have k2 := (Below.heap_setCell wn ⟨w.heap.size, 2, none⟩ (.slice Aa l2.length ca) (w.heap.size + 1) (by simp)).trans K2.out
  have hb3 := below_set HB.out (Nat.le_refl _) (j := 2) (v := .slice Aa l2.length ca)
  clear g2 f2 K1 K2 HB HRa
  generalize wn.setCell ⟨w.heap.size, 2, none⟩ (.slice Aa l2.length ca) = w3 at *
  have HB := Lib.hid hb3
  have K1 := Lib.hid k1
  have K2 := Lib.hid k2
  have HQ2 := Lib.hid hs3
  have cB := blk_cell K1.out
  have g2 := cB 3
  simp at g2
  clear cB hb3 k1 k2 hs3
  go_upto_region 3 with (first | ((with_reducible refine gate_dst (N := 9) rfl ?_); refine Kd.R_append_rows (Kd.int .u8) (w0 := w) w.heap.size rfl (.const (.slice none 0 0)) (.tmp 8) 38 5 (.int .u8 0) 1 rfl Try.underlying38 info5 rfl (by decide) (by decide) (.slice none 0 0) [] l3 A3 l3.length c3 (fun _ => True) (fun _ => False) rfl (by first | (go_simp; done) | (go_simp; rfl)) (Kd.R_nil _ _ _ _ _) (Kd.C_below H3.out HB.out) (fun _ _ h => h) (fun _ hk => hk.elim) (fun _ _ => trivial) HB.out HB.out.size (by simp only [List.length_nil, Nat.zero_add]; omega) ?_; intro vb wn hRb hbn hgn _; rw [List.nil_append] at hRb; have k1 := blk_grown K1.out hgn (by simp [Value.ownBlock]); have k2 := blk_grown K2.out hgn (by simp [Value.ownBlock]); have q2 := Kd.Q_grown HQ2.out hgn (by simp [Value.ownBlock]); clear HB K1 K2 g2 HQ2; have HQ2 := Lib.hid q2; have HB := Lib.hid hbn; have K1 := Lib.hid k1; have K2 := Lib.hid k2; obtain ⟨Ab, cb, rfl, _, _⟩ := Kd.R_reads hRb; have HRb := Lib.hid hRb; have cB := blk_cell K1.out; have g2 := cB 3; simp at g2; have f2 := blk_frozen K1.out 3; clear cB k1 k2 hgn hbn hRb q2))
  have ht : ∀ q, q ∈ 36 :: (Kd.int .u64).E → q ≠ 40 := by intro q hq; simp [Kd.int, Kd.scalar] at hq; omega
  have ht' : ∀ q, q ∈ 5 :: (Kd.int .u8).E → q ≠ 40 := by intro q hq; simp [Kd.int, Kd.scalar] at hq; omega
  have hs3 := Kd.Q_set (Kd.Q_of_R HRb.out) K1.out ht' 3 (.slice Ab l3.length cb)
  have hs2 := Kd.Q_set HQ2.out K1.out ht 3 (.slice Ab l3.length cb)
  have k1 := blk_put K1.out 3 (.slice Ab l3.length cb) rfl
  have k2 := (Below.heap_setCell wn ⟨w.heap.size, 3, none⟩ (.slice Ab l3.length cb) (w.heap.size + 1) (by simp)).trans K2.out
  have hb3 := below_set HB.out (Nat.le_refl _) (j := 3) (v := .slice Ab l3.length cb)
  clear g2 f2 K1 K2 HB HRb HQ2
  generalize wn.setCell ⟨w.heap.size, 3, none⟩ (.slice Ab l3.length cb) = w4 at *
  have HB := Lib.hid hb3
  have K1 := Lib.hid k1
  have K2 := Lib.hid k2
  have HQ2 := Lib.hid hs2
  have HQ3 := Lib.hid hs3
  have cB := blk_cell K1.out
  have g0 := cB 0; have g1 := cB 1; have g2 := cB 2; have g3 := cB 3
  simp at g0 g1 g2 g3
  clear cB hb3 k1 k2 hs3 hs2
  have cB := blk_cell K2.out
  have r0 := cB 0; have r1 := cB 1; have r2 := cB 2; have r3 := cB 3
  simp at r0 r1 r2 r3
  have f0 := blk_frozen K2.out 0; have f1 := blk_frozen K2.out 1; have f2 := blk_frozen K2.out 2; have f3 := blk_frozen K2.out 3
  clear cB
  go_wp2_with fail
  have hblk := blk_put (blk_put (blk_put (blk_put K2.out 0 (.int .u8 k) rfl) 1 (.int .u64 at') rfl) 2 (.slice Aa l2.length ca) rfl) 3 (.slice Ab l3.length cb) rfl
  refine bodyPost_ret (results_one (P := Try.prog) (p := 2) rfl _ _ (w.heap.size + 1) 40 #[.int .u8 k, .int .u64 at', .slice Aa l2.length ca, .slice Ab l3.length cb] (0, 0) _ rfl hblk Try.underlying40 rfl (by kernel_rfl)) rfl ?_
  have b1 := blk_put K2.out 0 (.int .u8 k) rfl
  have b2 := blk_put b1 1 (.int .u64 at') rfl
  have b3 := blk_put b2 2 (.slice Aa l2.length ca) rfl
  refine ⟨_, _, rfl, ?_, ?_, ?_⟩
  · exact Kd.Q_set (Kd.Q_set (Kd.Q_set (Kd.Q_set HQ2.out K2.out ht 0 _) b1 ht 1 _) b2 ht 2 _) b3 ht 3 _
  · exact Kd.Q_set (Kd.Q_set (Kd.Q_set (Kd.Q_set HQ3.out K2.out ht' 0 _) b1 ht' 1 _) b2 ht' 2 _) b3 ht' 3 _
  · exact below_set (below_set (below_set (below_set HB.out (by omega)) (by omega)) (by omega)) (by omega)
end Go.Proofs.Ytclmnpdabnogkaa.EvClone
