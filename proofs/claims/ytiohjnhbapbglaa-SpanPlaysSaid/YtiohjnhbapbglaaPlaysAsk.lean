/- What the questions behind the calls answer, of the set and of the reference's ranges. Conditions: as there. -/
import Derived.Test.YtiohjnhbapbglaaPlaysRef
import Derived.Test.YtiohjnhbapbglaaSpCls
namespace Go.Proofs.Ytiohjnhbapbglaa.PlaysAsk
open Go.RowKit Go.Proofs.Ytiohjnhbapbglaa.PSpanPlays Go.Proofs.Ytiohjnhbapbglaa.SpPure Go.Proofs.Ytiohjnhbapbglaa.SpLaw Go.Proofs.Ytiohjnhbapbglaa.SpSet Go.Proofs.Ytiohjnhbapbglaa.SpFind Go.Proofs.Ytiohjnhbapbglaa.SpAsk Go.Proofs.Ytiohjnhbapbglaa.SpCut Go.Proofs.Ytiohjnhbapbglaa.PartsPure Go.Proofs.Ytiohjnhbapbglaa.AsksPure Go.Proofs.Ytiohjnhbapbglaa.SpCount Go.Proofs.Ytiohjnhbapbglaa.PlaysPure Go.Proofs.Ytiohjnhbapbglaa.PlaysRef Go.Proofs.YtiohjnhbapbglaaW.PrintWords Go.Proofs.YtiohjnhbapbglaaW.PrintLast Go.Proofs.YtiohjnhbapbglaaW.PrintMore

def RS (x : S28) : Obj := .cells #[.int .u64 x.f0, .int .u64 x.f1] 45
theorem rs_cells {w : World} {g : Nat} {x : S28} (h : w.heap[g]? = some (RS x)) : w.cell? ⟨g, 0, none⟩ = some (.int .u64 x.f0) ∧ w.cell? ⟨g, 1, none⟩ = some (.int .u64 x.f1) := ⟨blk_cell h 0, blk_cell h 1⟩
theorem row45 {w : World} {base : Nat} {ok : Nat → Prop} {r o c n : Nat} {l : List S28} (h : k45.Q 45 w base ok (.slice (some ⟨r, o, none⟩) n c) (l.map toS)) (j : Nat) (hj : j < n) :
    w.cell? ⟨r, o + j * 2, none⟩ = some (.int .u64 (rd_T28 l j).f0) ∧ w.cell? ⟨r, o + j * 2 + 1, none⟩ = some (.int .u64 (rd_T28 l j).f1) := by
  obtain ⟨hn, _, hC⟩ := Kd.Q_reads' h
  have hl : j < l.length := by rw [List.length_map] at hn; omega
  obtain ⟨ad, e, hc⟩ := at_T45 hC (j : Int) (by omega) (by omega)
  injection e with e
  subst e
  rw [add_at, Int.toNat_natCast, rd_map l j hl] at hc
  exact hc
/-- The set and the reference's ranges, when the calls are done. -/
structure PS (g : Nat) (w0 wx : World) (lim : Int) (B : Option Addr) (d : Nat) (A : Option Addr) (cm : Nat) (l : List S28) : Prop where
  s : St wx g g B d l lim
  q : k45.Q 45 wx g (fun _ => True) (.slice A l.length cm) (l.map toS)
  nf : NF l
  bd : Bd l
  b : Below g w0 wx
section
variable {g : Nat} {w0 w wx wy : World} {lim : Int} {B : Option Addr} {d : Nat} {A : Option Addr} {cm : Nat} {l : List S28} {M : List S45}
theorem of_PR (h : PR g w0 wx lim B d A cm l M) : PS g w0 wx lim B d A cm l := by
  have hq := h.q
  rw [h.m, List.length_map] at hq
  exact ⟨h.s, hq, h.nf, h.bd, h.b⟩
theorem PS.below (h : PS g w0 wx lim B d A cm l) (hb : Below wx.heap.size wx wy) : PS g w0 wy lim B d A cm l :=
  ⟨h.s.below hb, Kd.Q_below h.q hb, h.nf, h.bd, h.b.trans (hb.mono (Nat.le_of_lt (Nat.lt_of_le_of_lt h.s.old h.s.lt)))⟩
theorem PS.le (h : PS g w0 wx lim B d A cm l) : g ≤ wx.heap.size := Nat.le_of_lt (Nat.lt_of_le_of_lt h.s.old h.s.lt)
theorem count_c (h : PS g w0 w lim B d A cm l) (hl : l.length ≤ 1000) {ct : Int} (hc : IntKind.u64.wrap (cnt l) = ct) :
    Calls Try.prog 21 #[.pointer (some ⟨g, 0, none⟩)] w fun e w' => e = .returned (.int .u64 ct) ∧ Below w.heap.size w w' := by
  subst hc; exact count_calls h.s hl
theorem cov_c (h : PS g w0 w lim B d A cm l) (hl : l.length ≤ 1000) (a b : Int) {cb : Bool} (hc : covB l ⟨a, b⟩ = cb) :
    Calls Try.prog 20 #[.pointer (some ⟨g, 0, none⟩), .agg #[.int .u64 a, .int .u64 b]] w fun e w' => e = .returned (.bool cb) ∧ Below w.heap.size w w' := by
  subst hc; exact cov_calls h.s ⟨a, b⟩ h.nf hl
theorem has_c (h : PS g w0 w lim B d A cm l) (hl : l.length ≤ 1000) (n : Int) {cb : Bool} (hc : hasB l n = cb) :
    Calls Try.prog 22 #[.pointer (some ⟨g, 0, none⟩), .int .u64 n] w fun e w' => e = .returned (.bool cb) ∧ Below w.heap.size w w' := by
  subst hc; exact hasb_calls h.s n h.nf hl
theorem rcov_c (h : PS g w0 w lim B d A cm l) (hl : l.length ≤ 1000) (a b : Int) {cb : Bool} (hc : covB l ⟨a, b⟩ = cb) :
    Calls Try.prog 30 #[.slice A l.length cm, .agg #[.int .u64 a, .int .u64 b]] w fun e w' => e = .returned (.bool cb) ∧ Below w.heap.size w w' := by
  subst hc
  have h1 := (Kd.Q_reads' h.q).2.2
  have h2 := (Kd.Q_reads' h.q).2.1
  have h3 := binnacleref07_Covers.calls (l.length + 1) A cm (l.map toS) a b (covB l ⟨a, b⟩) w h1 (by rw [List.length_map]; exact h2) (cov_f l hl ⟨a, b⟩)
  rw [List.length_map] at h3
  exact h3
theorem rhas_c (h : PS g w0 w lim B d A cm l) (hl : l.length ≤ 1000) (n : Int) {cb : Bool} (hc : hasB l n = cb) :
    Calls Try.prog 32 #[.slice A l.length cm, .int .u64 n] w fun e w' => e = .returned (.bool cb) ∧ Below w.heap.size w w' := by
  subst hc
  have h1 := (Kd.Q_reads' h.q).2.2
  have h2 := (Kd.Q_reads' h.q).2.1
  have h3 := binnacleref07_Has.calls (l.length + 1) A cm (l.map toS) n (hasB l n) w h1 (by rw [List.length_map]; exact h2) (has_f l hl n)
  rw [List.length_map] at h3
  exact h3.mono (fun e w' h => ⟨h.1, h.2.below⟩)
theorem ref_c (a b : Int) (w : World) : Calls Try.prog 24 #[.agg #[.int .u64 a, .int .u64 b]] w fun e w' => e = .returned (.agg #[.int .u64 a, .int .u64 b]) ∧ Below w.heap.size w w' := ref_calls ⟨a, b⟩ w
end
theorem keepB {W w w' : World} (hb : Below w.heap.size w w') (h : Below W.heap.size W w) : Below W.heap.size W w' := h.trans (hb.mono h.size)
theorem keepS2 {W w w' : World} {p0 p1 : Addr} {x0 x1 : Value} (hb : Below w.heap.size w w') (h : Below W.heap.size W w ∧ w.cell? p0 = some x0 ∧ w.cell? p1 = some x1) :
    Below W.heap.size W w' ∧ w'.cell? p0 = some x0 ∧ w'.cell? p1 = some x1 := ⟨keepB hb h.1, pw_cell_below hb h.2.1, pw_cell_below hb h.2.2⟩
theorem keepS4 {W w w' : World} {p0 p1 p2 p3 : Addr} {x0 x1 x2 x3 : Value} (hb : Below w.heap.size w w') (h : Below W.heap.size W w ∧ w.cell? p0 = some x0 ∧ w.cell? p1 = some x1 ∧ w.cell? p2 = some x2 ∧ w.cell? p3 = some x3) :
    Below W.heap.size W w' ∧ w'.cell? p0 = some x0 ∧ w'.cell? p1 = some x1 ∧ w'.cell? p2 = some x2 ∧ w'.cell? p3 = some x3 := ⟨keepB hb h.1, keep4 hb h.2⟩
theorem keepS6 {W w w' : World} {p0 p1 p2 p3 p4 p5 : Addr} {x0 x1 x2 x3 x4 x5 : Value} (hb : Below w.heap.size w w') (h : Below W.heap.size W w ∧ w.cell? p0 = some x0 ∧ w.cell? p1 = some x1 ∧ w.cell? p2 = some x2 ∧ w.cell? p3 = some x3 ∧ w.cell? p4 = some x4 ∧ w.cell? p5 = some x5) :
    Below W.heap.size W w' ∧ w'.cell? p0 = some x0 ∧ w'.cell? p1 = some x1 ∧ w'.cell? p2 = some x2 ∧ w'.cell? p3 = some x3 ∧ w'.cell? p4 = some x4 ∧ w'.cell? p5 = some x5 := ⟨keepB hb h.1, pw_cell_below hb h.2.1, pw_cell_below hb h.2.2.1, keep4 hb h.2.2.2⟩
theorem info23 : (Try.prog.info? 23).map (fun i => (i.zero, i.size, i.bytes)) = some (some (.int .u64 0), 1, 8) := by kernel_rfl
/-- A row that lies in a block of its own, from its start. -/
theorem row_lit {α : Type} {d : Kd α} {w : World} {g t : Nat} {cells : List Value} {ps : List α} (hb : w.heap[g]? = some (.cells cells.toArray t (0, 0))) (hr : Reps (d.K w) d.sz ps cells) (hn : ps.length ≤ 9223372036854775807) :
    d.C w (some ⟨g, 0, none⟩) ps.length ps := by
  refine ⟨rfl, hn, fun _ => ⟨_, rfl, fun j p hj => ⟨(cells.drop (j * d.sz)).take d.sz, ?_, hr.2 j p hj, fun i u hi => ?_⟩⟩⟩
  · obtain ⟨hjl, _⟩ := List.getElem?_eq_some_iff.1 hj
    have h1 := hr.1
    have h2 : (j + 1) * d.sz ≤ ps.length * d.sz := Nat.mul_le_mul_right _ hjl
    rw [Nat.add_mul, Nat.one_mul] at h2
    rw [List.length_take, List.length_drop]
    omega
  · rw [add_at, blk_cell hb]
    rw [List.getElem?_take] at hi
    split at hi
    · rw [List.getElem?_drop] at hi
      simpa using hi
    · cases hi
theorem four (w : World) : (Kd.int .u64).C (w.alloc (.cells #[.int .u64 0, .int .u64 5, .int .u64 30, .int .u64 59] 23)) (some ⟨w.heap.size, 0, none⟩) 4 [0, 5, 30, 59] :=
  row_lit (d := Kd.int .u64) (blk_new w (.cells #[.int .u64 0, .int .u64 5, .int .u64 30, .int .u64 59] 23))
    (((((Reps.none ((Kd.int .u64).K _) (Kd.int .u64).sz).snoc (rfl : (Kd.int .u64).K _ 0 [.int .u64 0]) rfl).snoc (rfl : (Kd.int .u64).K _ 5 [.int .u64 5]) rfl).snoc (rfl : (Kd.int .u64).K _ 30 [.int .u64 30]) rfl).snoc (rfl : (Kd.int .u64).K _ 59 [.int .u64 59]) rfl) (by simp)
theorem last_u {w w' : World} {l : List S28} {e : Ending} (h : SpFirst.LSP w l e w') : Below w.heap.size w w' ∧ ∃ (r : S28) (b : Bool), e = .returned (.tuple #[.agg #[.int .u64 r.f0, .int .u64 r.f1], .bool b]) ∧
    ((l = [] ∧ b = false) ∨ ∃ i : Nat, l.length = i + 1 ∧ b = true ∧ r = rd_T28 l i) := by
  obtain ⟨hb, ⟨h1, rfl⟩ | ⟨i, hi, rfl⟩⟩ := h
  · exact ⟨hb, ⟨0, 0⟩, false, rfl, .inl ⟨h1, rfl⟩⟩
  · exact ⟨hb, rd_T28 l i, true, rfl, .inr ⟨i, hi, rfl, rfl⟩⟩
theorem first_u {w w' : World} {l : List S28} {n : Int} {e : Ending} (h : SpFirst.FSP w l n e w') : Below w.heap.size w w' ∧ ∃ (r : S28) (b : Bool), e = .returned (.tuple #[.agg #[.int .u64 r.f0, .int .u64 r.f1], .bool b]) ∧
    ((b = true ∧ firstR l n = some r) ∨ (b = false ∧ r = ⟨0, 0⟩ ∧ firstR l n = none)) := by
  obtain ⟨hb, i, hi, ⟨h1, rfl⟩ | ⟨h1, rfl⟩⟩ := h
  · exact ⟨hb, ⟨0, 0⟩, false, rfl, .inr ⟨rfl, rfl, by rw [first_rd l n i hi, if_neg (by omega)]⟩⟩
  · exact ⟨hb, ⟨mx (rd_T28 l i).f0 n, (rd_T28 l i).f1⟩, true, rfl, .inl ⟨rfl, by rw [first_rd l n i hi, if_pos h1]⟩⟩
theorem firstR_gt : ∀ {l : List S28} {n : Int} {r : S28}, firstR l n = some r → r.f1 > n
  | x :: l, n, r, h => by
    unfold firstR at h
    split at h
    · injection h with h; subst h; assumption
    · exact firstR_gt h
  | [], _, _, h => by cases h
theorem firstR_drop (l : List S28) (n : Int) (k : Nat) (h : k < l.length) : firstR (l.drop k) n = if (rd_T28 l k).f1 > n then some ⟨mx (rd_T28 l k).f0 n, (rd_T28 l k).f1⟩ else firstR (l.drop (k + 1)) n := by
  rw [drop_rd l k h]; rfl
theorem rd_in (ns : List Int) (j : Nat) (h : j < ns.length) : rd ns (j : Int) ∈ ns := by
  unfold rd
  rw [Int.toNat_natCast, List.getD_eq_getElem?_getD, List.getElem?_eq_getElem h]
  exact List.getElem_mem h
end Go.Proofs.Ytiohjnhbapbglaa.PlaysAsk
