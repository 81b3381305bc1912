/- The call of the law CongRoom answers true for every input, and nothing that was there has changed. No condition. -/
import Derived.Test.YtloiihbhpmmaiaaCongLost
import Derived.Test.YtloiihbhpmmaiaaPDropx1
import Derived.SizedLaws
import Derived.Deep.RegionWith
import Derived.BigRegion
import Derived.Deep.RegionHeld3
import Derived.Deep.DeepCutAuto
import Derived.Deep.CutBlock
namespace Go.Proofs.Ytloiihbhpmmaiaa.RoomWalk
open Go.RowKit Go.Proofs.Ytloiihbhpmmaiaa.PCongGrows Go.Proofs.Ytloiihbhpmmaiaa.CongLost Go.Proofs.YtloiihbhpmmaiaaW.PrintWords Go.Proofs.YtloiihbhpmmaiaaW.PrintLast Go.Proofs.YtloiihbhpmmaiaaW.PrintMore
attribute [local go_sem] max2_int min2_int

theorem info24 : (Try.prog.info? 24).map (fun i => (i.zero, i.size, i.bytes)) = some (some (.int .u64 0), 1, 8) := by kernel_rfl

theorem new_calls (w : World) : Calls Try.prog 20 #[] w fun e w' => e = .returned (.agg #[.int .u64 12000, .int .u64 0, .int .u64 16777216, .int .u64 0, .bool false]) ∧ Below w.heap.size w w' :=
  cong_New.calls 12000 0 16777216 0 false w rfl
theorem room_calls (s f a b : Int) (c : Bool) (hs : 0 ≤ s) (hs1 : s < 33554432) (hf : 0 ≤ f) (hfs : f ≤ s) (w : World) :
    Calls Try.prog 21 #[.agg #[.int .u64 s, .int .u64 f, .int .u64 a, .int .u64 b, .bool c]] w fun e w' => e = .returned (.int .u64 (s - f)) ∧ Below w.heap.size w w' := by
  refine cong_Window_Room.calls s f a b c _ w ?_
  unfold cong_Window_Room.f
  have e : mn f s = f := by unfold mn; split <;> omega
  rw [e, u64_id (by omega) (by omega)]
theorem sent_calls (s f a b n : Int) (c : Bool) (hf : 0 ≤ f) (hf1 : f < 33554432) (hn : 0 ≤ n) (hn1 : n ≤ 2000) (w : World) :
    Calls Try.prog 22 #[.agg #[.int .u64 s, .int .u64 f, .int .u64 a, .int .u64 b, .bool c], .int .u64 n] w fun e w' => e = .returned (.agg #[.int .u64 s, .int .u64 (f + n), .int .u64 a, .int .u64 b, .bool c]) ∧ Below w.heap.size w w' := by
  refine cong_Window_Sent.calls s f a b c n _ _ _ _ _ w ?_
  unfold cong_Window_Sent.f
  have e : mn n 16777216 = n := by unfold mn; rw [if_neg (by omega)]
  rw [e, u64_id (by omega) (by omega)]
theorem drop_calls (s f a b n : Int) (c : Bool) (hn : 0 ≤ n) (hf : n ≤ f) (hf1 : f < 33554432) (w : World) :
    Calls Try.prog 41 #[.agg #[.int .u64 s, .int .u64 f, .int .u64 a, .int .u64 b, .bool c], .int .u64 n] w fun e w' => e = .returned (.agg #[.int .u64 s, .int .u64 (f - n), .int .u64 a, .int .u64 b, .bool c]) ∧ Below w.heap.size w w' := by
  refine PDrop.cong_Window_Drop.calls s f a b c n _ _ _ _ _ w ?_
  unfold PDrop.cong_Window_Drop.f PDrop.cong_Window_gone.f
  have e : mn f n = n := by unfold mn; split <;> omega
  rw [e, u64_id (by omega) (by omega)]
  rfl
theorem came_calls (s f a b n t : Int) (c : Bool) (hf : n ≤ f) (hn : 0 ≤ n) (hfs : f < s) (hs : s < 33554432) (w : World) :
    Calls Try.prog 23 #[.agg #[.int .u64 s, .int .u64 f, .int .u64 a, .int .u64 b, .bool c], .int .u64 n, .int .u64 t] w fun e w' => e = .returned (.agg #[.int .u64 s, .int .u64 (f - n), .int .u64 a, .int .u64 b, .bool c]) ∧ Below w.heap.size w w' := by
  refine cong_Window_Came.calls 1 s f a b c n t _ _ _ _ _ w ?_
  unfold cong_Window_Came.f
  rw [gone_f s f a b n c (by omega) (by omega) hn]
  have e : mn f n = n := by unfold mn; split <;> omega
  have hd : (!decide (f ≥ s)) = true := by simp; omega
  simp only [Option.bind_some, e, hd]
  cases c with
  | true =>
    rw [if_pos rfl]
    split
    · rw [cong_Window_Came.j0, if_pos rfl]
    · rw [cong_Window_Came.j0, if_pos rfl]
  | false => rw [if_neg (by decide), cong_Window_Came.j0, if_pos rfl]
theorem lost_calls (s f a b n t now : Int) (c : Bool) (hs : 2400 ≤ s) (hs1 : s < 33554432) (hn : 0 ≤ n) (hf : n ≤ f) (hf1 : f < 33554432) (w : World) :
    Calls Try.prog 40 #[.agg #[.int .u64 s, .int .u64 f, .int .u64 a, .int .u64 b, .bool c], .int .u64 n, .int .u64 t, .int .u64 now] w fun e w' =>
      (∃ s' a' b' c', e = .returned (.agg #[.int .u64 s', .int .u64 (f - n), .int .u64 a', .int .u64 b', .bool c']) ∧ 2400 ≤ s' ∧ s' < 33554432) ∧ Below w.heap.size w w' := by
  have e : mn f n = n := by unfold mn; split <;> omega
  by_cases h : c = true ∧ t ≤ b
  · have := lost_stays s f a b n t now c w (by omega) (by omega) hn h.1 h.2
    rw [e] at this
    exact this.mono fun _ _ ⟨h1, h2⟩ => ⟨⟨s, a, b, c, h1, hs, hs1⟩, h2⟩
  · have := lost_turns s f a b n t now _ c w ⟨by omega, by omega⟩ (by omega) (by omega) hn (fun hc ht => h ⟨hc, ht⟩) rfl
    rw [e] at this
    exact this.mono fun _ _ ⟨h1, h2⟩ => ⟨⟨_, _, _, _, h1, by split <;> omega, by split <;> omega⟩, h2⟩
theorem awake_calls (w : World) : Calls Try.prog 19 #[] w fun e w' => e = .returned (.bool true) ∧ Below w.heap.size w w' := by
  refine binnaclelaw18_Awake.calls true w ?_
  unfold binnaclelaw18_Awake.f cong_New.f cong_Window_Room.f
  have e : mn 0 12000 = 0 := rfl
  simp only [Option.bind_some, e]
  rw [u64_id (by omega) (by omega)]
  rfl

/-- The window's block. -/
def Wnd (s f a b : Int) (c : Bool) : Obj := .cells #[.int .u64 s, .int .u64 f, .int .u64 a, .int .u64 b, .bool c] 39
theorem wnd_put {w : World} {g : Nat} {s f a b s' f' a' b' : Int} {c c' : Bool} (h : w.heap[g]? = some (Wnd s f a b c)) :
    (((((w.setCell ⟨g, 0, none⟩ (.int .u64 s')).setCell ⟨g, 1, none⟩ (.int .u64 f')).setCell ⟨g, 2, none⟩ (.int .u64 a')).setCell ⟨g, 3, none⟩ (.int .u64 b')).setCell ⟨g, 4, none⟩ (.bool c')).heap[g]? = some (Wnd s' f' a' b' c') :=
  blk_put (blk_put (blk_put (blk_put (blk_put h 0 _ rfl) 1 _ rfl) 2 _ rfl) 3 _ rfl) 4 _ rfl
theorem wnd_below {w0 w : World} {g : Nat} {s' f' a' b' : Int} {c' : Bool} (hb : Below w0.heap.size w0 w) (hg : w0.heap.size ≤ g) :
    Below w0.heap.size w0 (((((w.setCell ⟨g, 0, none⟩ (.int .u64 s')).setCell ⟨g, 1, none⟩ (.int .u64 f')).setCell ⟨g, 2, none⟩ (.int .u64 a')).setCell ⟨g, 3, none⟩ (.int .u64 b')).setCell ⟨g, 4, none⟩ (.bool c')) :=
  below_set (below_set (below_set (below_set (below_set hb hg) hg) hg) hg) hg
theorem wnd_q {w : World} {g : Nat} {s f a b s' f' a' b' : Int} {c c' : Bool} {base : Nat} {v : Value} {xs : List Int} (h : w.heap[g]? = some (Wnd s f a b c)) (hq : (Kd.int .u64).Q 24 w base (fun _ => True) v xs) :
    (Kd.int .u64).Q 24 (((((w.setCell ⟨g, 0, none⟩ (.int .u64 s')).setCell ⟨g, 1, none⟩ (.int .u64 f')).setCell ⟨g, 2, none⟩ (.int .u64 a')).setCell ⟨g, 3, none⟩ (.int .u64 b')).setCell ⟨g, 4, none⟩ (.bool c')) base (fun _ => True) v xs := by
  have ht : ∀ q, q ∈ 24 :: (Kd.int .u64).E → q ≠ 39 := by
    intro q hq
    simp [Kd.int, Kd.scalar] at hq
    omega
  exact Kd.Q_set (Kd.Q_set (Kd.Q_set (Kd.Q_set (Kd.Q_set hq h ht 0 _) (blk_put h 0 _ rfl) ht 1 _) (blk_put (blk_put h 0 _ rfl) 1 _ rfl) ht 2 _) (blk_put (blk_put (blk_put h 0 _ rfl) 1 _ rfl) 2 _ rfl) ht 3 _) (blk_put (blk_put (blk_put (blk_put h 0 _ rfl) 1 _ rfl) 2 _ rfl) 3 _ rfl) ht 4 _

theorem rd_in {xs : List Int} (hx : ∀ x ∈ xs, 0 ≤ x ∧ x ≤ 65535) (j : Int) : 0 ≤ rd xs j ∧ rd xs j ≤ 65535 := by
  unfold rd
  rw [List.getD_eq_getElem?_getD]
  by_cases h : j.toNat < xs.length
  · rw [List.getElem?_eq_getElem h]
    exact hx _ (List.getElem_mem h)
  · rw [List.getElem?_eq_none (by omega)]
    exact ⟨by decide, by decide⟩

/-- What is on its way, and the window, behind j rounds; m: how many of them had a fate. -/
structure Inv (j m : Nat) (S : List Int) (s f : Int) : Prop where
  sum : f = S.sum
  all : ∀ x ∈ S, 0 ≤ x ∧ x < 1200
  len : S.length ≤ j
  s0 : 2400 ≤ s
  s1 : s < 33554432
  fs : f ≤ s
  none : j ≤ m → S = []
theorem sum_le {S : List Int} (h : ∀ x ∈ S, 0 ≤ x ∧ x < 1200) : S.sum ≤ 1200 * S.length := by
  induction S with
  | nil => simp
  | cons x S ih =>
    have := h x (by simp)
    have := ih (fun y hy => h y (by simp [hy]))
    simp; omega
theorem sum_nonneg {S : List Int} (h : ∀ x ∈ S, 0 ≤ x ∧ x < 1200) : 0 ≤ S.sum := by
  induction S with
  | nil => simp
  | cons x S ih =>
    have := h x (by simp)
    have := ih (fun y hy => h y (by simp [hy]))
    simp; omega

/-- The queue and the window as they lie. -/
structure St (w0 wr : World) (g : Nat) (A : Option Addr) (n c : Nat) (S : List Int) (s f a b : Int) (r : Bool) : Prop where
  len : n = S.length
  q : (Kd.int .u64).Q 24 wr w0.heap.size (fun _ => True) (.slice A n c) S
  blk : wr.heap[g]? = some (Wnd s f a b r)
  bel : Below w0.heap.size w0 wr
  old : w0.heap.size ≤ g
theorem St.below {w0 wr w' : World} {g : Nat} {A : Option Addr} {n c : Nat} {S : List Int} {s f a b : Int} {r : Bool} (h : St w0 wr g A n c S s f a b r) (hb : Below wr.heap.size wr w') : St w0 w' g A n c S s f a b r :=
  ⟨h.len, Kd.Q_below h.q hb, blk_below h.blk hb, below_step h.bel hb, h.old⟩
theorem St.put {w0 wr : World} {g : Nat} {A : Option Addr} {n c : Nat} {S : List Int} {s f a b s' f' a' b' : Int} {r r' : Bool} (h : St w0 wr g A n c S s f a b r) :
    St w0 (((((wr.setCell ⟨g, 0, none⟩ (.int .u64 s')).setCell ⟨g, 1, none⟩ (.int .u64 f')).setCell ⟨g, 2, none⟩ (.int .u64 a')).setCell ⟨g, 3, none⟩ (.int .u64 b')).setCell ⟨g, 4, none⟩ (.bool r')) g A n c S s' f' a' b' r' :=
  ⟨h.len, wnd_q h.blk h.q, wnd_put h.blk, wnd_below h.bel h.old, h.old⟩
theorem St.cells {w0 wr : World} {g : Nat} {A : Option Addr} {n c : Nat} {S : List Int} {s f a b : Int} {r : Bool} (h : St w0 wr g A n c S s f a b r) :
    (∀ i, wr.cell? ⟨g, i, none⟩ = (#[.int .u64 s, .int .u64 f, .int .u64 a, .int .u64 b, .bool r] : Array Value)[i]?) ∧ ∀ i, wr.frozen? ⟨g, i, none⟩ = false := ⟨blk_cell h.blk, blk_frozen h.blk⟩
theorem St.app {w0 w5 w6 : World} {g : Nat} {A A' : Option Addr} {n n' c c' : Nat} {S : List Int} {x : Int} {s f a b : Int} {r : Bool} (h : St w0 w5 g A n c S s f a b r) (hq : (Kd.int .u64).Q 24 w6 w0.heap.size (fun _ => True) (.slice A' n' c') (S ++ [x]))
    (hb : Below w0.heap.size w0 w6) (hg : w5.grownBy w6 (Value.slice A n c).ownBlock) : St w0 w6 g A' n' c' (S ++ [x]) s f a b r :=
  ⟨(Kd.Q_reads' hq).1, hq, blk_grown h.blk hg (Kd.Q_ne h.q h.blk (by decide)), hb, h.old⟩
theorem St.drop {w0 wr : World} {g : Nat} {A : Option Addr} {n c : Nat} {x : Int} {S : List Int} {s f a b : Int} {r : Bool} (h : St w0 wr g A n c (x :: S) s f a b r) :
    St w0 wr g (if c = 1 then A else A.map (·.add 1)) (n - 1) (c - 1) S s f a b r := by
  have hq := Kd.Q_drop h.q (k := 1) (by simp)
  exact ⟨by have := h.len; simp at this; omega, by simpa [Kd.int, Kd.scalar] using hq, h.blk, h.bel, h.old⟩

theorem keep5 {w w' : World} {g : Nat} {x0 x1 x2 x3 x4 : Value} (hb : Below w.heap.size w w') (h : w.cell? ⟨g, 0, none⟩ = some x0 ∧ w.cell? ⟨g, 1, none⟩ = some x1 ∧ w.cell? ⟨g, 2, none⟩ = some x2 ∧ w.cell? ⟨g, 3, none⟩ = some x3 ∧ w.cell? ⟨g, 4, none⟩ = some x4) :
    w'.cell? ⟨g, 0, none⟩ = some x0 ∧ w'.cell? ⟨g, 1, none⟩ = some x1 ∧ w'.cell? ⟨g, 2, none⟩ = some x2 ∧ w'.cell? ⟨g, 3, none⟩ = some x3 ∧ w'.cell? ⟨g, 4, none⟩ = some x4 :=
  ⟨pw_cell_below hb h.1, pw_cell_below hb h.2.1, pw_cell_below hb h.2.2.1, pw_cell_below hb h.2.2.2.1, pw_cell_below hb h.2.2.2.2⟩
theorem keep6 {w w' : World} {g : Nat} {p : Addr} {x0 x1 x2 x3 x4 x5 : Value} (hb : Below w.heap.size w w') (h : w.cell? ⟨g, 0, none⟩ = some x0 ∧ w.cell? ⟨g, 1, none⟩ = some x1 ∧ w.cell? ⟨g, 2, none⟩ = some x2 ∧ w.cell? ⟨g, 3, none⟩ = some x3 ∧ w.cell? ⟨g, 4, none⟩ = some x4 ∧ w.cell? p = some x5) :
    w'.cell? ⟨g, 0, none⟩ = some x0 ∧ w'.cell? ⟨g, 1, none⟩ = some x1 ∧ w'.cell? ⟨g, 2, none⟩ = some x2 ∧ w'.cell? ⟨g, 3, none⟩ = some x3 ∧ w'.cell? ⟨g, 4, none⟩ = some x4 ∧ w'.cell? p = some x5 :=
  ⟨pw_cell_below hb h.1, pw_cell_below hb h.2.1, pw_cell_below hb h.2.2.1, pw_cell_below hb h.2.2.2.1, pw_cell_below hb h.2.2.2.2.1, pw_cell_below hb h.2.2.2.2.2⟩

set_option maxRecDepth 100000 in
set_option maxHeartbeats 4000000 in
theorem room_walk {w : World} {A0 A1 : Option Addr} {c0 c1 : Nat} {l0 : List Int} {l1 : List Bool} (hC0 : Kd.C (Kd.int .u16) w A0 l0.length l0) (hx : ∀ x ∈ l0, 0 ≤ x ∧ x ≤ 65535) (hC1 : Kd.C Kd.bool w A1 l1.length l1) (h200 : l0.length ≤ 200) (_hl1 : l1.length ≤ 140737488355328) :
    Calls Try.prog 10 #[.slice A0 l0.length c0, .slice A1 l1.length c1] w fun e w' => e = .returned (.bool true) ∧ Below w.heap.size w w' := by
  have H0 := Lib.hid hC0
  have H1 := Lib.hid hC1
  have HX := Lib.hid hx
  clear hC0 hC1 hx
  go_enter Try.func10, Try.ntmps10
  go_wp2_with fail
  refine (awake_calls _).mono ?_
  rintro e w1 ⟨rfl, hw1⟩
  have HW := Lib.hid hw1
  clear hw1
  go_wp2_with fail
  refine (new_calls _).mono ?_
  rintro e w2 ⟨rfl, hw2⟩
  have hw := below_step HW.out hw2
  have HW2 := Lib.hid hw
  clear hw HW hw2
  go_wp2_with fail
  go_loopw [6, 20] (fun vq i wr => ∃ (j : Nat) (S : List Int) (A : Option Addr) (c n : Nat) (s f a b : Int) (r : Bool), j ≤ l0.length ∧ i = .int .i64 j ∧ vq = .slice A n c ∧ St w wr w2.heap.size A n c S s f a b r ∧ Inv j l1.length S s f) (fun _ i _ => l0.length - (intOf i).toNat)
  case atStart =>
    refine ⟨0, [], none, 0, 0, 12000, 0, 16777216, 0, false, Nat.zero_le _, rfl, rfl, ⟨rfl, Kd.Q_nil _ _ _ _ _, ?_, ?_, HW2.out.size⟩, ⟨rfl, by simp, by simp, by omega, by omega, by omega, fun _ => rfl⟩⟩
    · exact blk_new w2 _
    · exact HW2.out.alloc HW2.out.size _
  case round =>
    obtain ⟨j, S, A, c, n, s, f, a, b, r, hj, rfl, rfl, hS, hI⟩ := hrel
    by_cases hlt : j < l0.length
    · obtain ⟨ad, rfl, hcell⟩ := Kd.at_int (Kd.C_below H0.out hS.bel) j (by omega) (by omega)
      rw [Int.toNat_natCast] at hcell
      have hq := rd_in HX.out j
      generalize rd l0 j = q at *
      have HI := Lib.hid hI
      obtain ⟨cB, fB⟩ := hS.cells
      have HS := Lib.hid hS
      obtain ⟨i1, i2, i3, i4, i5, i6, i7⟩ := hI
      have f0 : 0 ≤ f := by rw [i1]; exact sum_nonneg i2
      clear hS i1 i2 i7
      obtain ⟨u, hu⟩ : ∃ u, q % 1200 = u := ⟨_, rfl⟩
      have u0 : 0 ≤ u ∧ u < 1200 := by omega
      go_wp2_with fail
      refine (room_calls s f a b r (by omega) i5 f0 i6 _).mono ?_
      rintro e w3 ⟨rfl, hb3⟩
      have hs3 := HS.out.below hb3
      clear cB fB hb3 HS
      obtain ⟨cB, fB⟩ := hs3.cells
      have HS := Lib.hid hs3
      clear hs3
      by_cases hfate : j < l1.length
      · have hSn : S = [] := HI.out.none (by omega)
        have hf0 : f = 0 := by have := HI.out.sum; rw [hSn] at this; simpa using this
        have hroom : u ≤ s - f := by omega
        obtain ⟨fv, hfv⟩ : ∃ fv, fv = rdOf false l1 j := ⟨_, rfl⟩
        obtain ⟨ad1, rfl, hfc⟩ : ∃ ad1, A1 = some ad1 ∧ ∀ wz : World, Below w.heap.size w wz → wz.cell? (ad1.add j) = some (.bool fv) := by
          obtain ⟨ad1, e1, h1⟩ := Kd.at_bool H1.out j (by omega) (by omega)
          refine ⟨ad1, e1, fun wz hz => ?_⟩
          rw [Int.toNat_natCast] at h1
          rw [hfv]
          exact pw_cell_below hz h1
        have HF := Lib.hid hfc
        clear hfv hfc
        have HSn := Lib.hid hSn
        have HF0 := Lib.hid hf0
        clear hSn hf0
        cases fv with
        | true =>
          go_wp2_with fail
          refine (sent_calls s f a b u r f0 (by omega) u0.1 (by omega) _).mono ?_
          rintro e w4 ⟨rfl, hb4⟩
          have hs4 := HS.out.below hb4
          clear cB fB hb4 HS
          obtain ⟨cB, fB⟩ := hs4.cells
          have HS := Lib.hid (hs4.put (s' := s) (f' := f + u) (a' := a) (b' := b) (r' := r))
          clear hs4
          go_upto_region 13 with (fail)
          clear cB fB
          have hs5 := HS.out
          generalize (((((w4.setCell ⟨w2.heap.size, 0, none⟩ (.int .u64 s)).setCell ⟨w2.heap.size, 1, none⟩ (.int .u64 (f + u))).setCell ⟨w2.heap.size, 2, none⟩ (.int .u64 a)).setCell ⟨w2.heap.size, 3, none⟩ (.int .u64 b)).setCell ⟨w2.heap.size, 4, none⟩ (.bool r)) = w5 at *
          clear HS
          have HS := Lib.hid hs5
          clear hs5
          have hlen5 : S.length ≤ 200 := by have := HI.out.len; omega
          go_wp2_with (first | ((with_reducible refine gate_dst (N := 38) rfl ?_); refine Kd.Q_append (Kd.int .u64) (w0 := w) w.heap.size rfl (.tmp 35) (.tmp 37) 49 24 (.int .u64 0) 8 rfl Try.underlying49 info24 rfl (by decide) (by omega) (.slice A n c) S u [.int .u64 u] (fun _ => True) (fun _ => False) rfl (by first | (go_simp; done) | (go_simp; rfl)) ?aP3 (fun _ hk => hk.elim) ?aF3 ?aO3 ?aB3 ?aS3 ?aL3 ?_; (case aP3 => rfl); (case aF3 => exact fun _ _ => trivial); (case aO3 => exact HS.out.q); (case aB3 => exact HS.out.bel); (case aS3 => exact HS.out.bel.size); (case aL3 => omega); intro v1 w6 hQ6 hb6 hg6 _; obtain ⟨A6, c6, rfl, _⟩ := Kd.Q_slice hQ6; have hs6 := HS.out.app hQ6 hb6 hg6; obtain ⟨cB, fB⟩ := hs6.cells; have HS6 := Lib.hid hs6; have hn6 : 0 < (S ++ [u]).length := (by simp); have hq1 := Kd.Q_form hQ6 (by simp); obtain ⟨g6, o6, k6, hv6, hg6b, hg6l, _⟩ := hq1; injection hv6 with hv6a hv6b hv6c; subst hv6a; subst hv6c; have hc6 := (Kd.Q_cell 0 hQ6 0 (by omega) (by simp)).1; have hcf := HF.out w6 hs6.bel; have hn6 : 0 < (S ++ [u]).length := (by simp); have hk6 := (Kd.Q_reads' hQ6).2.1; have HU := Lib.hid (show rdOf 0 (S ++ [u]) 0 = u from (by rw [HSn.out]; rfl)); rw [HU.out] at hc6; simp only [Int.toNat_zero, Nat.add_zero] at hc6; clear HU hs6 hQ6 hb6 hg6 hg6b hg6l; have HNN := Lib.hid (show (S ++ [u]).length = 1 from (by rw [HSn.out]; rfl)); generalize (S ++ [u]).length = n6 at *))
          have j0 : (0 : Int) ≤ (j : Int) := by omega
          have ju : IntKind.u64.wrap (j : Int) = j := u64_id (by omega) (by omega)
          have ju1 : IntKind.u64.wrap ((j : Int) + 1) = j + 1 := u64_id (by omega) (by omega)
          have g0 := cB 0; have g1 := cB 1; have g2 := cB 2; have g3 := cB 3; have g4 := cB 4
          simp at g0 g1 g2 g3 g4
          clear cB
          go_region_with ((go_at_call 23; refine (came_calls s (f + u) a b u j r (by omega) u0.1 (by have := HF0.out; omega) i5 _).mono ?_; rintro e w7 ⟨rfl, hb7⟩; have hbz : Below w6.heap.size w6 w7 := (below_step (below_drew (Below.refl _ _)) hb7); obtain ⟨cB7, fB7⟩ := (HS6.out.below hbz).cells; have hc7 := pw_cell_below hbz hc6))
          all_goals
            have hs8 := (HS6.out.below hbz).put (s' := s) (f' := f) (a' := a) (b' := b) (r' := r)
            clear cB7 fB7 hc7 g0 g1 g2 g3 g4 fB hc6
            generalize (((((w7.setCell ⟨w2.heap.size, 0, none⟩ (.int .u64 s)).setCell ⟨w2.heap.size, 1, none⟩ (.int .u64 f)).setCell ⟨w2.heap.size, 2, none⟩ (.int .u64 a)).setCell ⟨w2.heap.size, 3, none⟩ (.int .u64 b)).setCell ⟨w2.heap.size, 4, none⟩ (.bool r)) = w8 at *
            have HS8 := Lib.hid hs8
            clear hs8
            have hd : St w w8 w2.heap.size (if c6 = 1 then some ⟨g6, o6, none⟩ else (some (⟨g6, o6, none⟩ : Addr)).map (·.add 1)) (n6 - 1) (c6 - 1) [] s f a b r := by
              have h := HS8.out
              rw [HSn.out] at h
              exact St.drop (x := u) h
            have HD := Lib.hid hd
            clear hd HS8
            by_cases hc1 : c6 = 1
            · go_wp2_with fail
              go_roundw
              case rel =>
                have h := HD.out
                rw [if_pos hc1, hc1] at h
                exact ⟨j + 1, [], _, _, _, s, f, a, b, r, by omega, by go_num, rfl, h, ⟨by rw [HF0.out]; rfl, by simp, by simp, HI.out.s0, HI.out.s1, HI.out.fs, fun _ => rfl⟩⟩
              case measure => simp [intOf]; omega
            · have hc2 : ¬ (c6 : Int) = 1 := by omega
              have hc3 : ((c6 : Int) == 1) = false := by simpa using hc2
              go_wp2_with fail
              go_roundw
              case rel =>
                have h := HD.out
                rw [if_neg hc1] at h
                exact ⟨j + 1, [], _, _, _, s, f, a, b, r, by omega, by go_num, rfl, by simpa [Addr.add] using h, ⟨by rw [HF0.out]; rfl, by simp, by simp, HI.out.s0, HI.out.s1, HI.out.fs, fun _ => rfl⟩⟩
              case measure => simp [intOf]; omega
        | false =>
          go_wp2_with fail
          refine (sent_calls s f a b u r f0 (by omega) u0.1 (by omega) _).mono ?_
          rintro e w4 ⟨rfl, hb4⟩
          have hs4 := HS.out.below hb4
          clear cB fB hb4 HS
          obtain ⟨cB, fB⟩ := hs4.cells
          have HS := Lib.hid (hs4.put (s' := s) (f' := f + u) (a' := a) (b' := b) (r' := r))
          clear hs4
          go_upto_region 13 with (fail)
          clear cB fB
          have hs5 := HS.out
          generalize (((((w4.setCell ⟨w2.heap.size, 0, none⟩ (.int .u64 s)).setCell ⟨w2.heap.size, 1, none⟩ (.int .u64 (f + u))).setCell ⟨w2.heap.size, 2, none⟩ (.int .u64 a)).setCell ⟨w2.heap.size, 3, none⟩ (.int .u64 b)).setCell ⟨w2.heap.size, 4, none⟩ (.bool r)) = w5 at *
          clear HS
          have HS := Lib.hid hs5
          clear hs5
          have hlen5 : S.length ≤ 200 := by have := HI.out.len; omega
          go_wp2_with (first | ((with_reducible refine gate_dst (N := 38) rfl ?_); refine Kd.Q_append (Kd.int .u64) (w0 := w) w.heap.size rfl (.tmp 35) (.tmp 37) 49 24 (.int .u64 0) 8 rfl Try.underlying49 info24 rfl (by decide) (by omega) (.slice A n c) S u [.int .u64 u] (fun _ => True) (fun _ => False) rfl (by first | (go_simp; done) | (go_simp; rfl)) ?aP4 (fun _ hk => hk.elim) ?aF4 ?aO4 ?aB4 ?aS4 ?aL4 ?_; (case aP4 => rfl); (case aF4 => exact fun _ _ => trivial); (case aO4 => exact HS.out.q); (case aB4 => exact HS.out.bel); (case aS4 => exact HS.out.bel.size); (case aL4 => omega); intro v1 w6 hQ6 hb6 hg6 _; obtain ⟨A6, c6, rfl, _⟩ := Kd.Q_slice hQ6; have hs6 := HS.out.app hQ6 hb6 hg6; obtain ⟨cB, fB⟩ := hs6.cells; have HS6 := Lib.hid hs6; have hn6 : 0 < (S ++ [u]).length := (by simp); have hq1 := Kd.Q_form hQ6 (by simp); obtain ⟨g6, o6, k6, hv6, hg6b, hg6l, _⟩ := hq1; injection hv6 with hv6a hv6b hv6c; subst hv6a; subst hv6c; have hc6 := (Kd.Q_cell 0 hQ6 0 (by omega) (by simp)).1; have hcf := HF.out w6 hs6.bel; have hn6 : 0 < (S ++ [u]).length := (by simp); have hk6 := (Kd.Q_reads' hQ6).2.1; have HU := Lib.hid (show rdOf 0 (S ++ [u]) 0 = u from (by rw [HSn.out]; rfl)); rw [HU.out] at hc6; simp only [Int.toNat_zero, Nat.add_zero] at hc6; clear HU hs6 hQ6 hb6 hg6 hg6b hg6l; have HNN := Lib.hid (show (S ++ [u]).length = 1 from (by rw [HSn.out]; rfl)); generalize (S ++ [u]).length = n6 at *))
          have j0 : (0 : Int) ≤ (j : Int) := by omega
          have ju : IntKind.u64.wrap (j : Int) = j := u64_id (by omega) (by omega)
          have ju1 : IntKind.u64.wrap ((j : Int) + 1) = j + 1 := u64_id (by omega) (by omega)
          have g0 := cB 0; have g1 := cB 1; have g2 := cB 2; have g3 := cB 3; have g4 := cB 4
          simp at g0 g1 g2 g3 g4
          clear cB
          go_region_with ((go_at_call 40; refine (lost_calls s (f + u) a b u j (j + 1) r i4 i5 u0.1 (by omega) (by omega) _).mono ?_; rintro e w7 ⟨⟨s', a', b', r', rfl, hs1, hs2⟩, hb7⟩; have hbz : Below w6.heap.size w6 w7 := (below_step (below_drew (Below.refl _ _)) hb7); obtain ⟨cB7, fB7⟩ := (HS6.out.below hbz).cells; have hc7 := pw_cell_below hbz hc6))
          all_goals
            have hs8 := (HS6.out.below hbz).put (s' := s') (f' := f) (a' := a') (b' := b') (r' := r')
            clear cB7 fB7 hc7 g0 g1 g2 g3 g4 fB hc6
            generalize (((((w7.setCell ⟨w2.heap.size, 0, none⟩ (.int .u64 s')).setCell ⟨w2.heap.size, 1, none⟩ (.int .u64 f)).setCell ⟨w2.heap.size, 2, none⟩ (.int .u64 a')).setCell ⟨w2.heap.size, 3, none⟩ (.int .u64 b')).setCell ⟨w2.heap.size, 4, none⟩ (.bool r')) = w8 at *
            have HS8 := Lib.hid hs8
            clear hs8
            have hd : St w w8 w2.heap.size (if c6 = 1 then some ⟨g6, o6, none⟩ else (some (⟨g6, o6, none⟩ : Addr)).map (·.add 1)) (n6 - 1) (c6 - 1) [] s' f a' b' r' := by
              have h := HS8.out
              rw [HSn.out] at h
              exact St.drop (x := u) h
            have HD := Lib.hid hd
            clear hd HS8
            by_cases hc1 : c6 = 1
            · go_wp2_with fail
              go_roundw
              case rel =>
                have h := HD.out
                rw [if_pos hc1, hc1] at h
                exact ⟨j + 1, [], _, _, _, s', f, a', b', r', by omega, by go_num, rfl, h, ⟨by rw [HF0.out]; rfl, by simp, by simp, hs1, hs2, by rw [HF0.out]; omega, fun _ => rfl⟩⟩
              case measure => simp [intOf]; omega
            · have hc2 : ¬ (c6 : Int) = 1 := by omega
              have hc3 : ((c6 : Int) == 1) = false := by simpa using hc2
              go_wp2_with fail
              go_roundw
              case rel =>
                have h := HD.out
                rw [if_neg hc1] at h
                exact ⟨j + 1, [], _, _, _, s', f, a', b', r', by omega, by go_num, rfl, by simpa [Addr.add] using h, ⟨by rw [HF0.out]; rfl, by simp, by simp, hs1, hs2, by rw [HF0.out]; omega, fun _ => rfl⟩⟩
              case measure => simp [intOf]; omega
      · by_cases hroom : u ≤ s - f
        · go_wp2_with fail
          refine (sent_calls s f a b u r f0 (by omega) u0.1 (by omega) _).mono ?_
          rintro e w4 ⟨rfl, hb4⟩
          have hs4 := HS.out.below hb4
          clear cB fB hb4 HS
          obtain ⟨cB, fB⟩ := hs4.cells
          have HS := Lib.hid (hs4.put (s' := s) (f' := f + u) (a' := a) (b' := b) (r' := r))
          clear hs4
          go_upto_region 13 with (fail)
          clear cB fB
          have hs5 := HS.out
          generalize (((((w4.setCell ⟨w2.heap.size, 0, none⟩ (.int .u64 s)).setCell ⟨w2.heap.size, 1, none⟩ (.int .u64 (f + u))).setCell ⟨w2.heap.size, 2, none⟩ (.int .u64 a)).setCell ⟨w2.heap.size, 3, none⟩ (.int .u64 b)).setCell ⟨w2.heap.size, 4, none⟩ (.bool r)) = w5 at *
          clear HS
          have HS := Lib.hid hs5
          clear hs5
          have hlen5 : S.length ≤ 200 := by have := HI.out.len; omega
          go_wp2_with (first | ((with_reducible refine gate_dst (N := 38) rfl ?_); refine Kd.Q_append (Kd.int .u64) (w0 := w) w.heap.size rfl (.tmp 35) (.tmp 37) 49 24 (.int .u64 0) 8 rfl Try.underlying49 info24 rfl (by decide) (by omega) (.slice A n c) S u [.int .u64 u] (fun _ => True) (fun _ => False) rfl (by first | (go_simp; done) | (go_simp; rfl)) ?aP1 (fun _ hk => hk.elim) ?aF1 ?aO1 ?aB1 ?aS1 ?aL1 ?_; (case aP1 => rfl); (case aF1 => exact fun _ _ => trivial); (case aO1 => exact HS.out.q); (case aB1 => exact HS.out.bel); (case aS1 => exact HS.out.bel.size); (case aL1 => omega); intro v1 w6 hQ6 hb6 hg6 _; obtain ⟨A6, c6, rfl, _⟩ := Kd.Q_slice hQ6; have hs6 := HS.out.app hQ6 hb6 hg6; obtain ⟨cB, fB⟩ := hs6.cells; have HS6 := Lib.hid hs6; have hn6 : 0 < (S ++ [u]).length := (by simp); clear hs6 hQ6 hb6 hg6; generalize (S ++ [u]).length = n6 at *))
          go_roundw
          case rel =>
            refine ⟨j + 1, S ++ [u], A6, c6, n6, s, f + u, a, b, r, by omega, by go_num, rfl, HS6.out, ?_⟩
            have hI := HI.out
            refine ⟨by rw [hI.sum]; simp, ?_, by have := hI.len; simp; omega, hI.s0, hI.s1, by omega, fun h => by omega⟩
            intro x hx
            rcases List.mem_append.1 hx with hx | hx
            · exact hI.all x hx
            · simp at hx; omega
          case measure => simp [intOf]; omega
        · go_wp2_with fail
          go_roundw
          case rel =>
            have hI := HI.out
            exact ⟨j + 1, S, A, c, n, s, f, a, b, r, by omega, by go_num, rfl, HS.out, ⟨hI.sum, hI.all, by have := hI.len; omega, hI.s0, hI.s1, hI.fs, fun h => by omega⟩⟩
          case measure => simp [intOf]; omega
    · have hj2 : j = l0.length := by omega
      have f0 : f = S.sum := hI.sum
      have hn : n = S.length := hS.len
      have hnn : (n : Int) ≤ 200 := by have := hI.len; omega
      have HS := Lib.hid hS
      have HI := Lib.hid hI
      have HN := Lib.hid hn
      have HF := Lib.hid f0
      clear hS hI hn f0 hj2 hj
      go_wp2_with fail
      go_loopw [79] (fun i wz => ∃ (t : Nat) (f' : Int), t ≤ n ∧ i = .int .i64 t ∧ St w wz w2.heap.size A n c S s f' a b r ∧ f' = (S.drop t).sum) (fun i _ => n - (intOf i).toNat)
      case atStart => exact ⟨0, f, Nat.zero_le _, rfl, HS.out, by rw [HF.out]; rfl⟩
      case round =>
        obtain ⟨t, f', ht, rfl, hS, hf'⟩ := hrel
        by_cases htn : t < n
        · have htS : t < S.length := by have := HN.out; omega
          have hlen := hS.len
          obtain ⟨ad, rfl, hcell⟩ := Kd.at_int (Kd.Q_reads' hS.q).2.2 t (by omega) (by omega)
          rw [Int.toNat_natCast] at hcell
          have hxr : rd S t = S[t] := by
            unfold rd
            rw [Int.toNat_natCast, List.getD_eq_getElem?_getD, List.getElem?_eq_getElem htS]; rfl
          have hsum : f' = S[t] + (S.drop (t + 1)).sum := by
            rw [hf', List.drop_eq_getElem_cons htS, List.sum_cons]
          have hx0 := HI.out.all _ (List.getElem_mem htS)
          have hrest : 0 ≤ (S.drop (t + 1)).sum := sum_nonneg (fun y hy => HI.out.all y (List.mem_of_mem_drop hy))
          have hle : (S.drop (t + 1)).sum ≤ 300000 := by
            have h1 := sum_le (S := S.drop (t + 1)) (fun y hy => HI.out.all y (List.mem_of_mem_drop hy))
            have h2 : (S.drop (t + 1)).length ≤ 200 := by have := HI.out.len; rw [List.length_drop]; omega
            omega
          rw [hxr] at hcell
          have HT := Lib.hid hsum
          generalize S[t] = x at *
          generalize hz : (S.drop (t + 1)).sum = z at *
          have HZ := Lib.hid hz
          obtain ⟨cB, fB⟩ := hS.cells
          have HS2 := Lib.hid hS
          clear hS hsum hz hf' hxr hlen htS
          have hxf : x ≤ f' := by have := HT.out; omega
          have hf3 : f' < 33554432 := by have := HT.out; omega
          go_wp2_with fail
          refine (drop_calls s f' a b x r hx0.1 hxf hf3 _).mono ?_
          rintro e w3 ⟨rfl, hb3⟩
          have hs4 := HS2.out.below hb3
          clear cB fB hb3
          obtain ⟨cB, fB⟩ := hs4.cells
          have HS4 := Lib.hid (hs4.put (s' := s) (f' := f' - x) (a' := a) (b' := b) (r' := r))
          clear hs4
          go_wp2_with fail
          go_roundw
          case rel => exact ⟨t + 1, f' - x, by omega, by go_num, HS4.out, by rw [HZ.out]; have := HT.out; omega⟩
          case measure => simp [intOf]; omega
        · have htn2 : t = S.length := by have := HN.out; omega
          have hf2 : f' = 0 := by rw [hf', htn2, List.drop_length]; rfl
          subst hf2
          obtain ⟨cB, fB⟩ := hS.cells
          have HB := Lib.hid hS.bel
          have g0 := cB 0; have g1 := cB 1; have g2 := cB 2; have g3 := cB 3; have g4 := cB 4
          simp at g0 g1 g2 g3 g4
          have hs0 := HI.out.s0
          have hs1 := HI.out.s1
          have rc : ∀ wz, Calls Try.prog 21 #[.agg #[.int .u64 s, .int .u64 0, .int .u64 a, .int .u64 b, .bool r]] wz fun e w' => e = .returned (.int .u64 s) ∧ Below wz.heap.size wz w' := by
            intro wz
            have h := room_calls s 0 a b r (by omega) hs1 (by omega) (by omega) wz
            rw [Int.sub_zero] at h
            exact h
          have RC := Lib.hid rc
          clear cB hS hf' htn2 rc
          go_wp2_with fail
          go_region_held3 (fun w' => w'.cell? ⟨w2.heap.size, 0, none⟩ = some (.int .u64 s) ∧ w'.cell? ⟨w2.heap.size, 1, none⟩ = some (.int .u64 0) ∧ w'.cell? ⟨w2.heap.size, 2, none⟩ = some (.int .u64 a) ∧ w'.cell? ⟨w2.heap.size, 3, none⟩ = some (.int .u64 b) ∧ w'.cell? ⟨w2.heap.size, 4, none⟩ = some (.bool r))
            (first | go_keep | exact keep5 (by assumption) (by assumption) | exact keep5 (by assumption) ⟨g0, g1, g2, g3, g4⟩)
            (first | (go_at_call 21; refine (RC.out _).mono ?_; rintro e w7 ⟨rfl, hb7⟩))
          go_wp2_with fail
          go_ret
          exact ⟨rfl, below_step (below_drew HB.out) hb7⟩

set_option maxRecDepth 100000 in
set_option maxHeartbeats 1000000 in
theorem room_long {w : World} {A0 A1 : Option Addr} {c0 c1 n0 n1 : Nat} (h200 : 200 < n0) (hn : n0 ≤ 140737488355328) :
    Calls Try.prog 10 #[.slice A0 n0 c0, .slice A1 n1 c1] w fun e w' => e = .returned (.bool true) ∧ Below w.heap.size w w' := by
  go_enter Try.func10, Try.ntmps10
  go_wp2_with fail
  refine (awake_calls _).mono ?_
  rintro e w1 ⟨rfl, hw1⟩
  go_wp2_with fail
  go_ret
  exact ⟨rfl, hw1⟩

theorem walk {W : World} (A0 : Option Addr) (n0 c0 : Nat) (l0 : List Int) (e0 : l0.length = n0) (_h0 : n0 ≤ c0) (hC0 : Kd.C (Kd.int .u16) W A0 n0 l0) (hw0 : l0.length * 2 ≤ reachBytes ∧ ∀ y ∈ l0, (Lit.int .u16 y).wf = true)
    (A1 : Option Addr) (n1 c1 : Nat) (l1 : List Bool) (e1 : l1.length = n1) (_h1 : n1 ≤ c1) (hC1 : Kd.C Kd.bool W A1 n1 l1) (hw1 : l1.length * 1 ≤ reachBytes ∧ ∀ y ∈ l1, True) :
    Calls Try.prog 10 #[.slice A0 n0 c0, .slice A1 n1 c1] W fun e w' => e = .returned (.bool true) ∧ Below W.heap.size W w' := by
  subst e0; subst e1
  have r0 := hw0.1
  have r1 := hw1.1
  unfold reachBytes at r0 r1
  by_cases h : l0.length ≤ 200
  · exact room_walk hC0 (fun x hx => bounds_u16 (hw0.2 x hx)) hC1 h (by omega)
  · exact room_long (by omega) (by omega)
end Go.Proofs.Ytloiihbhpmmaiaa.RoomWalk
