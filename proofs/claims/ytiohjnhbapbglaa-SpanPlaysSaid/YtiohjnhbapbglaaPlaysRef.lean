/- The references' contracts over rows that may begin inside their blocks; what they leave of sets. Conditions: as there. -/
import Derived.Test.YtiohjnhbapbglaaPlaysPure
import Derived.Test.YtiohjnhbapbglaaSpRefAdd
import Derived.Test.YtiohjnhbapbglaaSpRefCut
import Derived.Test.YtiohjnhbapbglaaSpAct
namespace Go.Proofs.Ytiohjnhbapbglaa.PlaysRef
open Go.RowKit Go.Proofs.Ytiohjnhbapbglaa.PSpanPlays Go.Proofs.Ytiohjnhbapbglaa.SpPure Go.Proofs.Ytiohjnhbapbglaa.SpLaw Go.Proofs.Ytiohjnhbapbglaa.SpSet Go.Proofs.Ytiohjnhbapbglaa.SpFind Go.Proofs.Ytiohjnhbapbglaa.SpAsk Go.Proofs.Ytiohjnhbapbglaa.SpCut Go.Proofs.Ytiohjnhbapbglaa.PartsPure Go.Proofs.Ytiohjnhbapbglaa.PlaysPure Go.Proofs.YtiohjnhbapbglaaW.PrintWords Go.Proofs.YtiohjnhbapbglaaW.PrintLast Go.Proofs.YtiohjnhbapbglaaW.PrintMore

theorem t45b : ∀ q, q ∈ 45 :: k45.E → q ≠ 98 := by decide
theorem row45_keep {w w' : World} {base g t : Nat} {cells : Array Value} {v : Value} {l : List S45} (h : k45.Q 45 w base (fun _ => True) v l) (hb : w.heap[g]? = some (.cells cells t (0, 0))) (ht : t = 98) (hk : KeepBut w w' g none) : k45.Q 45 w' base (fun _ => True) v l := by
  subst ht
  exact Kd.Q_mono (Kd.Q_keep (Kd.Q_types h hb t45b) hk (fun _ hk => hk.2)) (fun _ _ => trivial)
/-- What Add and Cut of the reference leave. -/
def RP (base : Nat) (w : World) (R : List S45) (e : Ending) (w' : World) : Prop :=
  ∃ B d, e = .returned (.slice B R.length d) ∧ k45.Q 45 w' base (fun _ => True) (.slice B R.length d) R ∧ Below w.heap.size w w'
theorem below_of {w0 w w' : World} (h : Below w0.heap.size w0 w) (h' : Below w0.heap.size w0 w') (k : Kept w w' fun _ => False) : Below w.heap.size w w' :=
  ⟨h'.os.trans h.os.symm, h'.tape.trans h.tape.symm, h'.output.trans h.output.symm, k.1, fun i hi => k.2 i hi (fun x => x)⟩
theorem radd_calls {w0 w : World} {base : Nat} (e0 : w0.heap.size = base) (hB : Below base w0 w) {A : Option Addr} {c : Nat} {M R : List S45} (hq : k45.Q 45 w base (fun _ => True) (.slice A M.length c) M) (r0 r1 : Int) (h : ∃ k, binnacleref07_Add.f k M r0 r1 = some R) :
    Calls Try.prog 23 #[.slice A M.length c, .agg #[.int .u64 r0, .int .u64 r1]] w fun e w' => RP base w R e w' := by
  subst e0
  obtain ⟨k, hk⟩ := h
  by_cases hr : r0 ≥ r1
  · unfold binnacleref07_Add.f at hk
    rw [if_pos hr] at hk
    obtain rfl := Option.some.inj hk
    refine (SpRefAdd.add_q_none _ r0 r1 hr w).mono ?_
    rintro e w' ⟨rfl, hb⟩
    exact ⟨A, c, rfl, Kd.Q_below hq hb, hb⟩
  · refine (SpRefAdd.add_q k (fun _ => True) _ M r0 r1 R hr w0 w hB hq hk).mono ?_
    rintro e w' ⟨v, rfl, hv, hb, hkp⟩
    obtain ⟨B, d, rfl, _⟩ := Kd.Q_slice hv
    exact ⟨B, d, rfl, Kd.Q_mono hv (fun _ _ => trivial), below_of hB hb hkp⟩
theorem rcut_calls {w0 w : World} {base : Nat} (e0 : w0.heap.size = base) (hB : Below base w0 w) {A : Option Addr} {c : Nat} {M R : List S45} (hq : k45.Q 45 w base (fun _ => True) (.slice A M.length c) M) (r0 r1 : Int) (h : ∃ k, binnacleref07_Cut.f k M r0 r1 = some R) :
    Calls Try.prog 26 #[.slice A M.length c, .agg #[.int .u64 r0, .int .u64 r1]] w fun e w' => RP base w R e w' := by
  subst e0
  obtain ⟨k, hk⟩ := h
  by_cases hr : r0 ≥ r1
  · unfold binnacleref07_Cut.f at hk
    rw [if_pos hr] at hk
    obtain rfl := Option.some.inj hk
    refine (SpRefCut.cut_q_none _ r0 r1 hr w).mono ?_
    rintro e w' ⟨rfl, hb⟩
    exact ⟨A, c, rfl, Kd.Q_below hq hb, hb⟩
  · refine (SpRefCut.cut_q k (fun _ => True) _ M r0 r1 R hr w0 w hB hq hk).mono ?_
    rintro e w' ⟨v, rfl, hv, hb, hkp⟩
    obtain ⟨B, d, rfl, _⟩ := Kd.Q_slice hv
    exact ⟨B, d, rfl, Kd.Q_mono hv (fun _ _ => trivial), below_of hB hb hkp⟩
theorem ap_un {w w' : World} {base g : Nat} {l : List S28} {lim : Int} {r : S28} {e : Ending} (h : AP w base g l lim r e w') (hle : (l.length : Int) ≤ lim) : Below base w w' ∧ KeepBut w w' g none ∧
    ((((addR l r).length : Int) ≤ lim ∧ e = .returned (.int .i64 0) ∧ ∃ B d, St w' base g B d (addR l r) lim) ∨ (¬ ((addR l r).length : Int) ≤ lim ∧ ¬ r.f0 ≥ r.f1 ∧ e = .returned (.int .i64 7) ∧ ∃ B d, St w' base g B d l lim)) := by
  obtain ⟨h1, h2, h3⟩ := h
  refine ⟨h1, h2, ?_⟩
  unfold addR
  rcases h3 with ⟨h4, rfl, h5⟩ | ⟨h4, h6, rfl, h5⟩ | ⟨h4, h6, rfl, h5⟩
  · rw [if_pos h4]; exact .inl ⟨hle, rfl, h5⟩
  · rw [if_neg (by omega)]; exact .inr ⟨by omega, by omega, rfl, h5⟩
  · rw [if_neg (by omega)]; exact .inl ⟨h6, rfl, h5⟩
theorem up_un {w w' : World} {base g : Nat} {l : List S28} {lim : Int} {r : S28} {e : Ending} (h : UP w base g l lim r e w') (hle : (l.length : Int) ≤ lim) : Below base w w' ∧ KeepBut w w' g none ∧
    ((((cutR l r).length : Int) ≤ lim ∧ e = .returned (.int .i64 0) ∧ ∃ B d, St w' base g B d (cutR l r) lim) ∨ (¬ ((cutR l r).length : Int) ≤ lim ∧ ¬ r.f0 ≥ r.f1 ∧ e = .returned (.int .i64 7) ∧ ∃ B d, St w' base g B d l lim)) := by
  obtain ⟨h1, h2, h3⟩ := h
  refine ⟨h1, h2, ?_⟩
  unfold cutR
  rcases h3 with ⟨h4, rfl, h5⟩ | ⟨h4, h6, rfl, h5⟩ | ⟨h4, h6, rfl, h5⟩
  · rw [if_pos h4]; exact .inl ⟨hle, rfl, h5⟩
  · rw [if_neg (by omega)]; exact .inr ⟨by omega, by omega, rfl, h5⟩
  · rw [if_neg (by omega)]; exact .inl ⟨h6, rfl, h5⟩
theorem al_un {w w' : World} {base g : Nat} {l : List S28} {lim : Int} {r : S28} {e : Ending} (h : SpLast.ALP w base g l lim r e w') (hle : (l.length : Int) ≤ lim) : Below base w w' ∧ KeepBut w w' g none ∧
    e = .returned (.int .i64 (SpLast.over (addR l r).length lim)) ∧ ∃ B d, St w' base g B d ((addR l r).drop (SpLast.over (addR l r).length lim)) lim := by
  obtain ⟨h1, h2, h3⟩ := h
  refine ⟨h1, h2, ?_⟩
  unfold addR
  rcases h3 with ⟨h4, rfl, h5⟩ | ⟨h4, rfl, h5⟩
  · have : SpLast.over l.length lim = 0 := by unfold SpLast.over; omega
    rw [if_pos h4, this, List.drop_zero]; exact ⟨rfl, h5⟩
  · rw [if_neg (by omega)]; exact ⟨rfl, h5⟩
theorem tailQ1 {w : World} {base k d : Nat} {ok : Nat → Prop} {B : Option Addr} {m : List S45} (h : k45.Q 45 w base ok (.slice B m.length d) m) (hk : k ≤ m.length) (e : d = k) : k45.Q 45 w base ok (.slice B (m.drop k).length 0) (m.drop k) := by
  have h2 := Kd.Q_drop h hk
  rw [if_pos e, show d - k = 0 by omega, show m.length - k = (m.drop k).length from List.length_drop.symm] at h2
  exact h2
theorem tailQ2 {w : World} {base k d : Nat} {ok : Nat → Prop} {B : Option Addr} {m : List S45} (h : k45.Q 45 w base ok (.slice B m.length d) m) (hk : k ≤ m.length) (e : ¬ d = k) : k45.Q 45 w base ok (.slice (B.map fun x => x.add (k * 2)) (m.drop k).length (d - k)) (m.drop k) := by
  have h2 := Kd.Q_drop h hk
  rw [if_neg e, show m.length - k = (m.drop k).length from List.length_drop.symm] at h2
  exact h2
theorem ref_calls (r : S28) (w : World) : Calls Try.prog 24 #[.agg #[.int .u64 r.f0, .int .u64 r.f1]] w fun e w' => e = .returned (.agg #[.int .u64 r.f0, .int .u64 r.f1]) ∧ Below w.heap.size w w' :=
  binnaclelaw07_Ref.calls r.f0 r.f1 r.f0 r.f1 w rfl
theorem same_calls {w : World} {b1 b2 : Nat} {A B : Option Addr} {c d : Nat} {l : List S28} {M : List S45} (h1 : k28.Q 28 w b1 (fun _ => True) (.slice A l.length c) l) (h2 : k45.Q 45 w b2 (fun _ => True) (.slice B M.length d) M) (hm : M = l.map toS) (hl : l.length ≤ 1000) :
    Calls Try.prog 27 #[.slice A l.length c, .slice B M.length d] w fun e w' => e = .returned (.bool true) ∧ Below w.heap.size w w' := by
  subst hm
  exact binnaclelaw07_Same.calls (l.length + 1) A c l B d (l.map toS) true w (Kd.Q_reads' h1).2.2 (Kd.Q_reads' h1).2.1 (Kd.Q_reads' h2).2.2 (Kd.Q_reads' h2).2.1 (same_f l hl)
/-- What holds between the calls: the set, the reference's ranges. -/
structure PR (g : Nat) (w0 wx : World) (lim : Int) (B : Option Addr) (d : Nat) (A : Option Addr) (cm : Nat) (l : List S28) (M : List S45) : Prop where
  m : M = l.map toS
  s : St wx g g B d l lim
  q : k45.Q 45 wx g (fun _ => True) (.slice A M.length cm) M
  nf : NF l
  bd : Bd l
  le : (l.length : Int) ≤ lim
  b : Below g w0 wx
theorem PR.below {g : Nat} {w0 wx wy : World} {lim : Int} {B : Option Addr} {d : Nat} {A : Option Addr} {cm : Nat} {l : List S28} {M : List S45} (h : PR g w0 wx lim B d A cm l M) (hb : Below wx.heap.size wx wy) : PR g w0 wy lim B d A cm l M :=
  ⟨h.m, h.s.below hb, Kd.Q_below h.q hb, h.nf, h.bd, h.le, h.b.trans (hb.mono (Nat.le_of_lt (Nat.lt_of_le_of_lt h.s.old h.s.lt)))⟩
theorem PR.len {g : Nat} {w0 wx : World} {lim : Int} {B : Option Addr} {d : Nat} {A : Option Addr} {cm : Nat} {l : List S28} {M : List S45} (h : PR g w0 wx lim B d A cm l M) : M.length = l.length := by rw [h.m, List.length_map]
theorem row_keep28 {w w' : World} {base g t : Nat} {cells : Array Value} {v : Value} {l : List S28} (h : k28.Q 28 w base (fun _ => True) v l) (hb : w.heap[g]? = some (.cells cells t (0, 0))) (ht : t = 98) (hk : KeepBut w w' g none) : k28.Q 28 w' base (fun _ => True) v l := by
  subst ht
  exact Kd.Q_mono (Kd.Q_keep (Kd.Q_types h hb t28) hk (fun _ hk => hk.2)) (fun _ _ => trivial)
theorem st_keep {w w' : World} {base g b2 g2 : Nat} {A A2 : Option Addr} {c c2 : Nat} {l l2 : List S28} {lim lim2 : Int} (h : St w base g A c l lim) (h2 : St w b2 g2 A2 c2 l2 lim2) (hne : g ≠ g2) (hk : KeepBut w w' g2 none) : St w' base g A c l lim :=
  ⟨hk.blk h.blk hne (by simp), row_keep28 h.q h2.blk rfl hk, h.old⟩
/-- What holds behind a call: the set and the reference's ranges are the same still; the copy made ahead of it is as it was. -/
def SR (g gw ga : Nat) (w0 wx : World) (lim : Int) (l0 : List S28) (x : SpAct.S30) (mv : Value) : Prop :=
  ∃ (l : List S28) (M : List S45) (B : Option Addr) (d : Nat) (A2 : Option Addr) (cm : Nat), mv = .slice A2 M.length cm ∧ l.length ≤ l0.length + 1 ∧ PR g w0 wx lim B d A2 cm l M ∧ (∃ Bw dw, St wx g gw Bw dw l0 lim) ∧ wx.heap[ga]? = some (SpAct.AC x)
end Go.Proofs.Ytiohjnhbapbglaa.PlaysRef
