/- AddLast, Last, First of a set. Condition: no row is long. -/
import Derived.Test.YtiohjnhbapbglaaAsksPure
import Derived.Deep.RegionWith
namespace Go.Proofs.Ytiohjnhbapbglaa.SpLast
open Go.RowKit Go.Proofs.Ytiohjnhbapbglaa.PSpanPlays Go.Proofs.Ytiohjnhbapbglaa.SpPure Go.Proofs.Ytiohjnhbapbglaa.SpLaw Go.Proofs.Ytiohjnhbapbglaa.SpSet Go.Proofs.Ytiohjnhbapbglaa.SpFind Go.Proofs.Ytiohjnhbapbglaa.SpAsk Go.Proofs.Ytiohjnhbapbglaa.SpCut Go.Proofs.Ytiohjnhbapbglaa.PartsPure Go.Proofs.YtiohjnhbapbglaaW.PrintWords Go.Proofs.YtiohjnhbapbglaaW.PrintLast Go.Proofs.YtiohjnhbapbglaaW.PrintMore

theorem tailC1 {w : World} {base k d : Nat} {ok : Nat → Prop} {B : Option Addr} {m : List S28} (h : k28.Q 28 w base ok (.slice B m.length d) m) (hk : k ≤ m.length) (e : d = k) : k28.C w B (m.drop k).length (m.drop k) := by
  have h2 := Kd.Q_drop h hk
  rw [if_pos e] at h2
  exact (Kd.Q_reads' h2).2.2
theorem tailC2 {w : World} {base k d : Nat} {ok : Nat → Prop} {B : Option Addr} {m : List S28} (h : k28.Q 28 w base ok (.slice B m.length d) m) (hk : k ≤ m.length) (e : ¬ d = k) : k28.C w (B.map fun x => x.add (k * 2)) (m.drop k).length (m.drop k) := by
  have h2 := Kd.Q_drop h hk
  rw [if_neg e] at h2
  exact (Kd.Q_reads' h2).2.2
/-- How many are too many. -/
def over (n : Nat) (lim : Int) : Nat := ((n : Int) - lim).toNat
/-- What AddLast leaves. -/
def ALP (w : World) (base g : Nat) (l : List S28) (lim : Int) (r : S28) (e : Ending) (w' : World) : Prop :=
  Below base w w' ∧ KeepBut w w' g none ∧
  ((r.f0 ≥ r.f1 ∧ e = .returned (.int .i64 0) ∧ ∃ B d, St w' base g B d l lim) ∨
   (r.f0 < r.f1 ∧ e = .returned (.int .i64 (over (adds l false r).length lim)) ∧ ∃ B d, St w' base g B d ((adds l false r).drop (over (adds l false r).length lim)) lim))
set_option maxRecDepth 100000 in
set_option maxHeartbeats 4000000 in
theorem addlast_calls {w : World} {base g : Nat} {A : Option Addr} {c : Nat} {l : List S28} {lim : Int} (h : St w base g A c l lim) (hbs : base ≤ w.heap.size) (r : S28) (hl : l.length ≤ 999) (hlim : 1 ≤ lim ∧ lim ≤ 9223372036854775807) :
    Calls Try.prog 25 #[.pointer (some ⟨g, 0, none⟩), .agg #[.int .u64 r.f0, .int .u64 r.f1]] w fun e w' => ALP w base g l lim r e w' := by
  have k1 := blk_new w (RG r)
  have hb1 := below_alloc (Below.refl w.heap.size w) (RG r)
  have h1 := h.below hb1
  have hlt := h.lt
  have HK := Lib.hid (KeepBut.of_below hb1 g none)
  have hs1 := hb1.size
  go_enter Try.func25, Try.ntmps25
  go_upto_region 1 with (fail)
  show Code.wp _ _ _ _ (w.alloc (RG r))
  generalize w.alloc (RG r) = w1 at *
  have hgp : g ≠ w.heap.size := by omega
  generalize hgp2 : w.heap.size = gp at *
  have HB := Lib.hid hb1
  have K1 := Lib.hid k1
  have HS := Lib.hid h1
  clear h hb1 k1 h1 hgp2
  obtain ⟨r0, r1⟩ := rg_cells K1.out
  obtain ⟨l0, l1⟩ := sb_cells HS.out.blk
  by_cases hr : r.f0 ≥ r.f1
  · have g1 : decide (r.f0 ≥ r.f1) = true := decide_eq_true hr
    have HBB := Lib.hid (HB.out.mono hbs)
    go_wp2_with fail
    go_ret
    exact ⟨HBB.out, HK.out, .inl ⟨hr, rfl, _, _, HS.out⟩⟩
  · have g1 : decide (r.f0 ≥ r.f1) = false := decide_eq_false hr
    go_upto_region 3 with (fail)
    have u0 := blk_frozen HS.out.blk 0
    go_region_with ((go_at_call 61; refine (span_added.calls (l.length + 1) A c l r.f0 r.f1 (adds l false r) _ (Kd.C_below (Kd.Q_reads' HS.out.q).2.2 (below_drew (Below.refl w1.heap.size w1))) (Kd.Q_reads' HS.out.q).2.1 (added_f l (by omega) r)).mono ?_; rintro e wx ⟨v, rfl, hv, hbx⟩; obtain ⟨B, d, rfl, _⟩ := Kd.R_reads hv; have hbw := below_step (below_drew (Below.refl w1.heap.size w1)) hbx; have HX := Lib.hid hbw; have HV := Lib.hid hv; obtain ⟨l0', l1'⟩ := sb_cells (blk_below HS.out.blk hbw); have u0' := blk_frozen (blk_below HS.out.blk hbw) 0; clear hbx hv hbw))
    all_goals
      have hbw := HX.out
      have hq2 := Kd.Q_lower (Kd.Q_of_R HV.out) (show base ≤ w1.drew.heap.size from Nat.le_trans hbs hs1)
      have hs3 := (HS.out.below hbw).row hq2
      have hk3 := (HK.out.trans (KeepBut.of_below hbw g none) (.inl rfl)).set_ 0 (.slice B (adds l false r).length d)
      have hb3 := ((HB.out.mono hbs).trans (hbw.mono (Nat.le_trans hbs hs1))).setCell (p := ⟨g, 0, none⟩) HS.out.old (.slice B (adds l false r).length d)
      have hml := adds_len l false r
      obtain ⟨m, hm⟩ : ∃ m, adds l false r = m := ⟨_, rfl⟩
      have HM := Lib.hid hm
      rw [hm] at hs3 hk3 hb3 hml ⊢
      generalize wx.setCell ⟨g, 0, none⟩ (.slice B m.length d) = w3 at *
      clear HS HB HK HX HV hbw hq2 l0 l1 l0' l1' r0 r1 u0 u0' K1 hm
      rename_i hri
      clear hri
      have HS := Lib.hid hs3
      have HK := Lib.hid hk3
      have HB := Lib.hid hb3
      clear hs3 hk3 hb3
      obtain ⟨l0, l1⟩ := sb_cells HS.out.blk
      obtain ⟨k, hk⟩ : ∃ k, over m.length lim = k := ⟨_, rfl⟩
      have hkm : k ≤ m.length := by rw [← hk]; unfold over; omega
      obtain ⟨z, hz⟩ : ∃ z, IntKind.i64.wrap ((m.length : Int) - lim) = z := ⟨_, rfl⟩
      have hzk : (if z < 0 then 0 else z) = (k : Int) := by rw [← hz, ← hk, IntKind.wrap_i64]; unfold over; split <;> omega
      have HKK := Lib.hid hk
      clear hk
      go_upto_region 4 with (fail)
      go_region
      go_wp2_with fail
      all_goals rename_i h
      · have HC := Lib.hid (tailC1 HS.out.q hkm h)
        rw [show m.length - k = (m.drop k).length from List.length_drop.symm]
        have hml2 : (m.drop k).length ≤ 1000 := by rw [List.length_drop]; omega
        clear h l0 l1
        refine (clone_calls _ _ (m.drop k) w3.drew (Kd.C_below HC.out (below_drew (Below.refl w3.heap.size w3))) hml2).mono ?_
        rintro e wy ⟨B', d', rfl, hq, hbx⟩
        have hbw := below_step (below_drew (Below.refl w3.heap.size w3)) hbx
        have hb3 : base ≤ w3.drew.heap.size := by have := HS.out.lt; have := HS.out.old; show base ≤ w3.heap.size; omega
        have hs4 := (HS.out.below hbw)
        have hs5 := hs4.row (Kd.Q_lower hq hb3)
        have u0 := blk_frozen hs4.blk 0
        obtain ⟨l0, l1⟩ := sb_cells hs4.blk
        have hk5 := (HK.out.trans (KeepBut.of_below hbw g none) (.inl rfl)).set_ 0 (.slice B' (m.drop k).length d')
        have hb5 := (HB.out.trans (hbw.mono hb3)).setCell (p := ⟨g, 0, none⟩) HS.out.old (.slice B' (m.drop k).length d')
        have HS5 := Lib.hid hs5
        have HK5 := Lib.hid hk5
        have HB5 := Lib.hid hb5
        clear hs4 hs5 hk5 hb5 hq hbx hbw HS HK HB HC
        generalize (m.drop k).length = nk at *
        go_wp2_with fail
        go_ret
        exact ⟨HB5.out, HK5.out, .inr ⟨by omega, by rw [HM.out, HKK.out]; rfl, B', d', by rw [HM.out, HKK.out]; exact HS5.out⟩⟩
      · have HC := Lib.hid (tailC2 HS.out.q hkm h)
        rw [show m.length - k = (m.drop k).length from List.length_drop.symm]
        have hml2 : (m.drop k).length ≤ 1000 := by rw [List.length_drop]; omega
        clear h l0 l1
        refine (clone_calls _ _ (m.drop k) w3.drew (Kd.C_below HC.out (below_drew (Below.refl w3.heap.size w3))) hml2).mono ?_
        rintro e wy ⟨B', d', rfl, hq, hbx⟩
        have hbw := below_step (below_drew (Below.refl w3.heap.size w3)) hbx
        have hb3 : base ≤ w3.drew.heap.size := by have := HS.out.lt; have := HS.out.old; show base ≤ w3.heap.size; omega
        have hs4 := (HS.out.below hbw)
        have hs5 := hs4.row (Kd.Q_lower hq hb3)
        have u0 := blk_frozen hs4.blk 0
        obtain ⟨l0, l1⟩ := sb_cells hs4.blk
        have hk5 := (HK.out.trans (KeepBut.of_below hbw g none) (.inl rfl)).set_ 0 (.slice B' (m.drop k).length d')
        have hb5 := (HB.out.trans (hbw.mono hb3)).setCell (p := ⟨g, 0, none⟩) HS.out.old (.slice B' (m.drop k).length d')
        have HS5 := Lib.hid hs5
        have HK5 := Lib.hid hk5
        have HB5 := Lib.hid hb5
        clear hs4 hs5 hk5 hb5 hq hbx hbw HS HK HB HC
        generalize (m.drop k).length = nk at *
        go_wp2_with fail
        go_ret
        exact ⟨HB5.out, HK5.out, .inr ⟨by omega, by rw [HM.out, HKK.out]; rfl, B', d', by rw [HM.out, HKK.out]; exact HS5.out⟩⟩
end Go.Proofs.Ytiohjnhbapbglaa.SpLast
