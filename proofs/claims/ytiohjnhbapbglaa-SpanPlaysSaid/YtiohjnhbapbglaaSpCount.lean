/- Count: how many numbers are in a set. Condition: no row is long. -/
import Derived.Test.YtiohjnhbapbglaaSpAct
namespace Go.Proofs.Ytiohjnhbapbglaa.SpCount
open Go.RowKit Go.Proofs.Ytiohjnhbapbglaa.PSpanPlays Go.Proofs.Ytiohjnhbapbglaa.SpPure Go.Proofs.Ytiohjnhbapbglaa.SpLaw Go.Proofs.Ytiohjnhbapbglaa.SpSet Go.Proofs.Ytiohjnhbapbglaa.SpCut Go.Proofs.Ytiohjnhbapbglaa.PartsPure Go.Proofs.YtiohjnhbapbglaaW.PrintWords Go.Proofs.YtiohjnhbapbglaaW.PrintLast Go.Proofs.YtiohjnhbapbglaaW.PrintMore

def cnt : List S28 → Int
  | [] => 0
  | x :: l => (x.f1 - x.f0) + cnt l
theorem cnt_append : ∀ l m : List S28, cnt (l ++ m) = cnt l + cnt m
  | [], m => by simp [cnt]
  | x :: l, m => by simp only [List.cons_append, cnt, cnt_append l m]; omega
theorem cnt_take (l : List S28) (j : Nat) (h : j < l.length) : cnt (l.take (j + 1)) = cnt (l.take j) + ((rd_T28 l j).f1 - (rd_T28 l j).f0) := by
  have e : l[j]? = some (rd_T28 l j) := by
    unfold rd_T28
    rw [Int.toNat_natCast, List.getD_eq_getElem?_getD, List.getElem?_eq_getElem h]; rfl
  rw [List.take_add_one, e, cnt_append]
  simp [cnt]
theorem wrap_add (a b : Int) : IntKind.u64.wrap (IntKind.u64.wrap a + IntKind.u64.wrap b) = IntKind.u64.wrap (a + b) := by
  simp only [IntKind.wrap_u64]; omega
set_option maxRecDepth 100000 in
set_option maxHeartbeats 4000000 in
theorem count_calls {w : World} {base g : Nat} {A : Option Addr} {c : Nat} {l : List S28} {lim : Int} (h : St w base g A c l lim) (hl : l.length ≤ 1000) :
    Calls Try.prog 21 #[.pointer (some ⟨g, 0, none⟩)] w fun e w' => e = .returned (.int .u64 (IntKind.u64.wrap (cnt l))) ∧ Below w.heap.size w w' := by
  have HS := Lib.hid h
  clear h
  go_enter Try.func21, Try.ntmps21
  go_wp2_with fail
  refine (list_calls HS.out hl).mono ?_
  rintro e w1 ⟨B, d, rfl, hq, hb⟩
  have HQ := Lib.hid hq
  have HB := Lib.hid hb
  clear hq hb
  go_upto_region 3 with (fail)
  go_loopw [3, 9] (fun s i wr => ∃ j : Nat, j ≤ l.length ∧ s = .int .u64 (IntKind.u64.wrap (cnt (l.take j))) ∧ i = .int .i64 j ∧ Below w1.heap.size w1 wr) (fun _ i _ => l.length - (intOf i).toNat)
  case atStart => exact ⟨0, Nat.zero_le _, rfl, rfl, Below.refl _ _⟩
  case round =>
    obtain ⟨j, hj, rfl, rfl, hb⟩ := hrel
    by_cases hjl : j < l.length
    · have e1 : (j : Int) < (l.length : Int) := by omega
      have hq := Kd.Q_below HQ.out hb
      obtain ⟨ra, o, cap, hA, _⟩ := Kd.Q_form hq (by omega)
      obtain rfl : B = some ⟨ra, o, none⟩ := by injection hA
      clear hA
      obtain ⟨p0, p1⟩ := SpAsk.row_cells hq j hjl
      have HC := Lib.hid (cnt_take l j hjl)
      generalize rd_T28 l (j : Int) = x at *
      generalize hsv : IntKind.u64.wrap (cnt (l.take j)) = s at *
      have HST := Lib.hid (show IntKind.u64.wrap (s + IntKind.u64.wrap (x.f1 - x.f0)) = IntKind.u64.wrap (cnt (l.take (j + 1))) by rw [HC.out, ← hsv]; exact wrap_add _ _)
      clear hsv hq HC
      go_upto_region 5 with (fail)
      have kx := blk_new wr (RG x)
      have hb4 := hb.trans ((below_alloc (Below.refl wr.heap.size wr) (RG x)).mono hb.size)
      show Code.wp _ _ _ _ (wr.alloc (RG x))
      clear p0 p1 hb
      generalize wr.alloc (RG x) = w4 at *
      obtain ⟨x0, x1⟩ := rg_cells kx
      have HB4 := Lib.hid hb4
      clear kx hb4
      go_wp2_with fail
      go_roundw
      case rel => exact ⟨j + 1, hjl, by rw [HST.out], by go_num, HB4.out⟩
      case measure => simp [intOf]; omega
    · have hje : j = l.length := by omega
      subst hje
      have e1 : decide ((l.length : Int) < (l.length : Int)) = false := decide_eq_false (by omega)
      rw [List.take_length] at *
      obtain ⟨s, hs⟩ : ∃ s, IntKind.u64.wrap (cnt l) = s := ⟨_, rfl⟩
      have HS2 := Lib.hid hs
      rw [hs]
      clear hs
      have HF := Lib.hid (HB.out.trans (hb.mono HB.out.size))
      go_wp2_with fail
      go_ret
      exact ⟨by rw [HS2.out]; rfl, HF.out⟩
end Go.Proofs.Ytiohjnhbapbglaa.SpCount
