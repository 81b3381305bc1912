/- A call's range; the calls' row. No condition. -/
import Derived.Test.YtiohjnhbapbglaaPartsPure
namespace Go.Proofs.Ytiohjnhbapbglaa.SpAct
open Go.RowKit Go.Proofs.Ytiohjnhbapbglaa.PSpanPlays Go.Proofs.Ytiohjnhbapbglaa.SpSet Go.Proofs.YtiohjnhbapbglaaW.PrintWords Go.Proofs.YtiohjnhbapbglaaW.PrintLast Go.Proofs.YtiohjnhbapbglaaW.PrintMore

structure S30 where
  f0 : Int
  f1 : Int
  f2 : Int
  f3 : S28
  f4 : Bool
def z30 : S30 := ⟨0, 0, 0, z28, false⟩
def k30 : Kd S30 := Kd.iso (Kd.pair (Kd.int .u8) (Kd.pair (Kd.int .u8) (Kd.pair (Kd.int .u8) (Kd.pair k28 Kd.bool)))) (fun x : S30 => (x.f0, x.f1, x.f2, x.f3, x.f4))
theorem k30_open {w : World} {x : S30} {cs : List Value} (h : k30.K w x cs) : cs = [.int .u8 x.f0, .int .u8 x.f1, .int .u8 x.f2, .int .u64 x.f3.f0, .int .u64 x.f3.f1, .bool x.f4] := by
  obtain ⟨_, _, rfl, rfl, ⟨_, _, rfl, rfl, ⟨_, _, rfl, rfl, ⟨a, b, rfl, h3, h4⟩⟩⟩⟩ := h
  obtain rfl := k28_open h3
  obtain rfl : b = [.bool x.f4] := h4
  rfl
def rd30 (xs : List S30) (i : Int) : S30 := xs.getD i.toNat z30
theorem at_30 {w : World} {A : Option Addr} {n : Nat} {xs : List S30} (h : Kd.C k30 w A n xs) (i : Int) (h0 : 0 ≤ i) (h1 : i < n) : ∃ ad , A = some ad ∧ w.cell? (ad.add (i.toNat * 6)) = some (.int .u8 (rd30 xs i).f0) ∧ w.cell? ⟨(ad.add (i.toNat * 6)).block, (ad.add (i.toNat * 6)).off + 1, none⟩ = some (.int .u8 (rd30 xs i).f1) ∧ w.cell? ⟨(ad.add (i.toNat * 6)).block, (ad.add (i.toNat * 6)).off + 2, none⟩ = some (.int .u8 (rd30 xs i).f2) ∧ w.cell? ⟨(ad.add (i.toNat * 6)).block, (ad.add (i.toNat * 6)).off + 3, none⟩ = some (.int .u64 (rd30 xs i).f3.f0) ∧ w.cell? ⟨(ad.add (i.toNat * 6)).block, (ad.add (i.toNat * 6)).off + 4, none⟩ = some (.int .u64 (rd30 xs i).f3.f1) ∧ w.cell? ⟨(ad.add (i.toNat * 6)).block, (ad.add (i.toNat * 6)).off + 5, none⟩ = some (.bool (rd30 xs i).f4) := by
  obtain ⟨ad, c, e, _, hK, hc0⟩ := Kd.C_get h z30 i h0 h1
  have hc : ∀ j u, c[j]? = some u → w.cell? (ad.add (i.toNat * 6 + j)) = some u := hc0
  obtain rfl := k30_open hK
  exact ⟨ad, e, hc 0 _ rfl, by rw [← add_field _ _ 1 (by omega)]; exact hc 1 _ rfl, by rw [← add_field _ _ 2 (by omega)]; exact hc 2 _ rfl, by rw [← add_field _ _ 3 (by omega)]; exact hc 3 _ rfl, by rw [← add_field _ _ 4 (by omega)]; exact hc 4 _ rfl, by rw [← add_field _ _ 5 (by omega)]; exact hc 5 _ rfl⟩
def AC (x : S30) : Obj := .cells #[.int .u8 x.f0, .int .u8 x.f1, .int .u8 x.f2, .int .u64 x.f3.f0, .int .u64 x.f3.f1, .bool x.f4] 30
theorem ac_cells {w : World} {g : Nat} {x : S30} (h : w.heap[g]? = some (AC x)) : w.cell? ⟨g, 0, none⟩ = some (.int .u8 x.f0) ∧ w.cell? ⟨g, 1, none⟩ = some (.int .u8 x.f1) ∧ w.cell? ⟨g, 2, none⟩ = some (.int .u8 x.f2) ∧ w.cell? ⟨g, 3, none⟩ = some (.int .u64 x.f3.f0) ∧ w.cell? ⟨g, 4, none⟩ = some (.int .u64 x.f3.f1) ∧ w.cell? ⟨g, 5, none⟩ = some (.bool x.f4) :=
  ⟨blk_cell h 0, blk_cell h 1, blk_cell h 2, blk_cell h 3, blk_cell h 4, blk_cell h 5⟩
/-- The range of a call. -/
def rng (x : S30) : S28 := if x.f4 = true then x.f3 else ⟨IntKind.u64.wrap (Int.tmod x.f1 60), IntKind.u64.wrap ((IntKind.u64.wrap (Int.tmod x.f1 60)) + (IntKind.u64.wrap (Int.tmod x.f2 9)))⟩
theorem range_calls (x : S30) (w : World) : Calls Try.prog 16 #[.agg #[.int .u8 x.f0, .int .u8 x.f1, .int .u8 x.f2, .int .u64 x.f3.f0, .int .u64 x.f3.f1, .bool x.f4]] w fun e w' => e = .returned (.agg #[.int .u64 (rng x).f0, .int .u64 (rng x).f1]) ∧ Below w.heap.size w w' := by
  refine binnaclelaw07_Act_Range.calls x.f0 x.f1 x.f2 x.f3.f0 x.f3.f1 x.f4 (rng x).f0 (rng x).f1 w ?_
  unfold binnaclelaw07_Act_Range.f rng
  cases x.f4 <;> rfl
/-- The numbers are of their kinds. -/
def Ok30 (x : S30) : Prop := (0 ≤ x.f3.f0 ∧ x.f3.f0 ≤ 18446744073709551615) ∧ 0 ≤ x.f3.f1 ∧ x.f3.f1 ≤ 18446744073709551615
theorem rng_bd (x : S30) (h : Ok30 x) : 0 ≤ (rng x).f0 ∧ (rng x).f1 ≤ 18446744073709551615 := by
  unfold rng
  obtain ⟨h1, h2⟩ := h
  split
  · omega
  · show 0 ≤ IntKind.u64.wrap _ ∧ IntKind.u64.wrap _ ≤ _
    simp only [IntKind.wrap_u64]
    omega
end Go.Proofs.Ytiohjnhbapbglaa.SpAct
