-- PRINTED BY print.sh 35421559b90ae4d0a3588c463048766b98c2df88dd9212a6774a882060cdf62d: not written by this session
import Derived.Test.YtloiihbhpmmaiaaProg
import Derived.Below
import Derived.Deep.Draws
import Derived.Deep.AppendLies
import Derived.Maps.AppendAt
import Derived.OwnWalk
import Derived.Laws.BytesArg
import Derived.Laws.MakeOwn
import Derived.Laws.OwnMore
import Derived.Deep.OwnRows
import Derived.Tactics
import Derived.Lib.ConvBytes
import Derived.Laws.Slices
import Derived.WalkKit
import Derived.KernelRfl
import Derived.RowKit3
import Derived.Deep.LoopGhost
import Derived.Deep.QuietTactic
import Derived.BigQuiet
import Derived.WideLaws
import Derived.Deep.DeepCutAuto
import Derived.Deep.CutBlock
import Derived.Deep.RegionHeld3
import Derived.Laws.Rows
import Derived.Lib.AppendStr
import Derived.ArgAppend
import Derived.Laws.IdiomCopy
import Derived.OrdersHeld
import Derived.Laws.BitsLemmas
import Derived.RowKit
import Derived.Test.YtloiihbhpmmaiaaWWords
import Derived.Test.YtloiihbhpmmaiaaWLast
import Derived.Test.YtloiihbhpmmaiaaWTab
import Derived.Test.YtloiihbhpmmaiaaWFour
import Derived.Test.YtloiihbhpmmaiaaWQPut
import Derived.Test.YtloiihbhpmmaiaaWApart
import Derived.Test.YtloiihbhpmmaiaaWArr
import Derived.Test.YtloiihbhpmmaiaaWZeros
import Derived.Test.YtloiihbhpmmaiaaWFoot
import Derived.Test.YtloiihbhpmmaiaaWKept
import Derived.Test.YtloiihbhpmmaiaaWShare
import Derived.Test.YtloiihbhpmmaiaaWN
import Derived.Test.YtloiihbhpmmaiaaWFootNe
import Derived.Test.YtloiihbhpmmaiaaWAt
import Derived.Test.YtloiihbhpmmaiaaWEqStruct
import Derived.Test.YtloiihbhpmmaiaaWRepsOne
import Derived.Test.YtloiihbhpmmaiaaWInv
import Derived.Test.YtloiihbhpmmaiaaWInvWords
import Derived.Test.YtloiihbhpmmaiaaWGuard
import Derived.Test.YtloiihbhpmmaiaaWNEv
import Derived.Test.YtloiihbhpmmaiaaWMore
namespace Go.Proofs.Ytloiihbhpmmaiaa.PCreditGets
open Go.RowKit Go.Proofs.YtloiihbhpmmaiaaW.PrintWords Go.Proofs.YtloiihbhpmmaiaaW.PrintLast Go.Proofs.YtloiihbhpmmaiaaW.PrintMore
attribute [local go_sem] max2_int min2_int max_two min_two max_three min_three max_four min_four   -- for this text's walks alone
set_option linter.unusedVariables false
set_option linter.unusedSimpArgs false



def errW : Option Int → Value
  | none => .nilIface
  | some c => .iface 0 (.int .i64 c)
theorem errW_none : errW none = .nilIface := rfl
theorem errW_some (c : Int) : errW (some c) = .iface 0 (.int .i64 c) := rfl

-- the values' own types
/-! #### struct type 54 -/
structure S54 where
  f0 : Int
  f1 : Int
  f2 : Int
  f3 : Bool
def z54 : S54 := ⟨(0 : Int), (0 : Int), (0 : Int), false⟩
def k54 : Kd S54 := Kd.iso (Kd.pair (Kd.int .u8) (Kd.pair (Kd.int .u16) (Kd.pair (Kd.int .u64) Kd.bool))) (fun x : S54 => (x.f0, x.f1, x.f2, x.f3))
theorem k54_open {w : World} {x : S54} {cs : List Value} (h : k54.K w x cs) : cs = [.int .u8 x.f0, .int .u16 x.f1, .int .u64 x.f2, .bool x.f3] := by
  obtain ⟨_, _, rfl, rfl, ⟨_, _, rfl, rfl, ⟨_, _, rfl, rfl, rfl⟩⟩⟩ := h
  exact rfl
theorem k54_openM {w : World} {base : Nat} {ok : Nat → Prop} {x : S54} {cs : List Value} (h : k54.M w base ok x cs) : cs = [.int .u8 x.f0, .int .u16 x.f1, .int .u64 x.f2, .bool x.f3] := by
  obtain ⟨_, _, rfl, rfl, ⟨_, _, rfl, rfl, ⟨_, _, rfl, rfl, rfl⟩⟩⟩ := h
  exact rfl
theorem k54_mk (w : World) (x : S54)  : k54.K w x [.int .u8 x.f0, .int .u16 x.f1, .int .u64 x.f2, .bool x.f3] := ⟨[.int .u8 x.f0], [.int .u16 x.f1, .int .u64 x.f2, .bool x.f3], rfl, rfl, ⟨[.int .u16 x.f1], [.int .u64 x.f2, .bool x.f3], rfl, rfl, ⟨[.int .u64 x.f2], [.bool x.f3], rfl, rfl, rfl⟩⟩⟩
theorem k54_mkM (w : World) (base : Nat) (ok : Nat → Prop) (x : S54)  : k54.M w base ok x [.int .u8 x.f0, .int .u16 x.f1, .int .u64 x.f2, .bool x.f3] := ⟨[.int .u8 x.f0], [.int .u16 x.f1, .int .u64 x.f2, .bool x.f3], rfl, rfl, ⟨[.int .u16 x.f1], [.int .u64 x.f2, .bool x.f3], rfl, rfl, ⟨[.int .u64 x.f2], [.bool x.f3], rfl, rfl, rfl⟩⟩⟩
def rd_T54 (xs : List S54) (i : Int) : S54 := xs.getD i.toNat z54
theorem at_T54 {w : World} {A : Option Addr} {n : Nat} {xs : List S54} (h : Kd.C k54 w A n xs) (i : Int) (h0 : 0 ≤ i) (h1 : i < n) : ∃ ad , A = some ad ∧ w.cell? (ad.add (i.toNat * 4)) = some (.int .u8 (rd_T54 xs i).f0) ∧ w.cell? ⟨(ad.add (i.toNat * 4)).block, (ad.add (i.toNat * 4)).off + 1, none⟩ = some (.int .u16 (rd_T54 xs i).f1) ∧ w.cell? ⟨(ad.add (i.toNat * 4)).block, (ad.add (i.toNat * 4)).off + 2, none⟩ = some (.int .u64 (rd_T54 xs i).f2) ∧ w.cell? ⟨(ad.add (i.toNat * 4)).block, (ad.add (i.toNat * 4)).off + 3, none⟩ = some (.bool (rd_T54 xs i).f3) := by
  obtain ⟨ad, c, e, _, hK, hc0⟩ := Kd.C_get h z54 i h0 h1
  have hc : ∀ j u, c[j]? = some u → w.cell? (ad.add (i.toNat * 4 + j)) = some u := hc0
  obtain rfl := k54_open hK
  exact ⟨ad, e, hc 0 _ rfl, by rw [← add_field _ _ 1 (by omega)]; exact hc 1 _ rfl, by rw [← add_field _ _ 2 (by omega)]; exact hc 2 _ rfl, by rw [← add_field _ _ 3 (by omega)]; exact hc 3 _ rfl⟩

end Go.Proofs.Ytloiihbhpmmaiaa.PCreditGets
