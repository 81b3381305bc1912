/- The ledger as it lies in memory, and what stays of it. No condition. -/
import Derived.Test.YtclmnpdabnogkaaLossIn
import Derived.Test.YtclmnpdabnogkaaEvClone
namespace Go.Proofs.Ytclmnpdabnogkaa.LossLed
open Go.RowKit Go.Proofs.Ytclmnpdabnogkaa.PLossTimes Go.Proofs.Ytclmnpdabnogkaa.EvClone Go.Proofs.YtclmnpdabnogkaaW.PrintWords Go.Proofs.YtclmnpdabnogkaaW.PrintLast Go.Proofs.YtclmnpdabnogkaaW.PrintMore

def LD (A : Option Addr) (n c : Nat) (ak la : Int) (wt : Bool) (ls : Int) (sm : Bool) : Obj := .cells #[.slice A n c, .int .i64 ak, .int .u64 la, .bool wt, .int .u64 ls, .bool sm] 81
def PK (x : S56) : Obj := .cells #[.int .u64 x.f0, .int .u64 x.f1, .int .u64 x.f2, .bool x.f3, .bool x.f4] 56
theorem info56 : (Try.prog.info? 56).map (fun i => (i.zero, i.size, i.bytes)) = some (some (.agg #[.int .u64 0, .int .u64 0, .int .u64 0, .bool false, .bool false]), 5, 32) := by kernel_rfl
theorem t56 : ∀ q, q ∈ 56 :: k56.E → q ≠ 81 := by decide
theorem t56_5 : ∀ q, q ∈ 56 :: k56.E → q ≠ 65 := by decide

/-- The ledger, and its row. -/
structure Led (w : World) (base g : Nat) (A : Option Addr) (c : Nat) (ps : List S56) (ak la : Int) (wt : Bool) (ls : Int) (sm : Bool) : Prop where
  blk : w.heap[g]? = some (LD A ps.length c ak la wt ls sm)
  q : k56.Q 56 w base (fun _ => True) (.slice A ps.length c) ps
  old : base ≤ g
theorem ld_cells {w : World} {g : Nat} {A : Option Addr} {n c : Nat} {ak la : Int} {wt : Bool} {ls : Int} {sm : Bool} (h : w.heap[g]? = some (LD A n c ak la wt ls sm)) :
    w.cell? ⟨g, 0, none⟩ = some (.slice A n c) ∧ w.cell? ⟨g, 1, none⟩ = some (.int .i64 ak) ∧ w.cell? ⟨g, 2, none⟩ = some (.int .u64 la) ∧ w.cell? ⟨g, 3, none⟩ = some (.bool wt) ∧ w.cell? ⟨g, 4, none⟩ = some (.int .u64 ls) ∧ w.cell? ⟨g, 5, none⟩ = some (.bool sm) :=
  ⟨blk_cell h 0, blk_cell h 1, blk_cell h 2, blk_cell h 3, blk_cell h 4, blk_cell h 5⟩
theorem pk_cells {w : World} {g : Nat} {x : S56} (h : w.heap[g]? = some (PK x)) :
    w.cell? ⟨g, 0, none⟩ = some (.int .u64 x.f0) ∧ w.cell? ⟨g, 1, none⟩ = some (.int .u64 x.f1) ∧ w.cell? ⟨g, 2, none⟩ = some (.int .u64 x.f2) ∧ w.cell? ⟨g, 3, none⟩ = some (.bool x.f3) ∧ w.cell? ⟨g, 4, none⟩ = some (.bool x.f4) :=
  ⟨blk_cell h 0, blk_cell h 1, blk_cell h 2, blk_cell h 3, blk_cell h 4⟩
section
variable {w wn : World} {base g : Nat} {A : Option Addr} {c : Nat} {ps : List S56} {ak la : Int} {wt : Bool} {ls : Int} {sm : Bool}
theorem Led.below (h : Led w base g A c ps ak la wt ls sm) (hb : Below w.heap.size w wn) : Led wn base g A c ps ak la wt ls sm := ⟨blk_below h.blk hb, Kd.Q_below h.q hb, h.old⟩
theorem Led.acked (h : Led w base g A c ps ak la wt ls sm) (x : Int) : Led (w.setCell ⟨g, 1, none⟩ (.int .i64 x)) base g A c ps x la wt ls sm := ⟨blk_put h.blk 1 _ rfl, Kd.Q_set h.q h.blk t56 1 _, h.old⟩
theorem Led.lost (h : Led w base g A c ps ak la wt ls sm) (x : Int) : Led (w.setCell ⟨g, 2, none⟩ (.int .u64 x)) base g A c ps ak x wt ls sm := ⟨blk_put h.blk 2 _ rfl, Kd.Q_set h.q h.blk t56 2 _, h.old⟩
theorem Led.wait (h : Led w base g A c ps ak la wt ls sm) (x : Bool) : Led (w.setCell ⟨g, 3, none⟩ (.bool x)) base g A c ps ak la x ls sm := ⟨blk_put h.blk 3 _ rfl, Kd.Q_set h.q h.blk t56 3 _, h.old⟩
theorem Led.last (h : Led w base g A c ps ak la wt ls sm) (x : Int) : Led (w.setCell ⟨g, 4, none⟩ (.int .u64 x)) base g A c ps ak la wt x sm := ⟨blk_put h.blk 4 _ rfl, Kd.Q_set h.q h.blk t56 4 _, h.old⟩
theorem Led.some' (h : Led w base g A c ps ak la wt ls sm) (x : Bool) : Led (w.setCell ⟨g, 5, none⟩ (.bool x)) base g A c ps ak la wt ls x := ⟨blk_put h.blk 5 _ rfl, Kd.Q_set h.q h.blk t56 5 _, h.old⟩
theorem Led.row (h : Led w base g A c ps ak la wt ls sm) {B : Option Addr} {d : Nat} {qs : List S56} (hq : k56.Q 56 w base (fun _ => True) (.slice B qs.length d) qs) : Led (w.setCell ⟨g, 0, none⟩ (.slice B qs.length d)) base g B d qs ak la wt ls sm := ⟨blk_put h.blk 0 _ rfl, Kd.Q_set hq h.blk t56 0 _, h.old⟩
theorem Led.grow (h : Led w base g A c ps ak la wt ls sm) {B : Option Addr} {d : Nat} {qs : List S56} (hg : w.grownBy wn (Value.slice A ps.length c).ownBlock) (hq : k56.Q 56 wn base (fun _ => True) (.slice B qs.length d) qs) :
    wn.heap[g]? = some (LD A ps.length c ak la wt ls sm) ∧ Led (wn.setCell ⟨g, 0, none⟩ (.slice B qs.length d)) base g B d qs ak la wt ls sm := by
  have hb := blk_grown h.blk hg (Kd.Q_ne h.q h.blk (by decide))
  exact ⟨hb, blk_put hb 0 _ rfl, Kd.Q_set hq hb t56 0 _, h.old⟩
/-- Another own row of packets grows: the ledger stays, if the row isn't its own. -/
theorem Led.beside (h : Led w base g A c ps ak la wt ls sm) {v : Value} {qs : List S56} {b : Nat} {ok : Nat → Prop} (hv : k56.Q 56 w b ok v qs) (hg : w.grownBy wn v.ownBlock) (hne : ∀ k, v.ownBlock = some k → some k ≠ (Value.slice A ps.length c).ownBlock) : Led wn base g A c ps ak la wt ls sm :=
  ⟨blk_grown h.blk hg (Kd.Q_ne hv h.blk (by decide)), Kd.Q_grown2 h.q rfl hg hne, h.old⟩
end
end Go.Proofs.Ytclmnpdabnogkaa.LossLed
