/- The set of the numbers that were lost, as a map that the call makes: what is not in it reads as false. No condition. -/
import Derived.Test.YtclmnpdabnogkaaLossMore
import Derived.Maps.OwnSet
namespace Go.Proofs.Ytclmnpdabnogkaa.LossSeen
open Go.RowKit Go.Maps Go.ChangeMaps Go.Proofs.Ytclmnpdabnogkaa.PLossTimes Go.Proofs.YtclmnpdabnogkaaW.PrintWords Go.Proofs.YtclmnpdabnogkaaW.PrintLast Go.Proofs.YtclmnpdabnogkaaW.PrintMore

theorem zero4 (w : World) : (zeroValue 4).run Try.prog w = .ok (.bool false) w := by kernel_rfl
/-- The map's block holds true at no number outside S, and at most n entries. -/
def SeenM (w : World) (b n : Nat) (S : List Int) : Prop :=
  ∃ D : DataW Unit, w.ownsMap Try.prog 36 (plainElem Try.prog 4) b n D ∧ ∀ v : Int, v ∉ S → D.atKey (.int .u64 v) (.lit (.bool false)) = .lit (.bool false)
theorem SeenM.move {w w' : World} {b n : Nat} {S : List Int} (h : SeenM w b n S) (hb : w'.heap[b]? = w.heap[b]?) : SeenM w' b n S := by
  obtain ⟨D, ⟨es, clock, h1, h2⟩, h3⟩ := h
  exact ⟨D, ⟨es, clock, hb.trans h1, h2⟩, h3⟩
theorem SeenM.lt {w : World} {b n : Nat} {S : List Int} (h : SeenM w b n S) : b < w.heap.size := by
  obtain ⟨D, h1, _⟩ := h
  exact h1.lt
theorem SeenM.mono {w : World} {b n m : Nat} {S : List Int} (h : SeenM w b n S) (hm : n ≤ m) : SeenM w b m S := by
  obtain ⟨D, h1, h2⟩ := h
  exact ⟨D, h1.mono hm, h2⟩
theorem seen_made (w : World) : SeenM (w.alloc (.map #[] 0)) w.heap.size 0 [] :=
  ⟨.map [], World.ownsMap_made w _ _ _, fun v _ => by simp [DataW.atKey]⟩
theorem plain_bool_inv {v : Value} {z : DataW Unit × List MemPlace} {x : Bool} (h : plainElem Try.prog 4 v = some z) (hz : z.1 = .lit (.bool x)) : v = .bool x := by
  unfold plainElem at h
  rw [Try.underlying4] at h
  cases v <;> simp at h
  subst h
  simpa using hz
theorem SeenM.look {w : World} {b n : Nat} {S : List Int} (h : SeenM w b n S) (v : Int) (hv : v ∉ S) (h0 : 0 ≤ v) (h9 : v ≤ 4611686018427387904) :
    (Instr.lookup 60 (.map (some b)) (.int .u64 v) false).run Try.prog w = .ok (.bool false) w := by
  obtain ⟨D, h1, h2⟩ := h
  have hwf : (Lit.int .u64 v).wf = true := by simp [Lit.wf, IntKind.min, IntKind.max, IntKind.bits, IntKind.signed]; omega
  obtain ⟨x, ps, hrun, hx⟩ := h1.lookup (int_keyed Try.underlying36) Try.underlying60 (zero4 w) (plainElem_bool Try.underlying4 false) (keyOf_int_mk Try.underlying36 hwf)
  rw [h2 v hv] at hx
  rw [hrun, plain_bool_inv hx rfl]
theorem SeenM.put {w : World} {b n : Nat} {S : List Int} (h : SeenM w b n S) (v : Int) (h0 : 0 ≤ v) (h9 : v ≤ 4611686018427387904) (hn : n ≤ 100000) :
    ∃ w', (Instr.mapUpdate 60 (.map (some b)) (.int .u64 v) (.bool true)).run Try.prog w = .ok () w' ∧ SeenM w' b (n + 1) (S ++ [v]) ∧ w.grownBy w' (some b) := by
  obtain ⟨D, h1, h2⟩ := h
  have hwf : (Lit.int .u64 v).wf = true := by simp [Lit.wf, IntKind.min, IntKind.max, IntKind.bits, IntKind.signed]; omega
  obtain ⟨w', hrun, hown, hg⟩ := h1.update (int_keyed Try.underlying36) Try.underlying60 (by unfold maxLen; omega) (keyOf_int_mk Try.underlying36 hwf) (plainElem_bool Try.underlying4 true)
  refine ⟨w', hrun, ⟨_, hown, fun u hu => ?_⟩, hg⟩
  rw [Maps.atKey_put_other (by intro e; injection e with _ e; exact hu (by simp [e]))]
  exact h2 u (fun hm => hu (List.mem_append_left _ hm))
theorem SeenM.off {w : World} {b n : Nat} {S : List Int} (h : SeenM w b n S) {base : Nat} {ok : Nat → Prop} {v : Value} {xs : List S56} (hq : k56.Q 56 w base ok v xs) : some b ≠ v.ownBlock := by
  obtain ⟨D, ⟨es, clock, h1, _⟩, _⟩ := h
  intro e
  obtain ⟨cells, hc⟩ := Kd.Q_typed hq b e.symm
  rw [h1] at hc
  cases hc
theorem led_map {w w' : World} {b n : Nat} {S : List Int} (hs : SeenM w b n S) {base g : Nat} {A : Option Addr} {c : Nat} {ps : List S56} {ak la : Int} {wt : Bool} {ls : Int} {sm : Bool} (h : LossLed.Led w base g A c ps ak la wt ls sm) (hg : w.grownBy w' (some b)) (hne : g ≠ b) : LossLed.Led w' base g A c ps ak la wt ls sm :=
  ⟨blk_grown h.blk hg (fun e => by injection e with e; exact hne e), Kd.Q_grown2 h.q rfl hg (fun k hk => by injection hk with hk; subst hk; exact hs.off h.q), h.old⟩
end Go.Proofs.Ytclmnpdabnogkaa.LossSeen
