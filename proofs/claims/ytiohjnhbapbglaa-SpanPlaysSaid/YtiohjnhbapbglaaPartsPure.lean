/- A set cut into two by a number, and put together. Condition: its numbers are of 64 bits. -/
import Derived.Test.YtiohjnhbapbglaaSpCut
namespace Go.Proofs.Ytiohjnhbapbglaa.PartsPure
open Go.RowKit Go.Proofs.Ytiohjnhbapbglaa.PSpanPlays Go.Proofs.Ytiohjnhbapbglaa.SpPure Go.Proofs.Ytiohjnhbapbglaa.SpLaw Go.Proofs.Ytiohjnhbapbglaa.SpSet Go.Proofs.Ytiohjnhbapbglaa.SpCut Go.Proofs.YtiohjnhbapbglaaW.PrintWords Go.Proofs.YtiohjnhbapbglaaW.PrintLast Go.Proofs.YtiohjnhbapbglaaW.PrintMore

/-- All ends are numbers of 64 bits. -/
def Bd (l : List S28) : Prop := ∀ x ∈ l, 0 ≤ x.f0 ∧ x.f1 ≤ 18446744073709551615
theorem adds_bd : ∀ (l : List S28) (put : Bool) (r : S28), Bd l → 0 ≤ r.f0 → r.f1 ≤ 18446744073709551615 → Bd (adds l put r)
  | [], put, r, _, h0, h1 => by
    intro x hx
    cases put <;> simp [adds] at hx
    subst hx; exact ⟨h0, h1⟩
  | x :: l, put, r, h, h0, h1 => by
    have hx := h x List.mem_cons_self
    have hl : Bd l := fun y hy => h y (List.mem_cons_of_mem _ hy)
    unfold adds
    split
    · intro y hy
      rcases List.mem_cons.1 hy with rfl | hy
      · exact hx
      · exact adds_bd l put r hl h0 h1 y hy
    · split
      · split
        · intro y hy
          rcases List.mem_cons.1 hy with rfl | hy
          · exact hx
          · exact adds_bd l put r hl h0 h1 y hy
        · intro y hy
          rcases List.mem_cons.1 hy with rfl | hy
          · exact ⟨h0, h1⟩
          · rcases List.mem_cons.1 hy with rfl | hy
            · exact hx
            · exact adds_bd l true r hl h0 h1 y hy
      · exact adds_bd l put _ hl (by show 0 ≤ mn r.f0 x.f0; unfold mn; split <;> omega) (by show mx r.f1 x.f1 ≤ _; unfold mx; split <;> omega)
theorem mem_bd {l : List S28} (h : Bd l) {v : Int} (hv : mem l v) : 0 ≤ v ∧ v < 18446744073709551615 := by
  obtain ⟨x, hx, h1⟩ := hv
  have := h x hx
  unfold isin at h1
  omega
def lowP (l : List S28) (n : Int) : List S28 := if n < 18446744073709551615 then cuts ⟨n, 18446744073709551615⟩ l else l
def highP (l : List S28) (n : Int) : List S28 := if 0 < n then cuts ⟨0, n⟩ l else l
theorem low_nf {l : List S28} (h : NF l) (n : Int) : NF (lowP l n) := by unfold lowP; split; exact cuts_nf _ (by assumption) l h; exact h
theorem high_nf {l : List S28} (h : NF l) (n : Int) : NF (highP l n) := by unfold highP; split; exact cuts_nf _ (by assumption) l h; exact h
theorem low_len (l : List S28) (n : Int) : (lowP l n).length ≤ 2 * l.length := by unfold lowP; split; exact cuts_len _ l; omega
theorem high_len (l : List S28) (n : Int) : (highP l n).length ≤ 2 * l.length := by unfold highP; split; exact cuts_len _ l; omega
theorem both (l : List S28) (_hb : Bd l) (n : Int) (v : Int) : (mem (lowP l n) v ∨ mem (highP l n) v) ↔ mem l v := by
  have hlo : mem (lowP l n) v ↔ mem l v ∧ (n < 18446744073709551615 → ¬ (n ≤ v ∧ v < 18446744073709551615)) := by
    unfold lowP
    split
    · rename_i h
      rw [cuts_mem _ h]
      exact ⟨fun ⟨a, b⟩ => ⟨a, fun _ => b⟩, fun ⟨a, b⟩ => ⟨a, b h⟩⟩
    · rename_i h
      exact ⟨fun a => ⟨a, fun h' => absurd h' h⟩, fun a => a.1⟩
  have hhi : mem (highP l n) v ↔ mem l v ∧ (0 < n → ¬ (0 ≤ v ∧ v < n)) := by
    unfold highP
    split
    · rename_i h
      rw [cuts_mem _ h]
      exact ⟨fun ⟨a, b⟩ => ⟨a, fun _ => b⟩, fun ⟨a, b⟩ => ⟨a, b h⟩⟩
    · rename_i h
      exact ⟨fun a => ⟨a, fun h' => absurd h' h⟩, fun a => a.1⟩
  rw [hlo, hhi]
  constructor
  · rintro (h | h) <;> exact h.1
  · intro h
    by_cases hv : v < n
    · exact .inl ⟨h, fun _ => by omega⟩
    · exact .inr ⟨h, fun _ => by omega⟩
theorem high_from {l : List S28} (hb : Bd l) (hn : NF l) {n : Int} {r : S28} (hr : r ∈ highP l n) : n ≤ r.f0 ∨ n ≤ 0 := by
  by_cases h : 0 < n
  · left
    have hnf := high_nf hn n
    have hm : mem (highP l n) r.f0 := ⟨r, hr, Int.le_refl _, nf_pos hnf r hr⟩
    unfold highP at hm
    rw [if_pos h, cuts_mem _ h] at hm
    have := mem_bd hb hm.1
    have := hm.2
    unfold isin at this
    simp at this
    omega
  · right; omega
theorem high_bd {l : List S28} (hb : Bd l) (hn : NF l) (n : Int) : ∀ r ∈ highP l n, 0 ≤ r.f0 ∧ r.f0 < r.f1 := by
  intro r hr
  have hnf := high_nf hn n
  have hp := nf_pos hnf r hr
  have hm : mem (highP l n) r.f0 := ⟨r, hr, Int.le_refl _, hp⟩
  exact ⟨(mem_bd hb ((both l hb n r.f0).1 (.inr hm))).1, hp⟩
theorem mem_take_succ (l : List S28) (j : Nat) (h : j < l.length) (v : Int) : mem (l.take (j + 1)) v ↔ mem (l.take j) v ∨ isin (rd_T28 l j) v := by
  have e : l[j]? = some (rd_T28 l j) := by
    unfold rd_T28
    rw [Int.toNat_natCast, List.getD_eq_getElem?_getD, List.getElem?_eq_getElem h]; rfl
  rw [List.take_add_one, e, mem_append]
  simp [mem_cons, mem_nil]
theorem rd_mem (l : List S28) (j : Nat) (h : j < l.length) : rd_T28 l j ∈ l := by
  unfold rd_T28
  rw [Int.toNat_natCast, List.getD_eq_getElem?_getD, List.getElem?_eq_getElem h]; exact List.getElem_mem _
theorem nf_next : ∀ {l : List S28}, NF l → ∀ j : Nat, j + 1 < l.length → (rd_T28 l j).f1 < (rd_T28 l ((j + 1 : Nat) : Int)).f0
  | x :: l, h, 0, hj => by
    have e1 : rd_T28 (x :: l) ((0 : Nat) : Int) = x := rfl
    have e2 : rd_T28 (x :: l) ((0 + 1 : Nat) : Int) = rd_T28 l ((0 : Nat) : Int) := rfl
    rw [e1, e2]
    exact h.2.1 _ (rd_mem l 0 (by simpa using hj))
  | x :: l, h, j + 1, hj => by
    have e1 : rd_T28 (x :: l) ((j + 1 : Nat) : Int) = rd_T28 l (j : Int) := by unfold rd_T28; rw [Int.toNat_natCast, Int.toNat_natCast]; rfl
    have e2 : rd_T28 (x :: l) ((j + 1 + 1 : Nat) : Int) = rd_T28 l ((j + 1 : Nat) : Int) := by unfold rd_T28; rw [Int.toNat_natCast, Int.toNat_natCast]; rfl
    rw [e1, e2]
    exact nf_next h.2.2 j (by simpa using hj)
  | [], _, _, hj => by simp at hj
end Go.Proofs.Ytiohjnhbapbglaa.PartsPure
