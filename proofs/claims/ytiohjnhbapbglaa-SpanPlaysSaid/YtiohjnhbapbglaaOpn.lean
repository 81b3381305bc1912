/- How an argument that came in reads: from the row's reading of a datum to the printed words' kinds, for integers, bools, strings, slices and structs of these; with it go the bounds that the row gives. No condition. -/
import Derived.Test.YtiohjnhbapbglaaWWords
import Derived.ChangeArms
import Derived.ChangeShapes
import Derived.DataReads
import Derived.SizedLaws
import Derived.OpenShut
import Derived.ProofKit
import Derived.Deep.Slices
namespace Go.Proofs.Ytiohjnhbapbglaa.Opn
open Go.RowKit Go.ChangeShapes Go.WideShapes Go.Proofs.YtiohjnhbapbglaaW.PrintWords

/-- Whatever reads as a datum of type t, no part of it heavier than a row lets in, is a value of kind d of which 'wf' holds. -/
def Opn {α : Type} (P : Program) (t : TypeId) (d : Kd α) (wf : α → Prop) : Prop :=
  ∀ {H : Type} (enc : TypeId × Value → H) (W : World) (fuel : Nat) (cs : List Value) (x : DataW H × List MemPlace),
    DataW.trod enc P W 0 (fun _ => true) true fuel t cs = some x → (∀ n ∈ x.1.weights P t, n ≤ reachBytes) → ∃ a : α, d.K W a cs ∧ wf a

theorem opn_int {P : Program} {t : TypeId} {k : IntKind} (ht : P.underlying t = some (.int k)) : Opn P t (Kd.int k) (fun n => (Lit.int k n).wf = true) := by
  intro H enc W fuel cs x h _
  obtain ⟨n, rfl, _, hw⟩ := DataW.trod_int ht h
  exact ⟨n, rfl, hw⟩
theorem opn_bool {P : Program} {t : TypeId} (ht : P.underlying t = some .bool) : Opn P t Kd.bool (fun _ => True) := by
  intro H enc W fuel cs x h _
  obtain ⟨b, rfl, _⟩ := DataW.trod_bool ht h
  exact ⟨b, rfl, trivial⟩
theorem opn_string {P : Program} {t : TypeId} (ht : P.underlying t = some .string) : Opn P t Kd.string (fun s => s.size ≤ reachBytes) := by
  intro H enc W fuel cs x h hw
  obtain ⟨s, rfl, rfl, _⟩ := DataW.trod_string ht h
  exact ⟨s, rfl, by simpa [DataW.weights] using hw⟩

theorem mem_weightsAll {H : Type} {P : Program} {e : TypeId} {n : Nat} : ∀ {ds : List (DataW H)} {d : DataW H}, d ∈ ds → n ∈ d.weights P e → n ∈ DataW.weightsAll P e ds
  | _ :: _, _, .head _, h => by simp [DataW.weightsAll, h]
  | _ :: _, _, .tail _ hm, h => by simp [DataW.weightsAll, mem_weightsAll hm h]
theorem mem_weightsEach {H : Type} {P : Program} {n : Nat} : ∀ {ts : List TypeId} {ds : List (DataW H)} {i : Nat} {t : TypeId} {d : DataW H}, ts[i]? = some t → ds[i]? = some d → n ∈ d.weights P t → n ∈ DataW.weightsEach P ts ds
  | _ :: _, _ :: _, 0, _, _, ht, hd, h => by
    simp at ht hd; subst ht; subst hd
    simp [DataW.weightsEach, h]
  | _ :: _, _ :: _, i + 1, _, _, ht, hd, h => by
    simp at ht hd
    simp [DataW.weightsEach, mem_weightsEach ht hd h]
  | [], _, i, _, _, ht, _, _ => by simp at ht
  | _ :: _, [], i, _, _, _, hd, _ => by simp at hd

theorem opn_slice {α : Type} [Inhabited α] {P : Program} {t e : TypeId} {d : Kd α} {wf : α → Prop} {B : Nat} (ht : P.underlying t = some (.slice e)) (hc : P.cellsOf e = d.sz) (hB : P.bytesOf e = B) (he : Opn P e d wf) :
    Opn P t (Kd.slice e d) (fun xs => xs.length * B ≤ reachBytes ∧ ∀ x ∈ xs, wf x) := by
  intro H enc W fuel cs x h hw
  rcases DataW.trod_slice ht h with ⟨rfl, rfl⟩ | ⟨a, len, cap, elems, rest, n, rfl, rfl, rfl, hb, hl, hm, hlen, hel, hsp, hns⟩
  · exact ⟨[], ⟨none, 0, rfl, Nat.le_refl _, ⟨rfl, by simp, fun h => by simp at h⟩⟩, by simp, by simp⟩
  · simp only [DataW.weights, ht] at hw
    have hw1 := hw _ (List.mem_cons_self)
    have hel' : ∀ i, i < len → ∃ q : α, (∃ c, c.length = d.sz ∧ d.K W q c ∧ ∀ j u, c[j]? = some u → W.cell? (a.add (i * d.sz + j)) = some u) ∧ wf q := by
      intro i hi
      have h1 := hel i hi
      have hx : elems[i]? = some elems[i] := List.getElem?_eq_getElem (by omega)
      rw [hx] at h1
      obtain ⟨c, hc1, hc2⟩ := Option.bind_eq_some_iff.1 h1
      obtain ⟨q, hq, hwq⟩ := he enc W n c elems[i] hc2 (fun m hm => hw m (List.mem_cons_of_mem _ (List.mem_append_left _ (mem_weightsAll (List.mem_map.2 ⟨elems[i], List.getElem_mem (by omega), rfl⟩) hm))))
      obtain ⟨_, hlc, hcell⟩ := World.cells?_some hc1
      refine ⟨q, ⟨c, d.K_len hq, hq, fun j u hu => ?_⟩, hwq⟩
      have hj : j < P.cellsOf e := by
        have := (List.getElem?_eq_some_iff.1 hu).1
        omega
      have h2 := hcell j hj
      rw [hu] at h2
      rw [← Go.Deep.add_add, ← hc]
      exact h2
    obtain ⟨f, hf⟩ := Go.Deep.choose_lt hel'
    refine ⟨(List.range len).map f, ⟨some a, cap, by simp, by simpa using hl, ⟨by simp, by simp only [maxLen] at hm; simp; omega, fun _ => ⟨a, rfl, fun j p hp => ?_⟩⟩⟩, ?_, ?_⟩
    · have hj : j < len := by
        have := (List.getElem?_eq_some_iff.1 hp).1
        simpa using this
      have e1 : p = f j := by
        simp [hj] at hp
        exact hp.symm
      subst e1
      exact (hf j hj).1
    · simp only [List.length_map, List.length_range]
      rw [← hB]
      simp only [List.length_map] at hw1
      exact Nat.le_trans (Nat.mul_le_mul_right _ (by omega)) hw1
    · intro q hq
      simp only [List.mem_map, List.mem_range] at hq
      obtain ⟨j, hj, rfl⟩ := hq
      exact (hf j hj).2

/-- A struct's fields, one behind the other: 'offs': where each begins; each by its own kind. -/
inductive Flds (P : Program) : Nat → List Field → {α : Type} → Kd α → (α → Prop) → Prop
  | one {off : Nat} {f : Field} {α : Type} {d : Kd α} {wf : α → Prop} : f.offset = off → P.cellsOf f.type = d.sz → Opn P f.type d wf → Flds P off [f] d wf
  | more {off : Nat} {f : Field} {fs : List Field} {α β : Type} {d : Kd α} {wf : α → Prop} {d' : Kd β} {wf' : β → Prop} : f.offset = off → P.cellsOf f.type = d.sz → Opn P f.type d wf → Flds P (off + d.sz) fs d' wf' → Flds P off (f :: fs) (Kd.pair d d') (fun x => wf x.1 ∧ wf' x.2)

theorem flds_open {P : Program} {H : Type} (enc : TypeId × Value → H) (W : World) (n : Nat) (cs : List Value) {off : Nat} {fs : List Field} {α : Type} {d : Kd α} {wf : α → Prop} (F : Flds P off fs d wf) :
    ∀ (xs : List (DataW H × List MemPlace)), xs.length = fs.length → (∀ (i : Nat) (f : Field), fs[i]? = some f → DataW.trod enc P W 0 (fun _ => true) true n f.type ((cs.drop f.offset).take (P.cellsOf f.type)) = xs[i]?) →
      (∀ m ∈ DataW.weightsEach P (fs.map (·.type)) (xs.map (·.1)), m ≤ reachBytes) → ∃ a : α, d.K W a ((cs.drop off).take d.sz) ∧ wf a := by
  induction F with
  | @one off f α d wf ho hc hd =>
    intro xs hl hf hw
    match xs, hl with
    | [x], _ =>
      have h0 := hf 0 f rfl
      rw [ho, hc] at h0
      exact hd enc W n _ x h0 (fun m hm => hw m (by simpa [DataW.weightsEach] using hm))
  | @more off f fs α β d wf d' wf' ho hc hd _ ih =>
    intro xs hl hf hw
    match xs, hl with
    | x :: xs, hl =>
      have h0 := hf 0 f rfl
      rw [ho, hc] at h0
      obtain ⟨a, ha, hwa⟩ := hd enc W n _ x h0 (fun m hm => hw m (by simp [DataW.weightsEach, hm]))
      obtain ⟨b, hb, hwb⟩ := ih xs (by simpa using hl) (fun i g hg => hf (i + 1) g (by simpa using hg)) (fun m hm => hw m (by simp [DataW.weightsEach, hm]))
      refine ⟨(a, b), ⟨_, _, ?_, ha, hb⟩, hwa, hwb⟩
      show (cs.drop off).take (d.sz + d'.sz) = _
      rw [List.take_add, List.drop_drop]

theorem opn_struct {P : Program} {t : TypeId} {fs : Array Field} {α β : Type} {d : Kd α} {wf : α → Prop} (g : β → α) (gi : α → β) (hg : ∀ a, g (gi a) = a) (ht : P.underlying t = some (.struct fs)) (hc : P.cellsOf t = d.sz) (F : Flds P 0 fs.toList d wf) :
    Opn P t (Kd.iso d g) (fun x => wf (g x)) := by
  intro H enc W fuel cs x h hw
  obtain ⟨xs, n, rfl, rfl, hl, hxs, hf⟩ := DataW.trod_struct ht h
  simp only [DataW.weights, ht] at hw
  obtain ⟨a, ha, hwa⟩ := flds_open enc W n cs F xs (by simpa using hxs) (fun i f hfi => hf i f (by simpa using hfi)) hw
  refine ⟨gi a, ?_, by show wf (g (gi a)); rw [hg]; exact hwa⟩
  show d.K W (g (gi a)) cs
  rw [hg]
  have : (cs.drop 0).take d.sz = cs := by rw [List.drop_zero, List.take_of_length_le (by omega)]
  rw [this] at ha
  exact ha

/-- An argument of a row. -/
theorem opn_arg {α : Type} {P : Program} {t : TypeId} {d : Kd α} {wf : α → Prop} (o : Opn P t d wf) {H : Type} {enc : TypeId × Value → H} {W : World} {v : Value} {x : DataW H} {ps : List MemPlace} {ts : List TypeId} {ds : List (DataW H)} {j : Nat}
    (hsz : (DataW.weightsEach P ts ds).all (· ≤ reachBytes) = true) (ht : ts[j]? = some t) (hd : ds[j]? = some x) (h : DataW.Trod enc P W 0 (fun _ => true) true t v x ps) : ∃ a : α, d.K W a v.cells.toList ∧ wf a := by
  obtain ⟨fuel, hf⟩ := h
  refine o enc W fuel _ _ hf (fun n hn => ?_)
  have := List.all_eq_true.1 hsz n (mem_weightsEach ht hd hn)
  simpa using this
/-- .. that is a slice: its address, its length, its capacity. -/
theorem opn_slice_arg {α : Type} {P : Program} {t e : TypeId} {d : Kd α} {wf : List α → Prop} (o : Opn P t (Kd.slice e d) wf) {H : Type} {enc : TypeId × Value → H} {W : World} {A : Option Addr} {len cap : Nat} {x : DataW H} {ps : List MemPlace} {ts : List TypeId} {ds : List (DataW H)} {j : Nat}
    (hsz : (DataW.weightsEach P ts ds).all (· ≤ reachBytes) = true) (ht : ts[j]? = some t) (hd : ds[j]? = some x) (h : DataW.Trod enc P W 0 (fun _ => true) true t (.slice A len cap) x ps) :
    ∃ xs : List α, xs.length = len ∧ len ≤ cap ∧ d.C W A len xs ∧ wf xs := by
  obtain ⟨a, ⟨A', c', he, hl, hC⟩, hw⟩ := opn_arg o hsz ht hd h
  have he' : [Value.slice A len cap] = [Value.slice A' a.length c'] := by simpa [Value.cells] using he
  injection he' with he1 _
  injection he1 with h1 h2 h3
  subst h1; subst h2; subst h3
  exact ⟨a, rfl, hl, hC, hw⟩
end Go.Proofs.Ytiohjnhbapbglaa.Opn
