/- The law CreditGets: what it computes is true for every list of calls, and so is its call. No condition. -/
import Derived.Test.YtloiihbhpmmaiaaPCreditGetsx1
import Derived.OpenShut
import Derived.SizedLaws
namespace Go.Proofs.Ytloiihbhpmmaiaa.PureCreditGets
open Go.RowKit Go.Proofs.Ytloiihbhpmmaiaa.PCreditGets Go.Proofs.YtloiihbhpmmaiaaW.PrintWords Go.Proofs.YtloiihbhpmmaiaaW.PrintLast Go.Proofs.YtloiihbhpmmaiaaW.PrintMore

theorem u64_id {n : Int} (h0 : 0 ≤ n) (h1 : n < 18446744073709551616) : IntKind.u64.wrap n = n := by rw [IntKind.wrap_u64]; omega

def WF (x : S54) : Prop := (Lit.int .u8 x.f0).wf = true ∧ (Lit.int .u16 x.f1).wf = true ∧ (Lit.int .u64 x.f2).wf = true ∧ True
theorem rd_fit {l : List S54} (h : ∀ x ∈ l, WF x) (i : Int) (h0 : 0 ≤ i) (h1 : i < (l.length : Int)) : WF (rd_T54 l i) := by
  unfold rd_T54
  have hi : i.toNat < l.length := by omega
  rw [List.getD_eq_getElem?_getD, List.getElem?_eq_getElem hi]
  exact h _ (List.getElem_mem hi)

theorem awake : binnaclelaw20_Awake.f = some true := by
  have e1 : mn 10 4611686018427387903 = 10 := rfl
  have e2 : mn 0 10 = 0 := rfl
  have e3 : mn 0 6 = 0 := rfl
  have e4 : mn 6 6 = 6 := rfl
  have e7 : mn 10 16 = 10 := rfl
  have e8 : Int.tdiv 10 2 = 5 := rfl
  unfold binnaclelaw20_Awake.f credit_New.f
  simp only [Option.bind_some, credit_Given_Use.f, e1, e2]
  rw [u64_id (n := 10 - 0) (by omega) (by omega), if_neg (by omega), u64_id (n := 0 + 6) (by omega) (by omega)]
  simp only [Option.bind_some, credit_Given_Take.f, if_true, Int.zero_add, e3]
  rw [u64_id (n := 6 - 0) (by omega) (by omega)]
  simp only [Int.sub_zero, e4]
  rw [u64_id (n := 6) (by omega) (by omega), u64_id (n := 6 + 10) (by omega) (by omega)]
  have e9 : mx 10 (mn (6 + 10) 4611686018427387903) = 16 := rfl
  simp only [e9, if_true, credit_Given_Wants.f, Option.bind_some, e7, e8]
  rw [u64_id (n := 16 - 10) (by omega) (by omega), u64_id (n := 5) (by omega) (by omega)]
  rfl

structure Inv (L U : Int) : Prop where
  u : 0 ≤ U
  ul : U ≤ L
  l : L ≤ 4611686018427387903

theorem room {L U : Int} (S : Int) (h : Inv L U) : credit_Got_Room.f L U S = some (L - U) := by
  obtain ⟨h1, h2, h3⟩ := h
  unfold credit_Got_Room.f
  have e : mn U L = U := by unfold mn; split <;> omega
  rw [e, u64_id (n := L - U) (by omega) (by omega)]

theorem at_end {L U : Int} (S : Int) (xs : List S54) (len j : Int) (h : Inv L U)
    (H : ∃ K, ∀ k, K ≤ k → binnaclelaw20_CreditGets.l0 k L U S xs len (wrap64 (j + 1)) L U S = some true) :
    ∃ K, ∀ k, K ≤ k → binnaclelaw20_CreditGets.j1 k L U S xs len j L U S = some true := by
  refine Ev.step (f := fun k => binnaclelaw20_CreditGets.l0 k L U S xs len (wrap64 (j + 1)) L U S) (fun k => ?_) H
  rw [binnaclelaw20_CreditGets.j1, if_pos rfl, if_pos rfl, room S h]
  have h' := h
  obtain ⟨h1, h2, h3⟩ := h
  simp only [Option.bind_some, credit_Got_Blocked.f, room S h']
  rw [u64_id (n := L - U) (by omega) (by omega), if_pos rfl, u64_id (n := L + 1) (by omega) (by omega)]
  by_cases e : L = U
  · rw [if_pos (show L - U = 0 by omega), Option.bind_some, if_pos e]
    simp
  · rw [if_neg (show ¬ L - U = 0 by omega), Option.bind_some, if_neg e]
    simp

theorem plays (xs : List S54) (len : Int) (hf : ∀ x ∈ xs, WF x) (hl : len = xs.length) (d : Nat) :
    ∀ (j L U S : Int), 0 ≤ j → len - j ≤ d → Inv L U → ∃ K, ∀ k, K ≤ k → binnaclelaw20_CreditGets.l0 k L U S xs len j L U S = some true := by
  induction d with
  | zero =>
    intro j L U S hj hd h
    refine ⟨1, fun k hk => ?_⟩
    obtain ⟨k, rfl⟩ : ∃ j, k = j + 1 := ⟨k - 1, by omega⟩
    rw [binnaclelaw20_CreditGets.l0, if_neg (by omega)]
  | succ d ih =>
    intro j L U S hj hd h
    by_cases hlt : j < len
    · by_cases h80 : j ≥ 80
      · refine ⟨1, fun k hk => ?_⟩
        obtain ⟨k, rfl⟩ : ∃ j, k = j + 1 := ⟨k - 1, by omega⟩
        rw [binnaclelaw20_CreditGets.l0, if_pos hlt, if_pos hj, if_pos (by omega), if_pos h80]
      · obtain ⟨a, b, c, _⟩ := rd_fit hf j hj (by omega)
        have hw : wrap64 (j + 1) = j + 1 := by unfold wrap64; omega
        have ha := bounds_u8 a
        have hb := bounds_u16 b
        have hc := bounds_u64 c
        obtain ⟨z, hz, hz0⟩ : ∃ z, binnaclelaw20_Act_number.f (rd_T54 xs j).f0 (rd_T54 xs j).f1 (rd_T54 xs j).f2 (rd_T54 xs j).f3 = some z ∧ 0 ≤ z := by
          unfold binnaclelaw20_Act_number.f
          split
          · exact ⟨_, rfl, hc.1⟩
          · rw [Int.tmod_eq_emod_of_nonneg hb.1, u64_id (n := (rd_T54 xs j).f1 % 200) (by omega) (by omega)]
            exact ⟨_, rfl, by omega⟩
        have ht : Int.tmod (rd_T54 xs j).f0 4 = (rd_T54 xs j).f0 % 4 := Int.tmod_eq_emod_of_nonneg ha.1
        have next : ∀ L U S, Inv L U → ∃ K, ∀ k, K ≤ k → binnaclelaw20_CreditGets.j1 k L U S xs len j L U S = some true := fun L U S h' => at_end S xs len j h' (by rw [hw]; exact ih (j + 1) L U S (by omega) (by omega) h')
        obtain ⟨h1, h2, h3⟩ := h
        by_cases k0 : (rd_T54 xs j).f0 % 4 = 0
        · have b1 : mn z 4611686018427387903 ≤ 4611686018427387903 := by unfold mn; split <;> omega
          have b2 : L ≤ mx L (mn z 4611686018427387903) ∧ mx L (mn z 4611686018427387903) ≤ 4611686018427387903 := by
            generalize mn z 4611686018427387903 = q at *
            unfold mx; split <;> omega
          refine Ev.step (f := fun k => binnaclelaw20_CreditGets.j1 k (mx L (mn z 4611686018427387903)) U S xs len j (mx L (mn z 4611686018427387903)) U S) (fun k => ?_) (next _ U S ⟨h1, by omega, b2.2⟩)
          rw [binnaclelaw20_CreditGets.l0, if_pos hlt, if_pos hj, if_pos (by omega), if_neg h80, hz]
          simp only [Option.bind_some, ht, credit_Got_Raise.f]
          rw [if_pos k0]
        · by_cases k3 : (rd_T54 xs j).f0 % 4 = 3
          · refine Ev.step (f := fun k => binnaclelaw20_CreditGets.j1 k L U (IntKind.u64.wrap (L + 1)) xs len j L U (IntKind.u64.wrap (L + 1))) (fun k => ?_) (next L U _ ⟨h1, h2, h3⟩)
            rw [binnaclelaw20_CreditGets.l0, if_pos hlt, if_pos hj, if_pos (by omega), if_neg h80, hz]
            simp only [Option.bind_some, ht, credit_Got_Say.f]
            rw [if_neg k0, if_pos k3]
          · have b0 : 0 ≤ mn z (L - U) ∧ mn z (L - U) ≤ L - U := by unfold mn; split <;> omega
            refine Ev.step (f := fun k => binnaclelaw20_CreditGets.j1 k L (U + mn z (L - U)) S xs len j L (U + mn z (L - U)) S) (fun k => ?_) (next L _ S ⟨by omega, by omega, h3⟩)
            rw [binnaclelaw20_CreditGets.l0, if_pos hlt, if_pos hj, if_pos (by omega), if_neg h80, hz]
            simp only [Option.bind_some, ht, credit_Got_Use.f, room S (⟨h1, h2, h3⟩ : Inv L U)]
            rw [if_neg k0, if_neg k3, u64_id (n := L - U) (by omega) (by omega), if_pos rfl, u64_id (n := U + mn z (L - U)) (by omega) (by omega)]
    · refine ⟨1, fun k hk => ?_⟩
      obtain ⟨k, rfl⟩ : ∃ j, k = j + 1 := ⟨k - 1, by omega⟩
      rw [binnaclelaw20_CreditGets.l0, if_neg hlt]

theorem answers (l : List S54) (hf : ∀ x ∈ l, WF x) : ∃ k, binnaclelaw20_CreditGets.f k l = some true := by
  obtain ⟨K, hK⟩ := plays l l.length hf rfl l.length 0 0 0 0 (by omega) (by omega) ⟨by omega, by omega, by omega⟩
  refine ⟨K, ?_⟩
  unfold binnaclelaw20_CreditGets.f
  rw [awake]
  simp only [Option.bind_some, if_true]
  exact hK K (Nat.le_refl _)

theorem walk {W : World} (A : Option Addr) (len cap : Nat) (xs : List S54) (e : xs.length = len) (hc : len ≤ cap) (hC : Kd.C k54 W A len xs) (hw : xs.length * 24 ≤ reachBytes ∧ ∀ y ∈ xs, WF y) :
    Calls Try.prog 9 #[.slice A len cap] W fun e w' => e = .returned (.bool true) ∧ Below W.heap.size W w' := by
  subst e
  obtain ⟨k, hk⟩ := answers xs (fun x hx => hw.2 x hx)
  exact binnaclelaw20_CreditGets.calls k A cap xs true W hC hc hk
end Go.Proofs.Ytloiihbhpmmaiaa.PureCreditGets
