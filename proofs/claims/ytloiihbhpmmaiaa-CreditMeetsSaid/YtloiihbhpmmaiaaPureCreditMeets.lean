/- The law CreditMeets: what it computes is true for every first limit, every list of sizes and every list of what is told, and so is its call. No condition. -/
import Derived.Test.YtloiihbhpmmaiaaPCreditMeetsx2
import Derived.OpenShut
import Derived.SizedLaws
namespace Go.Proofs.Ytloiihbhpmmaiaa.PureCreditMeets
open Go.RowKit Go.Proofs.Ytloiihbhpmmaiaa.PCreditMeets Go.Proofs.YtloiihbhpmmaiaaW.PrintWords Go.Proofs.YtloiihbhpmmaiaaW.PrintLast Go.Proofs.YtloiihbhpmmaiaaW.PrintMore

theorem u64_id {n : Int} (h0 : 0 ≤ n) (h1 : n < 18446744073709551616) : IntKind.u64.wrap n = n := by rw [IntKind.wrap_u64]; omega

theorem awake : binnaclelaw20_Awake.f = some true := by
  have e1 : mn 10 4611686018427387903 = 10 := rfl
  have e2 : mn 0 10 = 0 := rfl
  have e3 : mn 0 6 = 0 := rfl
  have e4 : mn 6 6 = 6 := rfl
  have e7 : mn 10 16 = 10 := rfl
  have e8 : Int.tdiv 10 2 = 5 := rfl
  unfold binnaclelaw20_Awake.f credit_New.f
  simp only [Option.bind_some, credit_Given_Use.f, e1, e2]
  rw [u64_id (n := 10 - 0) (by omega) (by omega), if_neg (by omega), u64_id (n := 0 + 6) (by omega) (by omega)]
  simp only [Option.bind_some, credit_Given_Take.f, if_true, Int.zero_add, e3]
  rw [u64_id (n := 6 - 0) (by omega) (by omega)]
  simp only [Int.sub_zero, e4]
  rw [u64_id (n := 6) (by omega) (by omega), u64_id (n := 6 + 10) (by omega) (by omega)]
  have e9 : mx 10 (mn (6 + 10) 4611686018427387903) = 16 := rfl
  simp only [e9, if_true, credit_Given_Wants.f, Option.bind_some, e7, e8]
  rw [u64_id (n := 16 - 10) (by omega) (by omega), u64_id (n := 5) (by omega) (by omega)]
  rfl

theorem room {L U : Int} (S : Int) (h0 : 0 ≤ U) (h1 : U ≤ L) (h2 : L ≤ 1000000) : credit_Got_Room.f L U S = some (L - U) := by
  unfold credit_Got_Room.f
  have e : mn U L = U := by unfold mn; split <;> omega
  rw [e, u64_id (n := L - U) (by omega) (by omega)]
theorem wants {L U T n D : Int} (hL : L ≤ 1000000) (hn : 0 ≤ n) (hn1 : n ≤ 1000) (hD : 0 ≤ D) (hDL : D ≤ L) : credit_Given_Wants.f L U T n D = some (decide (L - D > n / 2)) := by
  unfold credit_Given_Wants.f
  have e : mn D L = D := by unfold mn; split <;> omega
  rw [e, u64_id (n := L - D) (by omega) (by omega), Int.tdiv_eq_ediv_of_nonneg hn, u64_id (n := n / 2) (by omega) (by omega)]

/-- U: what is used, and taken; D: what was told, and is the other one's limit; the limit is U + n. -/
theorem last (k : Nat) (n U D : Int) (hn : 1 ≤ n) (hn1 : n ≤ 300) (hU : 0 ≤ U) (hU1 : U ≤ 60000) (hD : U ≤ D) (hD1 : D ≤ U + n) :
    binnaclelaw20_CreditMeets.j2 (k + 1) n (U + n) U U n D D U 0 = some true := by
  have et : Int.tdiv n 2 = n / 2 := Int.tdiv_eq_ediv_of_nonneg (by omega)
  have eu : IntKind.u64.wrap (n / 2) = n / 2 := u64_id (by omega) (by omega)
  rw [binnaclelaw20_CreditMeets.j2, wants (by omega) (by omega) (by omega) (by omega) hD1]
  simp only [Option.bind_some]
  by_cases hw : U + n - D > n / 2
  · rw [if_pos (decide_eq_true hw)]
    simp only [credit_Given_Told.f, credit_Got_Raise.f, Option.bind_some]
    have e2 : mn (U + n) 4611686018427387903 = U + n := by unfold mn; rw [if_neg (by omega)]
    have e3 : mx D (U + n) = U + n := by unfold mx; split <;> omega
    rw [e2, e3, room 0 hU (by omega) (by omega)]
    simp only [Option.bind_some]
    rw [et, eu, if_pos (by omega), if_pos (by omega)]
  · rw [if_neg (by simpa using hw), room 0 hU hD (by omega)]
    simp only [Option.bind_some]
    rw [et, eu, if_pos (by omega), if_pos (by omega)]

theorem rd_in {xs : List Int} (hx : ∀ x ∈ xs, 0 ≤ x ∧ x ≤ 255) (j : Int) : 0 ≤ rd xs j ∧ rd xs j ≤ 255 := by
  unfold rd
  rw [List.getD_eq_getElem?_getD]
  by_cases h : j.toNat < xs.length
  · rw [List.getElem?_eq_getElem h]
    exact hx _ (List.getElem_mem h)
  · rw [List.getElem?_eq_none (by omega)]
    exact ⟨by decide, by decide⟩

theorem told_step (told : List Bool) (n len j U D : Int) (xs : List Int) (b : Bool) (hn : 1 ≤ n) (hn1 : n ≤ 300) (h0 : 0 ≤ U) (h1 : U ≤ 60000) (h2 : U ≤ D) (h3 : D ≤ U + n)
    (H : ∀ D', U ≤ D' → D' ≤ U + n → ∃ K, ∀ k, K ≤ k → binnaclelaw20_CreditMeets.l0 k told n U xs len (wrap64 (j + 1)) (U + n) U U n D' D' U 0 = some true) :
    ∃ K, ∀ k, K ≤ k → binnaclelaw20_CreditMeets.j1 k told n U xs len j b (U + n) U U n D D U 0 = some true := by
  cases b with
  | true =>
    refine Ev.step (f := fun k => binnaclelaw20_CreditMeets.l0 k told n U xs len (wrap64 (j + 1)) (U + n) U U n (U + n) (U + n) U 0) (fun k => ?_) (H (U + n) (by omega) (by omega))
    have e2 : mn (U + n) 4611686018427387903 = U + n := by unfold mn; rw [if_neg (by omega)]
    have e3 : mx D (U + n) = U + n := by unfold mx; split <;> omega
    rw [binnaclelaw20_CreditMeets.j1, if_pos rfl]
    simp only [credit_Given_Told.f, credit_Got_Raise.f, Option.bind_some]
    rw [e2, e3, if_pos trivial, if_pos trivial, if_neg (by omega)]
  | false =>
    refine Ev.step (f := fun k => binnaclelaw20_CreditMeets.l0 k told n U xs len (wrap64 (j + 1)) (U + n) U U n D D U 0) (fun k => ?_) (H D h2 h3)
    rw [binnaclelaw20_CreditMeets.j1, if_neg (by decide), if_pos rfl, if_pos rfl, if_neg (by omega)]

theorem meets (told : List Bool) (n len : Int) (xs : List Int) (hn : 1 ≤ n) (hn1 : n ≤ 300) (hx : ∀ x ∈ xs, 0 ≤ x ∧ x ≤ 255) (hl : len = xs.length) (d : Nat) :
    ∀ (j U D : Int), 0 ≤ j → j ≤ 200 → len - j ≤ d → 0 ≤ U → U ≤ 255 * j → U ≤ D → D ≤ U + n → ∃ K, ∀ k, K ≤ k → binnaclelaw20_CreditMeets.l0 k told n U xs len j (U + n) U U n D D U 0 = some true := by
  have stop : ∀ (j U D : Int), 0 ≤ U → U ≤ 60000 → U ≤ D → D ≤ U + n → ∃ K, ∀ k, K ≤ k → binnaclelaw20_CreditMeets.j2 k n (U + n) U U n D D U 0 = some true := by
    intro j U D h0 h1 h2 h3
    refine ⟨1, fun k hk => ?_⟩
    obtain ⟨k, rfl⟩ : ∃ j, k = j + 1 := ⟨k - 1, by omega⟩
    exact last k n U D hn hn1 h0 h1 h2 h3
  induction d with
  | zero =>
    intro j U D hj hj2 hd h0 h1 h2 h3
    exact Ev.step (f := fun k => binnaclelaw20_CreditMeets.j2 k n (U + n) U U n D D U 0) (fun k => by rw [binnaclelaw20_CreditMeets.l0, if_neg (by omega)]) (stop j U D h0 (by omega) h2 h3)
  | succ d ih =>
    intro j U D hj hj2 hd h0 h1 h2 h3
    by_cases hlt : j < len
    · by_cases h200 : j ≥ 200
      · exact Ev.step (f := fun k => binnaclelaw20_CreditMeets.j2 k n (U + n) U U n D D U 0) (fun k => by rw [binnaclelaw20_CreditMeets.l0, if_pos hlt, if_pos hj, if_pos (by omega), if_pos h200]) (stop j U D h0 (by omega) h2 h3)
      · have hr := rd_in hx j
        have hw : wrap64 (j + 1) = j + 1 := by unfold wrap64; omega
        have hm : 0 ≤ mn (rd xs j) (D - U) ∧ mn (rd xs j) (D - U) ≤ 255 ∧ mn (rd xs j) (D - U) ≤ D - U := by unfold mn; split <;> omega
        generalize hq : mn (rd xs j) (D - U) = q at *
        have hu : IntKind.u64.wrap (rd xs j) = rd xs j := u64_id (by omega) (by omega)
        have hU' : IntKind.u64.wrap (U + q) = U + q := u64_id (by omega) (by omega)
        have use2 : credit_Given_Use.f (U + n) U U n D q = some (U + n, U + q, U, n, D, 0) := by
          have e : mn U (U + n) = U := by unfold mn; rw [if_neg (by omega)]
          unfold credit_Given_Use.f
          rw [e, u64_id (n := U + n - U) (by omega) (by omega), if_neg (by omega), hU']
        have take : credit_Given_Take.f (U + n) (U + q) U n D q = some (U + q + n, U + q, U + q, n, D) := by
          have e : mn U (U + q) = U := by unfold mn; rw [if_neg (by omega)]
          have e1 : mn q (U + q - U) = q := by unfold mn; rw [if_neg (by omega)]
          have e2 : mn (U + q + n) 4611686018427387903 = U + q + n := by unfold mn; rw [if_neg (by omega)]
          have e3 : mx (U + n) (U + q + n) = U + q + n := by unfold mx; split <;> omega
          unfold credit_Given_Take.f
          rw [e, u64_id (n := U + q - U) (by omega) (by omega), e1, hU', u64_id (n := U + q + n) (by omega) (by omega), e2, e3]
        have J : ∀ b, ∃ K, ∀ k, K ≤ k → binnaclelaw20_CreditMeets.j1 k told n (U + q) xs len j b (U + q + n) (U + q) (U + q) n D D (U + q) 0 = some true := fun b =>
          told_step told n len j (U + q) D xs b hn hn1 (by omega) (by omega) (by omega) (by omega) (fun D' a1 a2 => by rw [hw]; exact ih (j + 1) (U + q) D' (by omega) (by omega) (by omega) (by omega) (by omega) a1 a2)
        have open_ : ∀ k, binnaclelaw20_CreditMeets.l0 (k + 1) told n U xs len j (U + n) U U n D D U 0 = (if (decide (U + q + n - D > n / 2)) = true then (if j ≥ (told.length : Int) then binnaclelaw20_CreditMeets.j1 k told n (U + q) xs len j true (U + q + n) (U + q) (U + q) n D D (U + q) 0 else if j < (told.length : Int) then binnaclelaw20_CreditMeets.j1 k told n (U + q) xs len j (rdOf false told j) (U + q + n) (U + q) (U + q) n D D (U + q) 0 else none) else binnaclelaw20_CreditMeets.j1 k told n (U + q) xs len j false (U + q + n) (U + q) (U + q) n D D (U + q) 0) := by
          intro k
          rw [binnaclelaw20_CreditMeets.l0, if_pos hlt, if_pos hj, if_pos (by omega), if_neg h200, hu]
          simp only [credit_Got_Use.f, room 0 h0 h2 (by omega), Option.bind_some, hq, hU', use2, take, if_true]
          rw [wants (by omega) (by omega) (by omega) (by omega) (by omega)]
          simp only [Option.bind_some]
        by_cases hwn : U + q + n - D > n / 2
        · by_cases ht : j ≥ (told.length : Int)
          · exact Ev.step (f := fun k => binnaclelaw20_CreditMeets.j1 k told n (U + q) xs len j true (U + q + n) (U + q) (U + q) n D D (U + q) 0) (fun k => by rw [open_, if_pos (decide_eq_true hwn), if_pos ht]) (J _)
          · exact Ev.step (f := fun k => binnaclelaw20_CreditMeets.j1 k told n (U + q) xs len j (rdOf false told j) (U + q + n) (U + q) (U + q) n D D (U + q) 0) (fun k => by rw [open_, if_pos (decide_eq_true hwn), if_neg ht, if_pos (by omega)]) (J _)
        · exact Ev.step (f := fun k => binnaclelaw20_CreditMeets.j1 k told n (U + q) xs len j false (U + q + n) (U + q) (U + q) n D D (U + q) 0) (fun k => by rw [open_, if_neg (by simpa using hwn)]) (J _)
    · exact Ev.step (f := fun k => binnaclelaw20_CreditMeets.j2 k n (U + n) U U n D D U 0) (fun k => by rw [binnaclelaw20_CreditMeets.l0, if_neg hlt]) (stop j U D h0 (by omega) h2 h3)

theorem answers (a : Int) (l : List Int) (told : List Bool) (ha : 0 ≤ a ∧ a ≤ 65535) (hx : ∀ x ∈ l, 0 ≤ x ∧ x ≤ 255) : ∃ k, binnaclelaw20_CreditMeets.f k a l told = some true := by
  have ht : Int.tmod a 300 = a % 300 := Int.tmod_eq_emod_of_nonneg ha.1
  have hu : IntKind.u64.wrap (a % 300) = a % 300 := u64_id (by omega) (by omega)
  have hu1 : IntKind.u64.wrap (1 + a % 300) = 1 + a % 300 := u64_id (by omega) (by omega)
  have e2 : mn (1 + a % 300) 4611686018427387903 = 1 + a % 300 := by unfold mn; rw [if_neg (by omega)]
  have e3 : mx 0 (1 + a % 300) = 1 + a % 300 := by unfold mx; split <;> omega
  obtain ⟨K, hK⟩ := meets told (1 + a % 300) l.length l (by omega) (by omega) hx rfl l.length 0 0 (1 + a % 300) (by omega) (by omega) (by omega) (by omega) (by omega) (by omega) (by omega)
  refine ⟨K, ?_⟩
  unfold binnaclelaw20_CreditMeets.f
  rw [awake]
  simp only [Option.bind_some, if_true, credit_New.f, credit_Got_Raise.f]
  rw [ht, hu, hu1, e2, e3]
  have := hK K (Nat.le_refl _)
  rw [Int.zero_add] at this
  exact this

theorem walk {W : World} (a : Int) (wa : (Lit.int .u16 a).wf = true) (A : Option Addr) (len cap : Nat) (xs : List Int) (e : xs.length = len) (hc : len ≤ cap) (hC : Kd.C (Kd.int .u8) W A len xs) (hw : xs.length * 1 ≤ reachBytes ∧ ∀ y ∈ xs, (Lit.int .u8 y).wf = true)
    (A2 : Option Addr) (len2 cap2 : Nat) (xs2 : List Bool) (e2 : xs2.length = len2) (hc2 : len2 ≤ cap2) (hC2 : Kd.C Kd.bool W A2 len2 xs2) (_hw2 : xs2.length * 1 ≤ reachBytes ∧ ∀ y ∈ xs2, True) :
    Calls Try.prog 8 #[.int .u16 a, .slice A len cap, .slice A2 len2 cap2] W fun e w' => e = .returned (.bool true) ∧ Below W.heap.size W w' := by
  subst e; subst e2
  obtain ⟨k, hk⟩ := answers a xs xs2 (bounds_u16 wa) (fun x hx => bounds_u8 (hw.2 x hx))
  exact binnaclelaw20_CreditMeets.calls k a A cap xs A2 cap2 xs2 true W hC hc hC2 hc2 hk
end Go.Proofs.Ytloiihbhpmmaiaa.PureCreditMeets
