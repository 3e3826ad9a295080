/- The proof of every page is accepted, for the root of all pages. -/
import Derived.Test.YtnjhegcdjhklfaaQTreeProofs
import Derived.Test.YtnjhegcdjhklfaaTree2
namespace Go.Proofs.Ytnjhegcdjhklfaa.PureTreeProofs
open Go Go.RowKit Go.Proofs.Ytnjhegcdjhklfaa.PTreeProofs Go.Proofs.YtnjhegcdjhklfaaW.PrintWords Go.Proofs.YtnjhegcdjhklfaaW.PrintLast Go.Proofs.Ytnjhegcdjhklfaa.Dig

theorem rd_getD (l : List (List Int)) (i : Nat) : rd_L1 l (i : Int) = l.getD i [] := by simp [rd_L1]

theorem few_loop (l : List (List Int)) (hm : l.length ≤ maxLen) : ∀ (d k i : Nat) (x : Int), d < k → i + d = l.length → ∃ b, slotmeshlaw35_few.l0 k l x l (l.length : Int) (i : Int) = some b
  | 0, 0, _, _, h, _ => by omega
  | 0, k + 1, i, x, _, hi => by
    rw [slotmeshlaw35_few.l0, if_neg (by omega)]
    split
    · exact ⟨_, rfl⟩
    · exact ⟨_, rfl⟩
  | d + 1, 0, _, _, h, _ => by omega
  | d + 1, k + 1, i, x, h, hi => by
    have hm' : maxLen = 9223372036854775807 := by decide
    have hw : wrap64 ((i : Int) + 1) = ((i + 1 : Nat) : Int) := by unfold wrap64; omega
    rw [slotmeshlaw35_few.l0, if_pos (by omega), if_pos (by omega), if_pos (by omega), hw]
    exact few_loop l hm d k (i + 1) _ (by omega) (by omega)

theorem few_some (l : List (List Int)) (hm : l.length ≤ maxLen) (n : Nat) : ∃ b, slotmeshlaw35_few.f (l.length + 20 + n) l = some b :=
  few_loop l hm l.length (l.length + 20 + n) 0 0 (by omega) (by omega)

theorem pages_loop (l : List (List Int)) (h16 : l.length ≤ 16) : ∀ (d k i : Nat), d < k → i + d = l.length → slotmeshref35_Pages.l0 k l (i : Int) = some ((l.drop i).all fun p => decide (p.length ≤ 256))
  | 0, 0, _, h, _ => by omega
  | 0, k + 1, i, _, hi => by
    rw [slotmeshref35_Pages.l0, if_neg (by omega), List.drop_of_length_le (by omega)]
    rfl
  | d + 1, 0, _, h, _ => by omega
  | d + 1, k + 1, i, h, hi => by
    have hw : wrap64 ((i : Int) + 1) = ((i + 1 : Nat) : Int) := by unfold wrap64; omega
    have hlt : i < l.length := by omega
    rw [slotmeshref35_Pages.l0, if_pos (by omega), if_pos (by omega), hw, rd_getD, List.drop_eq_getElem_cons hlt, List.all_cons]
    have hr : l.getD i [] = l[i] := by simp [hlt]
    rw [hr]
    by_cases hp : l[i].length ≤ 256
    · rw [if_neg (by omega), decide_eq_true hp, Bool.true_and]
      exact pages_loop l h16 d k (i + 1) (by omega) (by omega)
    · rw [if_pos (by omega), decide_eq_false hp, Bool.false_and]

theorem pages_some (l : List (List Int)) (n : Nat) : slotmeshref35_Pages.f (n + 20) l = some (pagesB l) := by
  unfold slotmeshref35_Pages.f pagesB
  by_cases h0 : 0 < l.length
  · rw [if_neg (by omega), decide_eq_true h0, Bool.true_and, show n + 20 = n + 19 + 1 by omega, slotmeshref35_Pages.j0]
    by_cases h16 : l.length ≤ 16
    · rw [decide_eq_true h16, Bool.true_and, if_neg (by simp; omega)]
      have := pages_loop l h16 l.length (n + 19) 0 (by omega) (by omega)
      rw [List.drop_zero] at this
      exact this
    · rw [decide_eq_false h16, Bool.false_and, if_pos (by simp; omega)]
  · rw [if_pos (by omega), decide_eq_false h0, Bool.false_and, Bool.false_and, show n + 20 = n + 19 + 1 by omega, slotmeshref35_Pages.j0, if_pos rfl]

/-- What 'proved' tells: either nothing, or the root, the place, and the proof. -/
theorem proved_some (l : List (List Int)) (a : Int) (ha : 0 ≤ a ∧ a < 256) (hm : l.length ≤ maxLen) (n : Nat) :
    slotmeshlaw35_proved.f (l.length + 20 + n) l a = some (0, 0, [], false) ∨
    ∃ i : Nat, i = a.toNat % l.length ∧ i < l.length ∧ pagesB l = true ∧ slotmeshlaw35_proved.f (l.length + 20 + n) l a = some ((rootF l).1, (i : Int), (proofF l (i : Int)).1, true) := by
  obtain ⟨b, hb⟩ := few_some l hm n
  have hp := pages_some l (l.length + n)
  rw [show l.length + n + 20 = l.length + 20 + n by omega] at hp
  unfold slotmeshlaw35_proved.f
  rw [hb, Option.bind_some, show l.length + 20 + n = l.length + 19 + n + 1 by omega]
  cases b with
  | false => exact .inl (by rw [if_neg (by simp), slotmeshlaw35_proved.j0, if_pos (by simp)])
  | true =>
    rw [if_pos rfl, show l.length + 19 + n + 1 = l.length + 20 + n by omega, hp, Option.bind_some]
    cases hq : pagesB l with
    | false => exact .inl (by rw [show l.length + 20 + n = l.length + 19 + n + 1 by omega, slotmeshlaw35_proved.j0, if_pos (by simp)])
    | true =>
      obtain ⟨h0, h16, _⟩ := pagesB_facts hq
      have hw : wrap64 a = a := by unfold wrap64; omega
      have ht : Int.tmod a (l.length : Int) = ((a.toNat % l.length : Nat) : Int) := by
        obtain ⟨n, rfl⟩ := Int.eq_ofNat_of_zero_le ha.1
        rw [Int.tmod_eq_emod_of_nonneg (by omega)]
        simp
      have hi : a.toNat % l.length < l.length := Nat.mod_lt _ h0
      refine .inr ⟨a.toNat % l.length, rfl, hi, rfl, ?_⟩
      generalize a.toNat % l.length = i at hi ht ⊢
      rw [show l.length + 20 + n = l.length + 19 + n + 1 by omega, slotmeshlaw35_proved.j0, if_neg (by simp), if_neg (by omega), hw, ht]
      unfold tree_Root.f tree_Proof.f
      rw [Option.bind_some, Option.bind_some, if_pos (by rw [root_eq hq]), if_pos (by rw [proof_eq hq hi])]


theorem loop (l : List (List Int)) (hm : l.length ≤ maxLen) : ∀ (d n i : Nat), d ≤ n → i + d = l.length → slotmeshlaw35_TreeProofs.l0 (l.length + 20 + n + 1) l true (l.length : Int) (i : Int) = some true
  | 0, n, i, _, hi => by
    rw [slotmeshlaw35_TreeProofs.l0, if_neg (by omega)]
  | d + 1, n, i, hn, hi => by
    have hm' : maxLen = 9223372036854775807 := by decide
    have hw : wrap64 ((i : Int) + 1) = ((i + 1 : Nat) : Int) := by unfold wrap64; omega
    obtain ⟨n, rfl⟩ : ∃ n', n = n' + 1 := ⟨n - 1, by omega⟩
    rw [slotmeshlaw35_TreeProofs.l0, if_pos (by omega)]
    rcases proved_some l ((i : Int) % 256) (by omega) hm (n + 1) with h | ⟨j, hj, hjl, hp, h⟩
    · rw [h, Option.bind_some, if_neg (by simp)]
    · obtain ⟨h0, h16, _⟩ := pagesB_facts hp
      have hji : j = i := by
        rw [hj, show ((i : Int) % 256).toNat = i by omega]
        exact Nat.mod_eq_of_lt (by omega)
      subst hji
      rw [h, Option.bind_some]
      dsimp only
      rw [if_pos rfl, if_pos rfl, if_pos (by omega), if_pos (by omega), rd_getD]
      unfold tree_Check.f
      rw [check_proof hp hjl, Option.bind_some, if_pos rfl, hw]
      exact loop l hm d n (j + 1) (by omega) (by omega)

theorem law : slotmeshlaw35_TreeProofs.Pure := by
  intro l hm _ _
  refine ⟨l.length + 20 + l.length + 1, ?_⟩
  unfold slotmeshlaw35_TreeProofs.f slotmeshlaw35_head.f
  rw [Option.bind_some]
  exact loop l hm l.length l.length 0 (by omega) (by omega)

end Go.Proofs.Ytnjhegcdjhklfaa.PureTreeProofs
namespace Go.Proofs.Ytnjhegcdjhklfaa.Pure
theorem TreeProofs : PTreeProofs.slotmeshlaw35_TreeProofs.Pure := PureTreeProofs.law
end Go.Proofs.Ytnjhegcdjhklfaa.Pure
