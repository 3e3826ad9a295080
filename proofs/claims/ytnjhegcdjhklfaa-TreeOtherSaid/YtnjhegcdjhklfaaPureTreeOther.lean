/- A proof in which one digest is another one, or with a digest more or less, is not accepted; nor the right one for another root. -/
import Derived.Test.YtnjhegcdjhklfaaQTreeOther
import Derived.Test.YtnjhegcdjhklfaaTree2
namespace Go.Proofs.Ytnjhegcdjhklfaa.PureTreeOther
open Go Go.RowKit Go.Proofs.Ytnjhegcdjhklfaa.PTreeOther Go.Proofs.YtnjhegcdjhklfaaW.PrintWords Go.Proofs.YtnjhegcdjhklfaaW.PrintLast Go.Proofs.Ytnjhegcdjhklfaa.Dig

theorem rd_getD (l : List (List Int)) (i : Nat) : rd_L1 l (i : Int) = l.getD i [] := by simp [rd_L1]

theorem few_loop (l : List (List Int)) (hm : l.length ≤ maxLen) : ∀ (d k i : Nat) (x : Int), d < k → i + d = l.length → ∃ b, slotmeshlaw35_few.l0 k l x l (l.length : Int) (i : Int) = some b
  | 0, 0, _, _, h, _ => by omega
  | 0, k + 1, i, x, _, hi => by
    rw [slotmeshlaw35_few.l0, if_neg (by omega)]
    split
    · exact ⟨_, rfl⟩
    · exact ⟨_, rfl⟩
  | d + 1, 0, _, _, h, _ => by omega
  | d + 1, k + 1, i, x, h, hi => by
    have hm' : maxLen = 9223372036854775807 := by decide
    have hw : wrap64 ((i : Int) + 1) = ((i + 1 : Nat) : Int) := by unfold wrap64; omega
    rw [slotmeshlaw35_few.l0, if_pos (by omega), if_pos (by omega), if_pos (by omega), hw]
    exact few_loop l hm d k (i + 1) _ (by omega) (by omega)

theorem few_some (l : List (List Int)) (hm : l.length ≤ maxLen) (n : Nat) : ∃ b, slotmeshlaw35_few.f (l.length + 20 + n) l = some b :=
  few_loop l hm l.length (l.length + 20 + n) 0 0 (by omega) (by omega)

theorem pages_loop (l : List (List Int)) (h16 : l.length ≤ 16) : ∀ (d k i : Nat), d < k → i + d = l.length → slotmeshref35_Pages.l0 k l (i : Int) = some ((l.drop i).all fun p => decide (p.length ≤ 256))
  | 0, 0, _, h, _ => by omega
  | 0, k + 1, i, _, hi => by
    rw [slotmeshref35_Pages.l0, if_neg (by omega), List.drop_of_length_le (by omega)]
    rfl
  | d + 1, 0, _, h, _ => by omega
  | d + 1, k + 1, i, h, hi => by
    have hw : wrap64 ((i : Int) + 1) = ((i + 1 : Nat) : Int) := by unfold wrap64; omega
    have hlt : i < l.length := by omega
    rw [slotmeshref35_Pages.l0, if_pos (by omega), if_pos (by omega), hw, rd_getD, List.drop_eq_getElem_cons hlt, List.all_cons]
    have hr : l.getD i [] = l[i] := by simp [hlt]
    rw [hr]
    by_cases hp : l[i].length ≤ 256
    · rw [if_neg (by omega), decide_eq_true hp, Bool.true_and]
      exact pages_loop l h16 d k (i + 1) (by omega) (by omega)
    · rw [if_pos (by omega), decide_eq_false hp, Bool.false_and]

theorem pages_some (l : List (List Int)) (n : Nat) : slotmeshref35_Pages.f (n + 20) l = some (pagesB l) := by
  unfold slotmeshref35_Pages.f pagesB
  by_cases h0 : 0 < l.length
  · rw [if_neg (by omega), decide_eq_true h0, Bool.true_and, show n + 20 = n + 19 + 1 by omega, slotmeshref35_Pages.j0]
    by_cases h16 : l.length ≤ 16
    · rw [decide_eq_true h16, Bool.true_and, if_neg (by simp; omega)]
      have := pages_loop l h16 l.length (n + 19) 0 (by omega) (by omega)
      rw [List.drop_zero] at this
      exact this
    · rw [decide_eq_false h16, Bool.false_and, if_pos (by simp; omega)]
  · rw [if_pos (by omega), decide_eq_false h0, Bool.false_and, Bool.false_and, show n + 20 = n + 19 + 1 by omega, slotmeshref35_Pages.j0, if_pos rfl]

/-- What 'proved' tells: either nothing, or the root, the place, and the proof. -/
theorem proved_some (l : List (List Int)) (a : Int) (ha : 0 ≤ a ∧ a < 256) (hm : l.length ≤ maxLen) (n : Nat) :
    slotmeshlaw35_proved.f (l.length + 20 + n) l a = some (0, 0, [], false) ∨
    ∃ i : Nat, i = a.toNat % l.length ∧ i < l.length ∧ pagesB l = true ∧ slotmeshlaw35_proved.f (l.length + 20 + n) l a = some ((rootF l).1, (i : Int), (proofF l (i : Int)).1, true) := by
  obtain ⟨b, hb⟩ := few_some l hm n
  have hp := pages_some l (l.length + n)
  rw [show l.length + n + 20 = l.length + 20 + n by omega] at hp
  unfold slotmeshlaw35_proved.f
  rw [hb, Option.bind_some, show l.length + 20 + n = l.length + 19 + n + 1 by omega]
  cases b with
  | false => exact .inl (by rw [if_neg (by simp), slotmeshlaw35_proved.j0, if_pos (by simp)])
  | true =>
    rw [if_pos rfl, show l.length + 19 + n + 1 = l.length + 20 + n by omega, hp, Option.bind_some]
    cases hq : pagesB l with
    | false => exact .inl (by rw [show l.length + 20 + n = l.length + 19 + n + 1 by omega, slotmeshlaw35_proved.j0, if_pos (by simp)])
    | true =>
      obtain ⟨h0, h16, _⟩ := pagesB_facts hq
      have hw : wrap64 a = a := by unfold wrap64; omega
      have ht : Int.tmod a (l.length : Int) = ((a.toNat % l.length : Nat) : Int) := by
        obtain ⟨n, rfl⟩ := Int.eq_ofNat_of_zero_le ha.1
        rw [Int.tmod_eq_emod_of_nonneg (by omega)]
        simp
      have hi : a.toNat % l.length < l.length := Nat.mod_lt _ h0
      refine .inr ⟨a.toNat % l.length, rfl, hi, rfl, ?_⟩
      generalize a.toNat % l.length = i at hi ht ⊢
      rw [show l.length + 20 + n = l.length + 19 + n + 1 by omega, slotmeshlaw35_proved.j0, if_neg (by simp), if_neg (by omega), hw, ht]
      unfold tree_Root.f tree_Proof.f
      rw [Option.bind_some, Option.bind_some, if_pos (by rw [root_eq hq]), if_pos (by rw [proof_eq hq hi])]


theorem law : slotmeshlaw35_TreeOther.Pure := by
  intro l a b c hm _ _ ha hb hc
  have ha := wf_u8 ha
  have hb := wf_u8 hb
  have hc := wf_u64 hc
  refine ⟨l.length + 20 + 0, ?_⟩
  unfold slotmeshlaw35_TreeOther.f slotmeshlaw35_head.f
  rw [Option.bind_some]
  rcases proved_some l a ha hm 0 with h | ⟨i, _, hi, hp, h⟩
  · rw [h, Option.bind_some, if_neg (by simp)]
  · obtain ⟨h0, h16, _⟩ := pagesB_facts hp
    have hgood := check_proof hp hi
    have hin := proof_in hp hi
    have hlen := check_len hgood
    rw [h, Option.bind_some]
    dsimp only
    have hpl : (proofF l (i : Int)).1.length ≤ 4 := by
      rw [proof_eq hp hi]
      exact pf_four 4 _ _ _ (by simpa using h16)
    revert hgood hin hlen hpl
    generalize (proofF l (i : Int)).1 = pr
    generalize (rootF l).1 = root
    intro hgood hin hlen hpl
    have hmore : checkF root (l.length : Int) (i : Int) (l.getD i []) (pr ++ [c]) = false := by
      rw [Bool.eq_false_iff]
      intro hc2
      have := check_len hc2
      rw [List.length_append, List.length_singleton] at this
      omega
    rw [if_pos rfl, if_neg (by omega), if_pos (by omega), if_pos (by omega)]
    simp only [Option.bind_some, List.nil_append, List.length_nil, tree_Check.f, rd_getD]
    rw [if_pos (by omega), if_pos (by simp; omega), hmore]
    have hj1 : slotmeshlaw35_TreeOther.j1 (l.length + 19) l b c true root (i : Int) pr false = some true := by
      rw [show l.length + 19 = l.length + 18 + 1 by omega, slotmeshlaw35_TreeOther.j1, if_neg (by simp)]
      by_cases hc0 : c = 0
      · rw [if_pos hc0]
      · obtain ⟨_, hxne⟩ := xor_word (x := root) hc hc0
        have hno : checkF (Go.bits .xor .u64 root c) (l.length : Int) (i : Int) (l.getD i []) pr = false := by
          rw [Bool.eq_false_iff]
          intro hc2
          exact hxne (check_root hc2 hgood)
        rw [if_neg hc0, if_pos (by omega), if_pos (by omega)]
        simp only [Option.bind_some, List.nil_append, List.length_nil, tree_Check.f, rd_getD]
        rw [hno, if_neg (by simp)]
        by_cases hp0 : (pr.length : Int) = 0
        · rw [if_pos hp0]
        · have hw : wrap64 b = b := by unfold wrap64; omega
          have hpos : 0 < pr.length := by omega
          have ht : Int.tmod b (pr.length : Int) = ((b.toNat % pr.length : Nat) : Int) := by
            obtain ⟨n, rfl⟩ := Int.eq_ofNat_of_zero_le hb.1
            rw [Int.tmod_eq_emod_of_nonneg (by omega)]
            simp
          have hji : b.toNat % pr.length < pr.length := Nat.mod_lt _ hpos
          rw [if_neg hp0, if_pos (by omega), if_neg hp0, hw, ht]
          generalize b.toNat % pr.length = j at hji ⊢
          rw [if_pos (by omega), if_pos (by omega), if_pos trivial]
          have hrd : rd pr (j : Int) = pr[j] := by simp [rd, hji]
          rw [hrd, Int.toNat_natCast]
          have hd := hin _ (List.getElem_mem hji)
          obtain ⟨he, hne⟩ := xor_word hc hc0
          congr 1
          rw [Bool.not_eq_true', Bool.eq_false_iff]
          intro hc2
          exact hne (check_other hji hd he hgood hc2).symm
    rw [show l.length + 20 + 0 = l.length + 19 + 1 by omega, slotmeshlaw35_TreeOther.j0, if_neg (by simp)]
    by_cases hp0 : (pr.length : Int) > 0
    · have hw : wrap64 ((pr.length : Int) - 1) = ((pr.length - 1 : Nat) : Int) := by unfold wrap64; omega
      have hless : checkF root (l.length : Int) (i : Int) (l.getD i []) (pr.take (pr.length - 1)) = false := by
        rw [Bool.eq_false_iff]
        intro hc2
        have := check_len hc2
        rw [List.length_take] at this
        omega
      rw [if_pos hp0, if_pos (by omega), if_pos (by omega), hw, if_pos (by omega), if_pos (by omega), rd_getD, Int.toNat_natCast]
      simp only [tree_Check.f, Option.bind_some]
      rw [hless]
      exact hj1
    · rw [if_neg hp0]
      exact hj1

end Go.Proofs.Ytnjhegcdjhklfaa.PureTreeOther
namespace Go.Proofs.Ytnjhegcdjhklfaa.Pure
theorem TreeOther : PTreeOther.slotmeshlaw35_TreeOther.Pure := PureTreeOther.law
end Go.Proofs.Ytnjhegcdjhklfaa.Pure
