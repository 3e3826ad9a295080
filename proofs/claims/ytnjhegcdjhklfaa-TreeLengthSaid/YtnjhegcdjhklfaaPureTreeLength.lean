/- A proof has at most 4 digests, and as many as the pages' number and the place ask for. -/
import Derived.Test.YtnjhegcdjhklfaaQTreeLength
import Derived.Test.YtnjhegcdjhklfaaTree2
namespace Go.Proofs.Ytnjhegcdjhklfaa.PureTreeLength
open Go Go.RowKit Go.Proofs.Ytnjhegcdjhklfaa.PTreeLength Go.Proofs.YtnjhegcdjhklfaaW.PrintWords Go.Proofs.YtnjhegcdjhklfaaW.PrintLast Go.Proofs.Ytnjhegcdjhklfaa.Dig

theorem rd_getD (l : List (List Int)) (i : Nat) : rd_L1 l (i : Int) = l.getD i [] := by simp [rd_L1]

theorem few_loop (l : List (List Int)) (hm : l.length ≤ maxLen) : ∀ (d k i : Nat) (x : Int), d < k → i + d = l.length → ∃ b, slotmeshlaw35_few.l0 k l x l (l.length : Int) (i : Int) = some b
  | 0, 0, _, _, h, _ => by omega
  | 0, k + 1, i, x, _, hi => by
    rw [slotmeshlaw35_few.l0, if_neg (by omega)]
    split
    · exact ⟨_, rfl⟩
    · exact ⟨_, rfl⟩
  | d + 1, 0, _, _, h, _ => by omega
  | d + 1, k + 1, i, x, h, hi => by
    have hm' : maxLen = 9223372036854775807 := by decide
    have hw : wrap64 ((i : Int) + 1) = ((i + 1 : Nat) : Int) := by unfold wrap64; omega
    rw [slotmeshlaw35_few.l0, if_pos (by omega), if_pos (by omega), if_pos (by omega), hw]
    exact few_loop l hm d k (i + 1) _ (by omega) (by omega)

theorem few_some (l : List (List Int)) (hm : l.length ≤ maxLen) (n : Nat) : ∃ b, slotmeshlaw35_few.f (l.length + 20 + n) l = some b :=
  few_loop l hm l.length (l.length + 20 + n) 0 0 (by omega) (by omega)

theorem pages_loop (l : List (List Int)) (h16 : l.length ≤ 16) : ∀ (d k i : Nat), d < k → i + d = l.length → slotmeshref35_Pages.l0 k l (i : Int) = some ((l.drop i).all fun p => decide (p.length ≤ 256))
  | 0, 0, _, h, _ => by omega
  | 0, k + 1, i, _, hi => by
    rw [slotmeshref35_Pages.l0, if_neg (by omega), List.drop_of_length_le (by omega)]
    rfl
  | d + 1, 0, _, h, _ => by omega
  | d + 1, k + 1, i, h, hi => by
    have hw : wrap64 ((i : Int) + 1) = ((i + 1 : Nat) : Int) := by unfold wrap64; omega
    have hlt : i < l.length := by omega
    rw [slotmeshref35_Pages.l0, if_pos (by omega), if_pos (by omega), hw, rd_getD, List.drop_eq_getElem_cons hlt, List.all_cons]
    have hr : l.getD i [] = l[i] := by simp [hlt]
    rw [hr]
    by_cases hp : l[i].length ≤ 256
    · rw [if_neg (by omega), decide_eq_true hp, Bool.true_and]
      exact pages_loop l h16 d k (i + 1) (by omega) (by omega)
    · rw [if_pos (by omega), decide_eq_false hp, Bool.false_and]

theorem pages_some (l : List (List Int)) (n : Nat) : slotmeshref35_Pages.f (n + 20) l = some (pagesB l) := by
  unfold slotmeshref35_Pages.f pagesB
  by_cases h0 : 0 < l.length
  · rw [if_neg (by omega), decide_eq_true h0, Bool.true_and, show n + 20 = n + 19 + 1 by omega, slotmeshref35_Pages.j0]
    by_cases h16 : l.length ≤ 16
    · rw [decide_eq_true h16, Bool.true_and, if_neg (by simp; omega)]
      have := pages_loop l h16 l.length (n + 19) 0 (by omega) (by omega)
      rw [List.drop_zero] at this
      exact this
    · rw [decide_eq_false h16, Bool.false_and, if_pos (by simp; omega)]
  · rw [if_pos (by omega), decide_eq_false h0, Bool.false_and, Bool.false_and, show n + 20 = n + 19 + 1 by omega, slotmeshref35_Pages.j0, if_pos rfl]

/-- What 'proved' tells: either nothing, or the root, the place, and the proof. -/
theorem proved_some (l : List (List Int)) (a : Int) (ha : 0 ≤ a ∧ a < 256) (hm : l.length ≤ maxLen) (n : Nat) :
    slotmeshlaw35_proved.f (l.length + 20 + n) l a = some (0, 0, [], false) ∨
    ∃ i : Nat, i = a.toNat % l.length ∧ i < l.length ∧ pagesB l = true ∧ slotmeshlaw35_proved.f (l.length + 20 + n) l a = some ((rootF l).1, (i : Int), (proofF l (i : Int)).1, true) := by
  obtain ⟨b, hb⟩ := few_some l hm n
  have hp := pages_some l (l.length + n)
  rw [show l.length + n + 20 = l.length + 20 + n by omega] at hp
  unfold slotmeshlaw35_proved.f
  rw [hb, Option.bind_some, show l.length + 20 + n = l.length + 19 + n + 1 by omega]
  cases b with
  | false => exact .inl (by rw [if_neg (by simp), slotmeshlaw35_proved.j0, if_pos (by simp)])
  | true =>
    rw [if_pos rfl, show l.length + 19 + n + 1 = l.length + 20 + n by omega, hp, Option.bind_some]
    cases hq : pagesB l with
    | false => exact .inl (by rw [show l.length + 20 + n = l.length + 19 + n + 1 by omega, slotmeshlaw35_proved.j0, if_pos (by simp)])
    | true =>
      obtain ⟨h0, h16, _⟩ := pagesB_facts hq
      have hw : wrap64 a = a := by unfold wrap64; omega
      have ht : Int.tmod a (l.length : Int) = ((a.toNat % l.length : Nat) : Int) := by
        obtain ⟨n, rfl⟩ := Int.eq_ofNat_of_zero_le ha.1
        rw [Int.tmod_eq_emod_of_nonneg (by omega)]
        simp
      have hi : a.toNat % l.length < l.length := Nat.mod_lt _ h0
      refine .inr ⟨a.toNat % l.length, rfl, hi, rfl, ?_⟩
      generalize a.toNat % l.length = i at hi ht ⊢
      rw [show l.length + 20 + n = l.length + 19 + n + 1 by omega, slotmeshlaw35_proved.j0, if_neg (by simp), if_neg (by omega), hw, ht]
      unfold tree_Root.f tree_Proof.f
      rw [Option.bind_some, Option.bind_some, if_pos (by rw [root_eq hq]), if_pos (by rw [proof_eq hq hi])]


theorem half_up0 : ∀ n : Fin 17, wrap64 (Int.tdiv (wrap64 ((n.val : Int) + 1)) 2) = (((n.val + 1) / 2 : Nat) : Int) := by decide +kernel
theorem half_up {n : Nat} (h : n ≤ 16) : wrap64 (Int.tdiv (wrap64 ((n : Int) + 1)) 2) = (((n + 1) / 2 : Nat) : Int) := half_up0 ⟨n, by omega⟩
theorem half_down0 : ∀ n : Fin 17, wrap64 (Int.tdiv (n.val : Int) 2) = ((n.val / 2 : Nat) : Int) := by decide +kernel
theorem half_down {n : Nat} (h : n ≤ 16) : wrap64 (Int.tdiv (n : Int) 2) = ((n / 2 : Nat) : Int) := half_down0 ⟨n, by omega⟩
theorem one_up0 : ∀ n : Fin 101, wrap64 ((n.val : Int) + 1) = ((n.val + 1 : Nat) : Int) := by decide +kernel
theorem one_up {n : Nat} (h : n ≤ 100) : wrap64 ((n : Int) + 1) = ((n + 1 : Nat) : Int) := one_up0 ⟨n, by omega⟩
theorem one_down0 : ∀ n : Fin 16, wrap64 (((n.val + 1 : Nat) : Int) - 1) = ((n.val + 1 - 1 : Nat) : Int) := by decide +kernel
theorem one_down {n : Nat} (h0 : 0 < n) (h : n ≤ 16) : wrap64 ((n : Int) - 1) = ((n - 1 : Nat) : Int) := by
  obtain ⟨m, rfl⟩ : ∃ m, n = m + 1 := ⟨n - 1, by omega⟩
  exact one_down0 ⟨m, by omega⟩
theorem rest_two0 : ∀ n : Fin 17, Int.tmod (n.val : Int) 2 = ((n.val % 2 : Nat) : Int) := by decide +kernel
theorem rest_two {n : Nat} (h : n ≤ 16) : Int.tmod (n : Int) 2 = ((n % 2 : Nat) : Int) := rest_two0 ⟨n, by omega⟩

theorem last_round (l : List Int) (i : Nat) (h1 : ¬ 1 < l.length) (f : Nat) (x7 : Int) (x8 : List Int) (w : Nat) (h7 : 0 ≤ x7) (h8 : x8.length = w) : slotmeshlaw35_TreeLength.l0 (f + 1) true x7 x8 (w : Int) (i : Int) (l.length : Int) = some (decide (x8.length ≤ 4)) := by
  rw [slotmeshlaw35_TreeLength.l0, if_neg (by omega), if_pos rfl, if_pos h7, if_pos (by omega)]
  congr 1
  rw [decide_eq_decide]
  omega

/-- How many digests the proof of place i among n has. -/
theorem pf_length (k : Nat) : ∀ (l : List Int) (i : Nat), l.length ≤ k + 1 → i < l.length → l.length ≤ 16 →
    ∀ (f : Nat) (x7 : Int) (x8 : List Int) (w : Nat), k < f → x8.length ≤ 100 → 0 ≤ x7 → x8.length = w + (pfF k l i).length → slotmeshlaw35_TreeLength.l0 f true x7 x8 (w : Int) (i : Int) (l.length : Int) = some (decide (x8.length ≤ 4)) := by
  induction k with
  | zero =>
    intro l i hk hi h16 f x7 x8 w hf hw h7 h8
    obtain ⟨f, rfl⟩ : ∃ f', f = f' + 1 := ⟨f - 1, by omega⟩
    rw [pfF, List.length_nil, Nat.add_zero] at h8
    exact last_round l i (by omega) f x7 x8 w h7 h8
  | succ k ih =>
    intro l i hk hi h16 f x7 x8 w hf hw h7 h8
    obtain ⟨f, rfl⟩ : ∃ f', f = f' + 1 := ⟨f - 1, by omega⟩
    by_cases h1 : 1 < l.length
    · rw [pfF, if_pos h1, List.length_append] at h8
      have hn := nextF_len l
      have e1 : wrap64 (Int.tdiv (wrap64 ((l.length : Int) + 1)) 2) = ((nextF l).length : Int) := by rw [hn]; exact half_up h16
      have e2 : wrap64 (Int.tdiv (i : Int) 2) = ((i / 2 : Nat) : Int) := half_down (by omega)
      have e3 : wrap64 ((w : Int) + 1) = ((w + 1 : Nat) : Int) := one_up (by omega)
      have e4 : wrap64 ((l.length : Int) - 1) = ((l.length - 1 : Nat) : Int) := one_down (by omega) h16
      have e5 : Int.tmod (l.length : Int) 2 = ((l.length % 2 : Nat) : Int) := rest_two h16
      have hx := xor_one' (show i < 32 by omega)
      rw [slotmeshlaw35_TreeLength.l0, if_pos (by omega), e1, e2, e3, e4, e5]
      clear e1 e2 e3 e4 e5
      by_cases hp : i ^^^ 1 < l.length
      · rw [if_pos hp, List.length_singleton] at h8
        have go := ih (nextF l) (i / 2) (by omega) (by omega) (by omega) f x7 x8 (w + 1) (by omega) hw h7 (by omega)
        by_cases ev : l.length % 2 = 0
        · rw [if_pos (by omega)]
          exact go
        · rw [hx] at hp
          have hne : ¬ i = l.length - 1 := by
            intro hi2
            rw [if_neg (by omega)] at hp
            omega
          rw [if_neg (by omega), if_neg (by omega)]
          exact go
      · rw [if_neg hp, List.length_nil] at h8
        have go := ih (nextF l) (i / 2) (by omega) (by omega) (by omega) f x7 x8 w (by omega) hw h7 (by omega)
        have ho : l.length % 2 = 1 ∧ i = l.length - 1 := by
          rw [hx] at hp
          by_cases ho : i % 2 = 1
          · rw [if_pos ho] at hp; omega
          · rw [if_neg ho] at hp; omega
        rw [if_neg (by omega), if_pos (by omega)]
        exact go
    · have h0 : (pfF (k + 1) l i).length = 0 := by rw [pfF, if_neg h1]; rfl
      exact last_round l i h1 f x7 x8 w h7 (by omega)

theorem law : slotmeshlaw35_TreeLength.Pure := by
  intro l a hm _ _ ha
  have ha := wf_u8 ha
  refine ⟨l.length + 20 + 0, ?_⟩
  unfold slotmeshlaw35_TreeLength.f slotmeshlaw35_head.f
  rw [Option.bind_some]
  rcases proved_some l a ha hm 0 with h | ⟨i, _, hi, hp, h⟩
  · rw [h, Option.bind_some, if_neg (by simp)]
  · obtain ⟨h0, h16, _⟩ := pagesB_facts hp
    rw [h, Option.bind_some]
    dsimp only
    rw [if_pos rfl, proof_eq hp hi]
    have := pf_length l.length (l.map leafF) i (by simp) (by simpa using hi) (by simpa using h16) (l.length + 20 + 0) (i : Int) (pfF l.length (l.map leafF) i) 0 (by omega) (by have := pf_four 4 l.length (l.map leafF) i (by simpa using h16); omega) (by omega) (by omega)
    rw [List.length_map] at this
    dsimp only
    rw [show (0 : Int) = ((0 : Nat) : Int) from rfl, this, decide_eq_true (pf_four 4 _ _ _ (by simpa using h16))]

end Go.Proofs.Ytnjhegcdjhklfaa.PureTreeLength
namespace Go.Proofs.Ytnjhegcdjhklfaa.Pure
theorem TreeLength : PTreeLength.slotmeshlaw35_TreeLength.Pure := PureTreeLength.law
end Go.Proofs.Ytnjhegcdjhklfaa.Pure
