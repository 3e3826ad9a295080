/- The tree's functions return what the reference implementation returns; for all pages, places, roots and proofs. -/
import Derived.Test.YtnjhegcdjhklfaaQTreeMatchesReference
import Derived.Test.YtnjhegcdjhklfaaTree2
namespace Go.Proofs.Ytnjhegcdjhklfaa.PureTreeMatchesReference
open Go Go.RowKit Go.Proofs.Ytnjhegcdjhklfaa.PTreeMatchesReference Go.Proofs.YtnjhegcdjhklfaaW.PrintWords Go.Proofs.YtnjhegcdjhklfaaW.PrintLast Go.Proofs.Ytnjhegcdjhklfaa.Dig

theorem rd_getD (l : List (List Int)) (i : Nat) : rd_L1 l (i : Int) = l.getD i [] := by simp [rd_L1]

theorem few_loop (l : List (List Int)) (hm : l.length ≤ maxLen) : ∀ (d k i : Nat) (x : Int), d < k → i + d = l.length → ∃ b, slotmeshlaw35_few.l0 k l x l (l.length : Int) (i : Int) = some b
  | 0, 0, _, _, h, _ => by omega
  | 0, k + 1, i, x, _, hi => by
    rw [slotmeshlaw35_few.l0, if_neg (by omega)]
    split
    · exact ⟨_, rfl⟩
    · exact ⟨_, rfl⟩
  | d + 1, 0, _, _, h, _ => by omega
  | d + 1, k + 1, i, x, h, hi => by
    have hm' : maxLen = 9223372036854775807 := by decide
    have hw : wrap64 ((i : Int) + 1) = ((i + 1 : Nat) : Int) := by unfold wrap64; omega
    rw [slotmeshlaw35_few.l0, if_pos (by omega), if_pos (by omega), if_pos (by omega), hw]
    exact few_loop l hm d k (i + 1) _ (by omega) (by omega)

theorem few_some (l : List (List Int)) (hm : l.length ≤ maxLen) (n : Nat) : ∃ b, slotmeshlaw35_few.f (l.length + 20 + n) l = some b :=
  few_loop l hm l.length (l.length + 20 + n) 0 0 (by omega) (by omega)

theorem pages_loop (l : List (List Int)) (h16 : l.length ≤ 16) : ∀ (d k i : Nat), d < k → i + d = l.length → slotmeshref35_Pages.l0 k l (i : Int) = some ((l.drop i).all fun p => decide (p.length ≤ 256))
  | 0, 0, _, h, _ => by omega
  | 0, k + 1, i, _, hi => by
    rw [slotmeshref35_Pages.l0, if_neg (by omega), List.drop_of_length_le (by omega)]
    rfl
  | d + 1, 0, _, h, _ => by omega
  | d + 1, k + 1, i, h, hi => by
    have hw : wrap64 ((i : Int) + 1) = ((i + 1 : Nat) : Int) := by unfold wrap64; omega
    have hlt : i < l.length := by omega
    rw [slotmeshref35_Pages.l0, if_pos (by omega), if_pos (by omega), hw, rd_getD, List.drop_eq_getElem_cons hlt, List.all_cons]
    have hr : l.getD i [] = l[i] := by simp [hlt]
    rw [hr]
    by_cases hp : l[i].length ≤ 256
    · rw [if_neg (by omega), decide_eq_true hp, Bool.true_and]
      exact pages_loop l h16 d k (i + 1) (by omega) (by omega)
    · rw [if_pos (by omega), decide_eq_false hp, Bool.false_and]

theorem pages_some (l : List (List Int)) (n : Nat) : slotmeshref35_Pages.f (n + 20) l = some (pagesB l) := by
  unfold slotmeshref35_Pages.f pagesB
  by_cases h0 : 0 < l.length
  · rw [if_neg (by omega), decide_eq_true h0, Bool.true_and, show n + 20 = n + 19 + 1 by omega, slotmeshref35_Pages.j0]
    by_cases h16 : l.length ≤ 16
    · rw [decide_eq_true h16, Bool.true_and, if_neg (by simp; omega)]
      have := pages_loop l h16 l.length (n + 19) 0 (by omega) (by omega)
      rw [List.drop_zero] at this
      exact this
    · rw [decide_eq_false h16, Bool.false_and, if_pos (by simp; omega)]
  · rw [if_pos (by omega), decide_eq_false h0, Bool.false_and, Bool.false_and, show n + 20 = n + 19 + 1 by omega, slotmeshref35_Pages.j0, if_pos rfl]


theorem half_up0 : ∀ n : Fin 17, wrap64 (Int.tdiv (wrap64 ((n.val : Int) + 1)) 2) = (((n.val + 1) / 2 : Nat) : Int) := by decide +kernel
theorem half_up {n : Nat} (h : n ≤ 16) : wrap64 (Int.tdiv (wrap64 ((n : Int) + 1)) 2) = (((n + 1) / 2 : Nat) : Int) := half_up0 ⟨n, by omega⟩
theorem half_down0 : ∀ n : Fin 17, wrap64 (Int.tdiv (n.val : Int) 2) = ((n.val / 2 : Nat) : Int) := by decide +kernel
theorem half_down {n : Nat} (h : n ≤ 16) : wrap64 (Int.tdiv (n : Int) 2) = ((n / 2 : Nat) : Int) := half_down0 ⟨n, by omega⟩
theorem one_up {n : Nat} (h : n ≤ 1000) : wrap64 ((n : Int) + 1) = ((n + 1 : Nat) : Int) := by unfold wrap64; omega
theorem two_up {n : Nat} (h : n ≤ 1000) : wrap64 ((n : Int) + 2) = ((n + 2 : Nat) : Int) := by unfold wrap64; omega
theorem rd_at {l : List Int} {i : Nat} (h : i < l.length) : rd l (i : Int) = l[i] := by simp [rd, h]

theorem add_loop (l : List Int) (hl : l.length ≤ 300) : ∀ (d k i : Nat) (x : Int), d < k → i + d = l.length → slotmeshref05_Add.l0 k x l (i : Int) = some (addF x (l.drop i))
  | 0, 0, _, _, h, _ => absurd h (Nat.lt_irrefl _)
  | 0, k + 1, i, x, _, hi => by
    rw [slotmeshref05_Add.l0, if_neg (by omega), List.drop_of_length_le (by omega)]
    rfl
  | d + 1, 0, _, _, h, _ => absurd h (Nat.not_lt_zero _)
  | d + 1, k + 1, i, x, h, hi => by
    have hlt : i < l.length := by omega
    rw [slotmeshref05_Add.l0, if_pos (by omega), if_pos (by omega), one_up (by omega), rd_at hlt, add_loop l hl d k (i + 1) _ (by omega) (by omega), List.drop_eq_getElem_cons hlt]
    rfl

theorem leaf_some {p : List Int} (hp : p.length ≤ 300) {k : Nat} (hk : 300 < k) : slotmeshref35_Leaf.f k p = some (leafF p) := by
  unfold slotmeshref35_Leaf.f slotmeshref05_Sum.f slotmeshref05_Add.f
  have h1 := add_loop [0] (by simp) 1 k 0 14695981039346656037 (by omega) rfl
  have h2 := add_loop p hp p.length k 0 (addF 14695981039346656037 [0]) (by omega) (by omega)
  rw [List.drop_zero] at h1 h2
  rw [show ((0 : Nat) : Int) = 0 from rfl] at h1 h2
  rw [h1, Option.bind_some, Option.bind_some, h2, Option.bind_some]
  rfl

theorem leaves_loop (l : List (List Int)) (h16 : l.length ≤ 16) (hl : ∀ p ∈ l, p.length ≤ 256) : ∀ (d k i : Nat) (acc : List Int), 301 + d < k → i + d = l.length → acc.length = i → slotmeshref35_leaves.l0 k l acc (i : Int) = some (acc ++ (l.drop i).map leafF)
  | d, 0, _, _, h, _, _ => absurd h (Nat.not_lt_zero _)
  | 0, k + 1, i, acc, _, hi, _ => by
    rw [slotmeshref35_leaves.l0, if_neg (by omega), List.drop_of_length_le (by omega)]
    simp
  | d + 1, k + 1, i, acc, h, hi, ha => by
    have hlt : i < l.length := by omega
    have hr : l.getD i [] = l[i] := by simp [hlt]
    rw [slotmeshref35_leaves.l0, if_pos (by omega), if_pos (by omega), rd_getD, hr, leaf_some (by have := hl _ (List.getElem_mem hlt); omega) (by omega), Option.bind_some, if_pos (by omega), one_up (by omega),
      leaves_loop l h16 hl d k (i + 1) _ (by omega) (by omega) (by simp [ha]), List.drop_eq_getElem_cons hlt]
    simp only [List.map_cons, List.append_assoc, List.cons_append, List.nil_append]

theorem leaves_some {l : List (List Int)} (h16 : l.length ≤ 16) (hl : ∀ p ∈ l, p.length ≤ 256) {k : Nat} (hk : 320 < k) : slotmeshref35_leaves.f k l = some (l.map leafF) := by
  have h := leaves_loop l h16 hl l.length k 0 [] (by omega) (by omega) rfl
  rw [List.drop_zero, List.nil_append] at h
  exact h

theorem next_loop (l : List Int) (h16 : l.length ≤ 16) : ∀ (d k i : Nat) (acc : List Int), d < k → l.length ≤ i + d → i + 2 * d ≤ 100 → acc.length ≤ i → slotmeshref35_Next.l0 k l acc (i : Int) = some (acc ++ nextF (l.drop i))
  | d, 0, _, _, h, _, _, _ => absurd h (Nat.not_lt_zero _)
  | 0, k + 1, i, acc, _, hi, _, _ => by
    rw [slotmeshref35_Next.l0, if_neg (by omega), List.drop_of_length_le (by omega)]
    simp [nextF]
  | d + 1, k + 1, i, acc, h, hi, hb, ha => by
    rw [slotmeshref35_Next.l0]
    by_cases hlt : i < l.length
    · rw [if_pos (by omega), one_up (by omega), two_up (by omega)]
      by_cases h2 : i + 1 < l.length
      · rw [if_pos (by omega), if_pos (by omega), if_pos (by omega), rd_at hlt, rd_at h2]
        unfold slotmeshref05_Pair.f
        rw [Option.bind_some, if_pos (by omega), next_loop l h16 d k (i + 2) _ (by omega) (by omega) (by omega) (by simp; omega), List.drop_eq_getElem_cons hlt, List.drop_eq_getElem_cons h2, nextF]
        simp only [List.append_assoc, List.cons_append, List.nil_append]
        rfl
      · rw [if_neg (by omega), if_pos (by omega), if_pos (by omega), rd_at hlt, next_loop l h16 d k (i + 2) _ (by omega) (by omega) (by omega) (by simp; omega), List.drop_eq_getElem_cons hlt, List.drop_of_length_le (show l.length ≤ i + 1 by omega), List.drop_of_length_le (show l.length ≤ i + 2 by omega)]
        simp [nextF]
    · rw [if_neg (by omega), List.drop_of_length_le (by omega)]
      simp [nextF]

theorem next_some {l : List Int} (h16 : l.length ≤ 16) {k : Nat} (hk : 20 < k) : slotmeshref35_Next.f k l = some (nextF l) := by
  have h := next_loop l h16 l.length k 0 [] (by omega) (by omega) (by omega) (by simp)
  rw [List.drop_zero, List.nil_append] at h
  exact h

theorem root_loop : ∀ (q k : Nat) (l : List Int), l.length ≤ q + 1 → 0 < l.length → l.length ≤ 16 → q + 30 < k → slotmeshref35_Root.l0 k l = some (topF q l, 0)
  | q, 0, _, _, _, _, h => absurd h (Nat.not_lt_zero _)
  | 0, k + 1, l, h1, h0, _, _ => by
    rw [slotmeshref35_Root.l0, if_neg (by omega), if_pos (by omega)]
    rfl
  | q + 1, k + 1, l, h1, h0, h16, hk => by
    have hn := nextF_len l
    rw [slotmeshref35_Root.l0, topF]
    by_cases h2 : 1 < l.length
    · rw [if_pos (by omega), if_pos h2, next_some h16 (by omega), Option.bind_some]
      exact root_loop q k (nextF l) (by omega) (by omega) (by omega) (by omega)
    · rw [if_neg (by omega), if_neg h2, if_pos (by omega)]
      rfl

theorem root_some (l : List (List Int)) {n : Nat} (hn : 400 < n) : slotmeshref35_Root.f (n + 20) l = some (rootF l) := by
  unfold slotmeshref35_Root.f
  rw [pages_some, Option.bind_some]
  cases hp : pagesB l with
  | false =>
    rw [if_neg (by simp)]
    unfold rootF
    rw [if_neg (by simp [hp])]
  | true =>
    obtain ⟨h0, h16, hl⟩ := pagesB_facts hp
    rw [if_pos rfl, leaves_some h16 hl (by omega), Option.bind_some, root_eq hp]
    exact root_loop l.length (n + 20) (l.map leafF) (by simp) (by simpa using h0) (by simpa using h16) (by omega)

theorem other_some0 : ∀ n i : Fin 17, i.val < n.val → slotmeshref35_other.f (i.val : Int) (n.val : Int) = (if i.val ^^^ 1 < n.val then some ((i.val ^^^ 1 : Nat) : Int) else some (-1)) := by decide +kernel
theorem other_some {n i : Nat} (h : i < n) (hn : n ≤ 16) : slotmeshref35_other.f (i : Int) (n : Int) = (if i ^^^ 1 < n then some ((i ^^^ 1 : Nat) : Int) else some (-1)) := other_some0 ⟨n, by omega⟩ ⟨i, by omega⟩ h

theorem proof_loop : ∀ (q k : Nat) (l acc : List Int) (i : Nat), l.length ≤ q + 1 → i < l.length → l.length ≤ 16 → q + 30 < k → acc.length + q ≤ 100 → slotmeshref35_Proof.l0 k (i : Int) acc l = some (acc ++ pfF q l i, 0)
  | q, 0, _, _, _, _, _, _, h, _ => absurd h (Nat.not_lt_zero _)
  | 0, k + 1, l, acc, i, h1, hi, _, _, _ => by
    rw [slotmeshref35_Proof.l0, if_neg (by omega), pfF, List.append_nil]
  | q + 1, k + 1, l, acc, i, h1, hi, h16, hk, ha => by
    have hn := nextF_len l
    rw [slotmeshref35_Proof.l0, pfF]
    by_cases h2 : 1 < l.length
    · rw [if_pos (by omega), if_pos h2, other_some hi h16, half_down (by omega), next_some h16 (by omega)]
      by_cases hp : i ^^^ 1 < l.length
      · rw [if_pos hp, if_pos hp, Option.bind_some, if_pos (by omega), if_pos (by omega), if_pos (by omega), if_pos (by omega), Option.bind_some, rd_at hp,
          proof_loop q k (nextF l) _ (i / 2) (by omega) (by omega) (by omega) (by omega) (by simp; omega)]
        simp [hp]
      · rw [if_neg hp, if_neg hp, Option.bind_some, if_neg (by omega), Option.bind_some, List.nil_append]
        exact proof_loop q k (nextF l) acc (i / 2) (by omega) (by omega) (by omega) (by omega) (by omega)
    · rw [if_neg (by omega), if_neg h2, List.append_nil]

theorem proof_some (l : List (List Int)) (i : Int) {n : Nat} (hn : 400 < n) : slotmeshref35_Proof.f (n + 20) l i = some (proofF l i) := by
  have hbad : ∀ b : Bool, b = true → slotmeshref35_Proof.j0 (n + 20) l i b = some ([], 1) := by
    intro b hb
    rw [show n + 20 = n + 19 + 1 by omega, slotmeshref35_Proof.j0, if_pos hb]
  unfold slotmeshref35_Proof.f
  rw [pages_some, Option.bind_some]
  cases hp : pagesB l with
  | false =>
    rw [if_neg (by simp), hbad true rfl]
    unfold proofF
    rw [if_neg (by simp [hp])]
  | true =>
    obtain ⟨h0, h16, hl⟩ := pagesB_facts hp
    rw [if_pos rfl]
    by_cases hi0 : i < 0
    · rw [if_pos hi0, hbad true rfl]
      unfold proofF
      rw [if_neg (by omega)]
    · rw [if_neg hi0]
      obtain ⟨i, rfl⟩ := Int.eq_ofNat_of_zero_le (show 0 ≤ i by omega)
      by_cases hi1 : i < l.length
      · rw [show n + 20 = n + 19 + 1 by omega, slotmeshref35_Proof.j0, if_neg (by simp; omega), leaves_some h16 hl (by omega), Option.bind_some, proof_eq hp hi1]
        exact proof_loop l.length (n + 19) (l.map leafF) [] i (by simp) (by simpa using hi1) (by simpa using h16) (by omega) (by simp; omega)
      · rw [hbad _ (by simp; omega)]
        unfold proofF
        rw [if_neg (by omega)]

theorem cnt_cons (b s : Bool) (ws : List (Bool × Bool)) : cnt ((b, s) :: ws) = (if b = true then 1 else 0) + cnt ws := by
  cases b <;> simp [cnt] <;> omega

theorem length_loop : ∀ (q k n i m : Nat), n ≤ 2 ^ q → i < n → n ≤ 16 → q + 5 < k → m + q ≤ 100 → slotmeshref35_Length.l0 k (n : Int) (i : Int) (m : Int) = some (((m + cnt (walkF q n i) : Nat) : Int))
  | q, 0, _, _, _, _, _, _, h, _ => absurd h (Nat.not_lt_zero _)
  | 0, k + 1, n, i, m, hq, hi, _, _, _ => by
    rw [slotmeshref35_Length.l0, if_neg (by simp at hq; omega)]
    rfl
  | q + 1, k + 1, n, i, m, hq, hi, h16, hk, hm => by
    rw [slotmeshref35_Length.l0, walkF]
    by_cases h2 : 1 < n
    · rw [Nat.pow_succ] at hq
      have ih := fun m' hm' => length_loop q k ((n + 1) / 2) (i / 2) m' (by omega) (by omega) (by omega) (by omega) hm'
      rw [if_pos (by omega), if_pos h2, other_some hi h16, half_up h16, half_down (by omega), one_up (by omega), cnt_cons]
      by_cases hp : i ^^^ 1 < n
      · rw [if_pos hp, Option.bind_some, if_pos (by omega), ih (m + 1) (by omega), if_pos (decide_eq_true hp)]
        congr 1
        omega
      · rw [if_neg hp, Option.bind_some, if_neg (by omega), ih m (by omega), if_neg (by simpa using hp)]
        congr 1
        omega
    · rw [if_neg (by omega), if_neg h2]
      rfl

theorem pair_some (a b : Int) : slotmeshref05_Pair.f a b = some (pairF a b) := rfl

theorem check_loop (root : Int) (pr : List Int) (hpr : pr.length ≤ 100) : ∀ (q k n i u : Nat) (x : Int), n ≤ 2 ^ q → i < n → n ≤ 16 → 3 * q + 5 < k → pr.length = u + cnt (walkF q n i) →
    ∃ y, (walkF q n i).foldl checkStep (some (x, pr.drop u)) = some (y, []) ∧ slotmeshref35_Check.l0 k root (n : Int) (i : Int) pr x (u : Int) = some (y == root)
  | q, 0, _, _, _, _, _, _, _, h, _ => absurd h (Nat.not_lt_zero _)
  | 0, k + 1, n, i, u, x, hq, hi, _, _, hu => by
    refine ⟨x, ?_, ?_⟩
    · rw [walkF, List.foldl_nil, List.drop_of_length_le (by simp [walkF, cnt] at hu; omega)]
    · rw [slotmeshref35_Check.l0, if_neg (by simp at hq; omega)]
  | q + 1, k + 1, n, i, u, x, hq, hi, h16, hk, hu => by
    rw [slotmeshref35_Check.l0]
    rw [walkF] at hu ⊢
    by_cases h2 : 1 < n
    · rw [Nat.pow_succ] at hq
      obtain ⟨k, rfl⟩ : ∃ k', k = k' + 1 + 1 := ⟨k - 2, by omega⟩
      rw [if_pos h2, cnt_cons] at hu
      rw [if_pos h2, if_pos (by omega), other_some hi h16, List.foldl_cons]
      have hx := xor_one' (show i < 32 by omega)
      by_cases hp : i ^^^ 1 < n
      · rw [if_pos (decide_eq_true hp)] at hu
        have hul : u < pr.length := by omega
        rw [if_pos hp, Option.bind_some, decide_eq_true hp, List.drop_eq_getElem_cons hul]
        by_cases hodd : i % 2 = 1
        · rw [if_pos hodd] at hx
          rw [hx, decide_eq_true hodd, step_two, if_neg (by omega), slotmeshref35_Check.j2, if_pos (by omega), decide_eq_true (show ((i - 1 : Nat) : Int) < (i : Int) by omega), slotmeshref35_Check.j3, if_pos rfl, if_pos (by omega), if_pos (by omega),
            rd_at hul, pair_some, Option.bind_some, if_pos (by omega), half_up h16, half_down (by omega), one_up (by omega)]
          exact check_loop root pr hpr q k ((n + 1) / 2) (i / 2) (u + 1) _ (by omega) (by omega) (by omega) (by omega) (by omega)
        · rw [if_neg hodd] at hx
          rw [hx, decide_eq_false hodd, step_one, if_pos (by omega), if_pos (by omega), if_pos (by omega), rd_at hul, pair_some, Option.bind_some, slotmeshref35_Check.j2, if_pos (by omega), decide_eq_false (show ¬ ((i + 1 : Nat) : Int) < (i : Int) by omega),
            slotmeshref35_Check.j3, if_neg (by simp), if_pos (by omega), half_up h16, half_down (by omega), one_up (by omega)]
          exact check_loop root pr hpr q k ((n + 1) / 2) (i / 2) (u + 1) _ (by omega) (by omega) (by omega) (by omega) (by omega)
      · rw [if_neg (by simpa using hp), Nat.zero_add] at hu
        rw [if_neg hp, Option.bind_some, decide_eq_false hp, step_unp, if_neg (by omega), slotmeshref35_Check.j2, if_neg (by omega), slotmeshref35_Check.j3, if_neg (by simp), if_neg (by omega), half_up h16, half_down (by omega)]
        exact check_loop root pr hpr q k ((n + 1) / 2) (i / 2) u _ (by omega) (by omega) (by omega) (by omega) hu
    · rw [if_neg h2] at hu
      rw [if_neg h2, if_neg (by omega)]
      exact ⟨x, by rw [List.foldl_nil, List.drop_of_length_le (by simp [cnt] at hu; omega)], rfl⟩

theorem check_some (root n i : Int) (page pr : List Int) (hpg : page.length ≤ 300) (hpr : pr.length ≤ 100) {k : Nat} (hk : 400 < k) : slotmeshref35_Check.f (k + 1) root n i page pr = some (checkF root n i page pr) := by
  have hbad : ∀ b : Bool, b = true → slotmeshref35_Check.j0 (k + 1) root n i page pr b = some false := by
    intro b hb
    rw [slotmeshref35_Check.j0, if_pos hb]
  unfold slotmeshref35_Check.f checkF
  by_cases g1 : n < 1
  · rw [if_pos g1, if_pos (.inl g1), hbad true rfl]
  by_cases g2 : n > 16
  · rw [if_neg g1, if_pos g2, if_pos (.inr (.inl g2)), hbad true rfl]
  by_cases g3 : i < 0
  · rw [if_neg g1, if_neg g2, if_pos g3, if_pos (.inr (.inr (.inl g3))), hbad true rfl]
  by_cases g4 : i ≥ n
  · rw [if_neg g1, if_neg g2, if_neg g3, if_pos g4, if_pos (.inr (.inr (.inr (.inl g4)))), hbad true rfl]
  by_cases g5 : (page.length : Int) > 256
  · rw [if_neg g1, if_neg g2, if_neg g3, if_neg g4, if_pos g5, if_pos (.inr (.inr (.inr (.inr (by omega))))), hbad true rfl]
  rw [if_neg g1, if_neg g2, if_neg g3, if_neg g4, if_neg g5, if_neg (by omega)]
  obtain ⟨n, rfl⟩ := Int.eq_ofNat_of_zero_le (show 0 ≤ n by omega)
  obtain ⟨i, rfl⟩ := Int.eq_ofNat_of_zero_le (show 0 ≤ i by omega)
  have hlen : slotmeshref35_Length.f (k + 1) (n : Int) (i : Int) = some (((0 + cnt (walkF 16 n i) : Nat) : Int)) := length_loop 16 (k + 1) n i 0 (by omega) (by omega) (by omega) (by omega) (by omega)
  rw [hlen, Option.bind_some, Int.toNat_natCast, Int.toNat_natCast, Nat.zero_add]
  by_cases hl : pr.length = cnt (walkF 16 n i)
  · obtain ⟨y, hy, hc⟩ := check_loop root pr hpr 16 k n i 0 (leafF page) (by omega) (by omega) (by omega) (by omega) (by omega)
    rw [List.drop_zero] at hy
    rw [slotmeshref35_Check.j0, if_neg (by simp [hl]), leaf_some hpg (by omega), Option.bind_some, hy]
    rw [show (0 : Int) = ((0 : Nat) : Int) from rfl, hc]
    rfl
  · rw [hbad _ (by simp; omega)]
    congr 1
    generalize hs : (walkF 16 n i).foldl checkStep (some (leafF page, pr)) = s
    match s, hs with
    | none, _ => rfl
    | some (x, []), hs =>
      have := fold_len _ _ _ _ _ hs
      simp at this
      exact absurd this hl
    | some (x, _ :: _), _ => rfl

theorem same_loop (l : List Int) (hl : l.length ≤ 300) : ∀ (d k i : Nat), d < k → i + d = l.length → slotmeshref35_Same.l0 k l l (i : Int) = some true
  | d, 0, _, h, _ => absurd h (Nat.not_lt_zero _)
  | 0, k + 1, i, _, hi => by
    rw [slotmeshref35_Same.l0, if_neg (by omega)]
  | d + 1, k + 1, i, h, hi => by
    rw [slotmeshref35_Same.l0, if_pos (by omega), if_pos (by omega), if_pos (by omega), if_pos rfl, one_up (by omega)]
    exact same_loop l hl d k (i + 1) (by omega) (by omega)

theorem same_some {l : List Int} (hl : l.length ≤ 300) {k : Nat} (hk : 300 < k) : slotmeshref35_Same.f k l l = some true := by
  unfold slotmeshref35_Same.f
  rw [if_pos rfl]
  exact same_loop l hl l.length k 0 (by omega) (by omega)

theorem proofF_len (l : List (List Int)) (i : Int) : (proofF l i).1.length ≤ 4 := by
  by_cases h : pagesB l = true ∧ 0 ≤ i ∧ i < l.length
  · obtain ⟨hp, h0, h1⟩ := h
    obtain ⟨i, rfl⟩ := Int.eq_ofNat_of_zero_le h0
    obtain ⟨_, h16, _⟩ := pagesB_facts hp
    rw [proof_eq hp (by omega)]
    exact pf_four 4 _ _ _ (by simpa using h16)
  · unfold proofF
    rw [if_neg h]
    simp

theorem law : slotmeshlaw35_TreeMatchesReference.Pure := by
  intro l root n i page pr hm _ _ _ _ _ _ _ _ _ _ _
  obtain ⟨b, hb⟩ := few_some l hm 1001
  refine ⟨l.length + 20 + 1001, ?_⟩
  have hj : slotmeshlaw35_TreeMatchesReference.j0 (l.length + 20 + 1001) l root n i page pr true true = some true := by
    rw [show l.length + 20 + 1001 = l.length + 1000 + 20 + 1 by omega, slotmeshlaw35_TreeMatchesReference.j0, if_pos rfl]
  unfold slotmeshlaw35_TreeMatchesReference.f slotmeshlaw35_head.f
  rw [Option.bind_some, hb, Option.bind_some]
  cases b with
  | false => rw [if_neg (by simp)]; exact hj
  | true =>
    rw [if_pos rfl]
    by_cases h1 : (page.length : Int) > 300
    · rw [if_pos h1]; exact hj
    rw [if_neg h1]
    by_cases h2 : (pr.length : Int) > 20
    · rw [decide_eq_true h2]; exact hj
    rw [decide_eq_false h2, show l.length + 20 + 1001 = l.length + 1000 + 20 + 1 by omega, slotmeshlaw35_TreeMatchesReference.j0, if_neg (by simp)]
    unfold tree_Root.f tree_Proof.f tree_Check.f
    rw [Option.bind_some, root_some l (by omega), Option.bind_some, Option.bind_some, proof_some l i (by omega), Option.bind_some, if_pos rfl, if_pos rfl, if_pos rfl, same_some (by have := proofF_len l i; omega) (by omega), Option.bind_some, if_pos rfl, if_pos rfl,
      Option.bind_some, show l.length + 1000 + 20 = l.length + 1019 + 1 by omega, check_some root n i page pr (by omega) (by omega) (by omega), Option.bind_some]
    simp

end Go.Proofs.Ytnjhegcdjhklfaa.PureTreeMatchesReference
namespace Go.Proofs.Ytnjhegcdjhklfaa.Pure
theorem TreeMatchesReference : PTreeMatchesReference.slotmeshlaw35_TreeMatchesReference.Pure := PureTreeMatchesReference.law
end Go.Proofs.Ytnjhegcdjhklfaa.Pure
