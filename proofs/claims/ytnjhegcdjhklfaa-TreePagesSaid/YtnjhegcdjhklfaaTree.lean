/- Plain laws of the tree: what a proof determines. -/
import Derived.Test.YtnjhegcdjhklfaaNum
namespace Go.Proofs.Ytnjhegcdjhklfaa.Dig
open Go

theorem in_leaf (p : List Int) : In (leafF p) := in_addF (in_addF in_basis _) _

theorem foldl_none2 (l : List (Bool × Bool)) : l.foldl checkStep none = none := by
  induction l with
  | nil => rfl
  | cons p l ih => exact ih

theorem step_unp (x : Int) (pr : List Int) (s : Bool) : checkStep (some (x, pr)) (false, s) = some (x, pr) := by simp [checkStep]
theorem step_empty (x : Int) (s : Bool) : checkStep (some (x, [])) (true, s) = none := by simp [checkStep]
theorem step_one (x d : Int) (r : List Int) : checkStep (some (x, d :: r)) (true, false) = some (pairF x d, r) := by simp [checkStep]
theorem step_two (x d : Int) (r : List Int) : checkStep (some (x, d :: r)) (true, true) = some (pairF d x, r) := by simp [checkStep]

/-- What comes out of the walk determines what went in. -/
theorem fold_inj : ∀ (ws : List (Bool × Bool)) (x y : Int) (pr : List Int) (z : Int) (q : List Int), In x → In y →
    ws.foldl checkStep (some (x, pr)) = some (z, q) → ws.foldl checkStep (some (y, pr)) = some (z, q) → x = y
  | [], x, y, pr, z, q, _, _, h1, h2 => by
    simp only [List.foldl_nil, Option.some.injEq, Prod.mk.injEq] at h1 h2
    exact h1.1.trans h2.1.symm
  | (false, s) :: ws, x, y, pr, z, q, hx, hy, h1, h2 => by
    rw [List.foldl_cons, step_unp] at h1 h2
    exact fold_inj ws x y pr z q hx hy h1 h2
  | (true, s) :: ws, x, y, [], z, q, hx, hy, h1, h2 => by
    rw [List.foldl_cons, step_empty, foldl_none2] at h1
    cases h1
  | (true, false) :: ws, x, y, d :: r, z, q, hx, hy, h1, h2 => by
    rw [List.foldl_cons, step_one] at h1 h2
    exact (pair_first hx hy).1 (fold_inj ws _ _ r z q (in_pair _ _) (in_pair _ _) h1 h2)
  | (true, true) :: ws, x, y, d :: r, z, q, hx, hy, h1, h2 => by
    rw [List.foldl_cons, step_two] at h1 h2
    exact (pair_second hx hy).1 (fold_inj ws _ _ r z q (in_pair _ _) (in_pair _ _) h1 h2)

theorem check_true {root n i : Int} {page proof : List Int} (h : checkF root n i page proof = true) :
    ¬ (n < 1 ∨ 16 < n ∨ i < 0 ∨ n ≤ i ∨ 256 < page.length) ∧ (walkF 16 n.toNat i.toNat).foldl checkStep (some (leafF page, proof)) = some (root, []) := by
  unfold checkF at h
  by_cases hg : n < 1 ∨ 16 < n ∨ i < 0 ∨ n ≤ i ∨ 256 < page.length
  · rw [if_pos hg] at h; cases h
  · rw [if_neg hg] at h
    refine ⟨hg, ?_⟩
    revert h
    generalize (walkF 16 n.toNat i.toNat).foldl checkStep (some (leafF page, proof)) = s
    intro h
    match s, h with
    | some (x, []), h => rw [of_decide_eq_true h]
    | some (x, _ :: _), h => cases h
    | none, h => cases h

theorem check_of {root n i : Int} {page proof : List Int} (hg : ¬ (n < 1 ∨ 16 < n ∨ i < 0 ∨ n ≤ i ∨ 256 < page.length)) (h : (walkF 16 n.toNat i.toNat).foldl checkStep (some (leafF page, proof)) = some (root, [])) :
    checkF root n i page proof = true := by
  unfold checkF
  rw [if_neg hg, h]
  simp

/-- Two pages that are accepted with the same proof have the same leaf. -/
theorem check_inj {root n i : Int} {a b proof : List Int} (h1 : checkF root n i a proof = true) (h2 : checkF root n i b proof = true) : leafF a = leafF b :=
  fold_inj _ _ _ _ _ _ (in_leaf a) (in_leaf b) (check_true h1).2 (check_true h2).2

/-- Pages that differ in one byte have different leaves. -/
theorem leaf_set {l : List Int} {j : Nat} (hj : j < l.length) {y : Int} (hb : 0 ≤ l[j] ∧ l[j] < 256) (hy : 0 ≤ y ∧ y < 256) (hne : y ≠ l[j]) : leafF (l.set j y) ≠ leafF l := by
  intro he
  have e1 : l = l.take j ++ l[j] :: l.drop (j + 1) := by simp
  have e2 : l.set j y = l.take j ++ y :: l.drop (j + 1) := by rw [List.set_eq_take_append_cons_drop, if_pos hj]
  unfold leafF at he
  have he2 : addF (addF 14695981039346656037 [0]) (l.take j ++ y :: l.drop (j + 1)) = addF (addF 14695981039346656037 [0]) (l.take j ++ l[j] :: l.drop (j + 1)) := by rw [← e1, ← e2]; exact he
  exact hne ((addF_byte _ _ _ _ hy hb).1 he2)

/-! ### The levels -/
theorem xor_one : ∀ i : Fin 32, (i.val ^^^ 1) = (if i.val % 2 = 1 then i.val - 1 else i.val + 1) := by decide +kernel
theorem xor_one' {i : Nat} (h : i < 32) : (i ^^^ 1) = (if i % 2 = 1 then i - 1 else i + 1) := xor_one ⟨i, h⟩

theorem nextF_len : ∀ (l : List Int), (nextF l).length = (l.length + 1) / 2
  | [] => rfl
  | [_] => by simp [nextF]
  | a :: b :: l => by
    have := nextF_len l
    simp only [nextF, List.length_cons, this]
    omega

/-- An element of the next level. -/
theorem nextF_at : ∀ (l : List Int) (j : Nat), 2 * j < l.length → (nextF l).getD j 0 = if 2 * j + 1 < l.length then pairF (l.getD (2 * j) 0) (l.getD (2 * j + 1) 0) else l.getD (2 * j) 0
  | [], j, h => by simp at h
  | [a], j, h => by
    obtain rfl : j = 0 := by simp at h; omega
    simp [nextF]
  | a :: b :: l, 0, h => by simp [nextF]
  | a :: b :: l, j + 1, h => by
    have := nextF_at l j (by simp at h; omega)
    simp only [nextF, List.getD_cons_succ, List.length_cons, show 2 * (j + 1) = 2 * j + 1 + 1 by omega]
    rw [this]
    by_cases hl : 2 * j + 1 < l.length
    · rw [if_pos hl, if_pos (by omega)]
    · rw [if_neg hl, if_neg (by omega)]

/-- The root of a level. -/
def topF : Nat → List Int → Int
  | 0, l => l.getD 0 0
  | k + 1, l => if 1 < l.length then topF k (nextF l) else l.getD 0 0

theorem levels_ne (k : Nat) (l : List Int) : levelsF k l ≠ [] := by
  cases k with
  | zero => simp [levelsF]
  | succ k => rw [levelsF]; split <;> simp

theorem levels_top : ∀ (k : Nat) (l : List Int), ((levelsF k l).getLast?.getD []).getD 0 0 = topF k l
  | 0, l => by simp [levelsF, topF]
  | k + 1, l => by
    rw [levelsF, topF]
    split
    · have := levels_top k (nextF l)
      rw [List.getLast?_cons_of_ne_nil (levels_ne k _)]
      exact this
    · simp

/-- The proof of element i of a level. -/
def pfF : Nat → List Int → Nat → List Int
  | 0, _, _ => []
  | k + 1, l, i => if 1 < l.length then (if i ^^^ 1 < l.length then [l.getD (i ^^^ 1) 0] else []) ++ pfF k (nextF l) (i / 2) else []

theorem single_step (acc : List Int) (i : Nat) (l : List Int) (hl : ¬ 1 < l.length) (hi : i < l.length) : (proofStep (acc, i) l).1 = acc := by
  unfold proofStep
  have h0 : i = 0 := by omega
  subst h0
  rw [if_neg (by simp; omega)]

theorem levels_proof : ∀ (k : Nat) (l : List Int) (i : Nat) (acc : List Int), l.length ≤ k + 1 → i < l.length → ((levelsF k l).foldl proofStep (acc, i)).1 = acc ++ pfF k l i
  | 0, l, i, acc, hl, hi => by
    simp only [levelsF, pfF, List.foldl_cons, List.foldl_nil, List.append_nil]
    exact single_step acc i l (by omega) hi
  | k + 1, l, i, acc, hl, hi => by
    rw [levelsF, pfF]
    by_cases h1 : 1 < l.length
    · rw [if_pos h1, if_pos h1, List.foldl_cons]
      have hn := nextF_len l
      have e : proofStep (acc, i) l = ((proofStep (acc, i) l).1, i / 2) := rfl
      rw [e, levels_proof k (nextF l) (i / 2) _ (by omega) (by omega)]
      unfold proofStep
      dsimp only
      split <;> simp
    · rw [if_neg h1, if_neg h1]
      simp only [List.foldl_cons, List.foldl_nil, List.append_nil]
      exact single_step acc i l h1 hi

/-- The walk with the proof of an element comes to the root. -/
theorem walk_proof : ∀ (k q : Nat) (l : List Int) (i : Nat) (rest : List Int), l.length ≤ k + 1 → l.length ≤ 2 ^ q → i < l.length → l.length ≤ 16 →
    (walkF q l.length i).foldl checkStep (some (l.getD i 0, pfF k l i ++ rest)) = some (topF k l, rest)
  | 0, q, l, i, rest, hk, hq, hi, h16 => by
    have h1 : l.length = 1 := by omega
    have h0 : i = 0 := by omega
    subst h0
    cases q with
    | zero => simp [walkF, pfF, topF]
    | succ q => rw [walkF, if_neg (by omega)]; simp [pfF, topF]
  | k + 1, q, l, i, rest, hk, hq, hi, h16 => by
    by_cases h1 : 1 < l.length
    · cases q with
      | zero => simp at hq; omega
      | succ q =>
        have hn := nextF_len l
        rw [walkF, if_pos h1, List.foldl_cons, pfF, if_pos h1, topF, if_pos h1]
        have ih := walk_proof k q (nextF l) (i / 2) rest (by omega) (by rw [hn]; rw [Nat.pow_succ] at hq; omega) (by omega) (by omega)
        rw [hn] at ih
        have hx := xor_one' (show i < 32 by omega)
        have hat := nextF_at l (i / 2) (by omega)
        by_cases hodd : i % 2 = 1
        · rw [if_pos hodd] at hx
          rw [hx, if_pos (show i - 1 < l.length by omega), decide_eq_true (show i - 1 < l.length by omega), decide_eq_true hodd, List.cons_append, List.nil_append, List.cons_append, step_two]
          rw [if_pos (by omega), show 2 * (i / 2) = i - 1 by omega, show i - 1 + 1 = i by omega] at hat
          rw [← hat]
          exact ih
        · rw [if_neg hodd] at hx
          have hi2 : 2 * (i / 2) = i := by omega
          rw [hi2] at hat
          rw [hx, decide_eq_false hodd]
          by_cases hp : i + 1 < l.length
          · rw [if_pos hp, decide_eq_true hp, List.cons_append, List.nil_append, List.cons_append, step_one]
            rw [if_pos hp] at hat
            rw [← hat]
            exact ih
          · rw [if_neg hp, decide_eq_false hp, List.nil_append, step_unp]
            rw [if_neg hp] at hat
            rw [← hat]
            exact ih
    · have h0 : i = 0 := by omega
      subst h0
      rw [pfF, if_neg h1, topF, if_neg h1]
      cases q with
      | zero => simp [walkF]
      | succ q => rw [walkF, if_neg h1]; simp

/-- What pages' root and proofs are. -/
theorem root_eq {pages : List (List Int)} (hp : pagesB pages = true) : rootF pages = (topF pages.length (pages.map leafF), 0) := by
  unfold rootF
  rw [if_pos hp]
  unfold allLevels
  rw [levels_top]

theorem proof_eq {pages : List (List Int)} (hp : pagesB pages = true) {i : Nat} (hi : i < pages.length) : proofF pages (i : Int) = (pfF pages.length (pages.map leafF) i, 0) := by
  unfold proofF
  rw [if_pos ⟨hp, by omega, by omega⟩]
  unfold allLevels
  rw [Int.toNat_natCast, levels_proof _ _ _ _ (by simp) (by simpa using hi), List.nil_append]

theorem pagesB_facts {l : List (List Int)} (h : pagesB l = true) : 0 < l.length ∧ l.length ≤ 16 ∧ ∀ p ∈ l, p.length ≤ 256 := by
  unfold pagesB at h
  simp only [Bool.and_eq_true, decide_eq_true_eq, List.all_eq_true] at h
  exact ⟨h.1.1, h.1.2, h.2⟩

theorem getD_map_leaf (pages : List (List Int)) (i : Nat) (hi : i < pages.length) : (pages.map leafF).getD i 0 = leafF (pages.getD i []) := by
  simp [hi]

/-- What the walk gives, for any proof that ends with 'rest'. -/
theorem walk_pages {pages : List (List Int)} (hp : pagesB pages = true) {i : Nat} (hi : i < pages.length) (rest : List Int) :
    (walkF 16 pages.length i).foldl checkStep (some (leafF (pages.getD i []), pfF pages.length (pages.map leafF) i ++ rest)) = some (topF pages.length (pages.map leafF), rest) := by
  obtain ⟨h0, h16, _⟩ := pagesB_facts hp
  have h := walk_proof pages.length 16 (pages.map leafF) i rest (by simp) (by simp; omega) (by simpa using hi) (by simpa using h16)
  rw [List.length_map, getD_map_leaf pages i hi] at h
  exact h

theorem guards_of {pages : List (List Int)} (hp : pagesB pages = true) {i : Nat} (hi : i < pages.length) {page : List Int} (hl : page.length ≤ 256) :
    ¬ ((pages.length : Int) < 1 ∨ 16 < (pages.length : Int) ∨ (i : Int) < 0 ∨ (pages.length : Int) ≤ i ∨ 256 < page.length) := by
  obtain ⟨h0, h16, _⟩ := pagesB_facts hp
  omega

theorem getD_len {pages : List (List Int)} (hp : pagesB pages = true) (i : Nat) : (pages.getD i []).length ≤ 256 := by
  obtain ⟨_, _, h⟩ := pagesB_facts hp
  by_cases hi : i < pages.length
  · rw [List.getD_eq_getElem?_getD, List.getElem?_eq_getElem hi]
    exact h _ (List.getElem_mem hi)
  · rw [List.getD_eq_getElem?_getD, List.getElem?_eq_none (by omega)]
    simp

/-- **The proof of every page is accepted.** -/
theorem check_proof {pages : List (List Int)} (hp : pagesB pages = true) {i : Nat} (hi : i < pages.length) :
    checkF (rootF pages).1 (pages.length : Int) (i : Int) (pages.getD i []) (proofF pages (i : Int)).1 = true := by
  rw [root_eq hp, proof_eq hp hi]
  refine check_of (guards_of hp hi (getD_len hp i)) ?_
  have h := walk_pages hp hi []
  rw [List.append_nil] at h
  rw [Int.toNat_natCast, Int.toNat_natCast]
  exact h

end Go.Proofs.Ytnjhegcdjhklfaa.Dig
