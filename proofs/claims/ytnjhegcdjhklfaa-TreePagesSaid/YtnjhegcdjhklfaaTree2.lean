/- Plain laws of the tree: other pages, other proofs, and how long a proof is. -/
import Derived.Test.YtnjhegcdjhklfaaTree
namespace Go.Proofs.Ytnjhegcdjhklfaa.Dig
open Go

/-! ### Another page -/
theorem nextF_set : ∀ (l : List Int) (i : Nat) (y : Int), ∃ z, nextF (l.set i y) = (nextF l).set (i / 2) z
  | [], i, y => ⟨0, rfl⟩
  | [a], 0, y => ⟨y, rfl⟩
  | [a], i + 1, y => ⟨a, by
    simp only [List.set_cons_succ, List.set_nil, nextF]
    by_cases h : (i + 1) / 2 = 0
    · rw [h]; rfl
    · obtain ⟨q, hq⟩ : ∃ q, (i + 1) / 2 = q + 1 := ⟨(i + 1) / 2 - 1, by omega⟩
      rw [hq]; rfl⟩
  | a :: b :: l, 0, y => ⟨pairF y b, by simp only [List.set_cons_zero, nextF, Nat.zero_div]⟩
  | a :: b :: l, 1, y => ⟨pairF a y, by simp only [List.set_cons_zero, List.set_cons_succ, nextF, show (1 : Nat) / 2 = 0 from rfl]⟩
  | a :: b :: l, i + 2, y => by
    obtain ⟨z, hz⟩ := nextF_set l i y
    refine ⟨z, ?_⟩
    rw [show (i + 2) / 2 = i / 2 + 1 by omega]
    simp only [List.set_cons_succ, nextF, hz]

/-- The proof of an element does not hang on the element. -/
theorem pf_set : ∀ (k : Nat) (l : List Int) (i : Nat) (y : Int), i < 32 → pfF k (l.set i y) i = pfF k l i
  | 0, _, _, _, _ => rfl
  | k + 1, l, i, y, hi => by
    obtain ⟨z, hz⟩ := nextF_set l i y
    have hx := xor_one' hi
    have hne : i ≠ i ^^^ 1 := by
      rw [hx]
      split <;> omega
    rw [pfF, pfF, List.length_set, hz, pf_set k _ _ _ (by omega)]
    congr 2
    rw [List.getD_eq_getElem?_getD, List.getD_eq_getElem?_getD, List.getElem?_set_ne hne]

/-! ### Another proof -/
/-- How many digests the walk takes. -/
def cnt (ws : List (Bool × Bool)) : Nat := (ws.filter fun p => p.1).length

theorem fold_len : ∀ (ws : List (Bool × Bool)) (x : Int) (pr : List Int) (z : Int) (q : List Int), ws.foldl checkStep (some (x, pr)) = some (z, q) → pr.length = cnt ws + q.length
  | [], x, pr, z, q, h => by
    simp only [List.foldl_nil, Option.some.injEq, Prod.mk.injEq] at h
    simp [cnt, h.2]
  | (false, s) :: ws, x, pr, z, q, h => by
    rw [List.foldl_cons, step_unp] at h
    have := fold_len ws x pr z q h
    simpa [cnt] using this
  | (true, s) :: ws, x, [], z, q, h => by
    rw [List.foldl_cons, step_empty, foldl_none2] at h
    cases h
  | (true, false) :: ws, x, d :: r, z, q, h => by
    rw [List.foldl_cons, step_one] at h
    have := fold_len ws _ r z q h
    simp only [cnt, List.filter_cons, if_true, List.length_cons] at this ⊢
    omega
  | (true, true) :: ws, x, d :: r, z, q, h => by
    rw [List.foldl_cons, step_two] at h
    have := fold_len ws _ r z q h
    simp only [cnt, List.filter_cons, if_true, List.length_cons] at this ⊢
    omega

/-- A proof with one digest changed comes to another root. -/
theorem fold_other : ∀ (ws : List (Bool × Bool)) (x : Int) (a : List Int) (d e : Int) (r : List Int) (z : Int) (q : List Int), In x → In d → In e → q.length ≤ r.length →
    ws.foldl checkStep (some (x, a ++ d :: r)) = some (z, q) → ws.foldl checkStep (some (x, a ++ e :: r)) = some (z, q) → d = e
  | [], x, a, d, e, r, z, q, _, _, _, hq, h, _ => by
    simp only [List.foldl_nil, Option.some.injEq, Prod.mk.injEq] at h
    have := congrArg List.length h.2
    simp at this
    omega
  | (false, s) :: ws, x, a, d, e, r, z, q, hx, hd, he, hq, h1, h2 => by
    rw [List.foldl_cons, step_unp] at h1 h2
    exact fold_other ws x a d e r z q hx hd he hq h1 h2
  | (true, false) :: ws, x, c :: a, d, e, r, z, q, hx, hd, he, hq, h1, h2 => by
    rw [List.foldl_cons, List.cons_append, step_one] at h1 h2
    exact fold_other ws _ a d e r z q (in_pair _ _) hd he hq h1 h2
  | (true, true) :: ws, x, c :: a, d, e, r, z, q, hx, hd, he, hq, h1, h2 => by
    rw [List.foldl_cons, List.cons_append, step_two] at h1 h2
    exact fold_other ws _ a d e r z q (in_pair _ _) hd he hq h1 h2
  | (true, false) :: ws, x, [], d, e, r, z, q, hx, hd, he, hq, h1, h2 => by
    rw [List.foldl_cons, List.nil_append, step_one] at h1 h2
    exact (pair_second hd he).1 (fold_inj ws _ _ r z q (in_pair _ _) (in_pair _ _) h1 h2)
  | (true, true) :: ws, x, [], d, e, r, z, q, hx, hd, he, hq, h1, h2 => by
    rw [List.foldl_cons, List.nil_append, step_two] at h1 h2
    exact (pair_first hd he).1 (fold_inj ws _ _ r z q (in_pair _ _) (in_pair _ _) h1 h2)

theorem check_len {root n i : Int} {page proof : List Int} (h : checkF root n i page proof = true) : proof.length = cnt (walkF 16 n.toNat i.toNat) := by
  have := fold_len _ _ _ _ _ (check_true h).2
  simpa using this

theorem check_root {r s n i : Int} {page proof : List Int} (h1 : checkF r n i page proof = true) (h2 : checkF s n i page proof = true) : r = s := by
  have a := (check_true h1).2
  rw [(check_true h2).2] at a
  simp only [Option.some.injEq, Prod.mk.injEq] at a
  exact a.1.symm

theorem check_other {root n i : Int} {page proof : List Int} {j : Nat} (hj : j < proof.length) {e : Int} (hd : In proof[j]) (he : In e) (h1 : checkF root n i page proof = true) (h2 : checkF root n i page (proof.set j e) = true) : proof[j] = e := by
  have e1 : proof = proof.take j ++ proof[j] :: proof.drop (j + 1) := by simp
  have e2 : proof.set j e = proof.take j ++ e :: proof.drop (j + 1) := by rw [List.set_eq_take_append_cons_drop, if_pos hj]
  have a := (check_true h1).2
  have b := (check_true h2).2
  rw [e2] at b
  have a2 : (walkF 16 n.toNat i.toNat).foldl checkStep (some (leafF page, proof.take j ++ proof[j] :: proof.drop (j + 1))) = some (root, []) := by rw [← e1]; exact a
  exact fold_other _ _ _ _ _ _ _ _ (in_leaf page) hd he (by simp) a2 b

theorem nextF_in : ∀ (l : List Int), (∀ x ∈ l, In x) → ∀ x ∈ nextF l, In x
  | [], h => by simp [nextF]
  | [a], h => by simpa [nextF] using h
  | a :: b :: l, h => by
    intro x hx
    simp only [nextF, List.mem_cons] at hx
    rcases hx with rfl | hx
    · exact in_pair _ _
    · exact nextF_in l (fun y hy => h y (by simp [hy])) x hx

theorem pf_in : ∀ (k : Nat) (l : List Int) (i : Nat), (∀ x ∈ l, In x) → ∀ x ∈ pfF k l i, In x
  | 0, _, _, _ => by simp [pfF]
  | k + 1, l, i, h => by
    intro x hx
    rw [pfF] at hx
    split at hx
    · rcases List.mem_append.1 hx with hx | hx
      · split at hx
        · rename_i hlt
          rw [List.mem_singleton] at hx
          subst hx
          rw [List.getD_eq_getElem?_getD, List.getElem?_eq_getElem hlt]
          exact h _ (List.getElem_mem hlt)
        · simp at hx
      · exact pf_in k (nextF l) (i / 2) (nextF_in l h) x hx
    · simp at hx

theorem proof_in {pages : List (List Int)} (hp : pagesB pages = true) {i : Nat} (hi : i < pages.length) : ∀ x ∈ (proofF pages (i : Int)).1, In x := by
  rw [proof_eq hp hi]
  exact pf_in _ _ _ (fun x hx => by obtain ⟨p, _, rfl⟩ := List.mem_map.1 hx; exact in_leaf p)

/-- XOR with a number that is not 0 gives another number. -/
theorem xor_word {x y : Int} (hy : In y) (h0 : y ≠ 0) : In (Go.bits .xor .u64 x y) ∧ Go.bits .xor .u64 x y ≠ x := by
  refine ⟨in_xor _ _, fun he => h0 ?_⟩
  have h := congrArg bv he
  rw [bv_xor] at h
  have h2 : bv y = 0#64 := by
    have h3 : bv x ^^^ bv y = bv x ^^^ 0#64 := by rw [h, BitVec.xor_zero]
    exact xor_inj_r.1 h3
  have h4 : bv y = bv 0 := by rw [h2]; rfl
  exact (bv_inj hy ⟨by omega, by omega⟩).1 h4

/-- A proof has at most four digests. -/
theorem pf_four : ∀ (q k : Nat) (l : List Int) (i : Nat), l.length ≤ 2 ^ q → (pfF k l i).length ≤ q
  | q, 0, _, _, _ => by simp [pfF]
  | 0, k + 1, l, i, h => by
    rw [pfF, if_neg (by simp at h; omega)]
    simp
  | q + 1, k + 1, l, i, h => by
    have hn := nextF_len l
    rw [Nat.pow_succ] at h
    have := pf_four q k (nextF l) (i / 2) (by omega)
    rw [pfF]
    split
    · rw [List.length_append]
      split <;> simp <;> omega
    · simp

end Go.Proofs.Ytnjhegcdjhklfaa.Dig
