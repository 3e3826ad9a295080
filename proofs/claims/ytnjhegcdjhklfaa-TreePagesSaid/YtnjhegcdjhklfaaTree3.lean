/- Plain laws of the tree: a page changed, halves of pages, and a page that follows. -/
import Derived.Test.YtnjhegcdjhklfaaTree2
namespace Go.Proofs.Ytnjhegcdjhklfaa.Dig
open Go

/-! ### A page changed -/
theorem pagesB_set {l : List (List Int)} (h : pagesB l = true) (i : Nat) {p : List Int} (hp : p.length ≤ 256) : pagesB (l.set i p) = true := by
  obtain ⟨h0, h16, hl⟩ := pagesB_facts h
  unfold pagesB
  simp only [Bool.and_eq_true, decide_eq_true_eq, List.all_eq_true, List.length_set]
  exact ⟨⟨h0, h16⟩, fun x hx => by 
    rcases List.mem_or_eq_of_mem_set hx with hx | rfl
    · exact hl x hx
    · exact hp⟩

theorem proof_set {l : List (List Int)} (h : pagesB l = true) {i : Nat} (hi : i < l.length) {p : List Int} (hp : p.length ≤ 256) : proofF (l.set i p) (i : Int) = proofF l (i : Int) := by
  obtain ⟨_, h16, _⟩ := pagesB_facts h
  rw [proof_eq h hi, proof_eq (pagesB_set h i hp) (by simpa using hi), List.map_set, List.length_set, pf_set _ _ _ _ (by omega)]

/-- A page with another leaf: what is accepted then, and that the root is another one. -/
theorem page_set {l : List (List Int)} (h : pagesB l = true) {i : Nat} (hi : i < l.length) {p : List Int} (hp : p.length ≤ 256) (hne : leafF p ≠ leafF (l.getD i [])) :
    (rootF (l.set i p)).1 ≠ (rootF l).1 ∧ checkF (rootF l).1 (l.length : Int) (i : Int) p (proofF l (i : Int)).1 = false ∧ checkF (rootF (l.set i p)).1 (l.length : Int) (i : Int) p (proofF l (i : Int)).1 = true := by
  have h1 := check_proof h hi
  have h2 := check_proof (pagesB_set h i hp) (i := i) (by simpa using hi)
  rw [proof_set h hi hp, List.length_set] at h2
  have hg : (l.set i p).getD i [] = p := by simp [hi]
  rw [hg] at h2
  have h3 : checkF (rootF l).1 (l.length : Int) (i : Int) p (proofF l (i : Int)).1 = false := by
    rw [Bool.eq_false_iff]
    intro hc
    exact hne (check_inj hc h1)
  refine ⟨fun he => ?_, h3, h2⟩
  rw [he, h3] at h2
  cases h2

/-! ### Halves -/
theorem nextF_append : ∀ (a b : List Int), a.length % 2 = 0 → nextF (a ++ b) = nextF a ++ nextF b
  | [], b, _ => rfl
  | [x], b, h => by simp at h
  | x :: y :: a, b, h => by
    simp only [List.cons_append, nextF, nextF_append a b (by simp at h; omega)]

theorem top_single (k : Nat) (z : Int) : topF k [z] = z := by
  cases k with
  | zero => rfl
  | succ k => rw [topF, if_neg (by simp)]; rfl

theorem pow_pos2 (q : Nat) : 0 < 2 ^ q := Nat.pow_pos (by omega)

/-- The top of two halves. -/
theorem top_halves : ∀ (q k k1 k2 : Nat) (a b : List Int), a.length = 2 ^ q → b.length = 2 ^ q → a.length + b.length ≤ k + 1 → a.length ≤ k1 + 1 → b.length ≤ k2 + 1 → topF k (a ++ b) = pairF (topF k1 a) (topF k2 b)
  | 0, k, k1, k2, a, b, ha, hb, hk, _, _ => by
    match a, b, ha, hb with
    | [x], [y], _, _ =>
      obtain ⟨k, rfl⟩ : ∃ k', k = k' + 1 := ⟨k - 1, by simp at hk; omega⟩
      rw [top_single, top_single, topF, if_pos (by simp)]
      exact top_single k _
  | q + 1, k, k1, k2, a, b, ha, hb, hk, hk1, hk2 => by
    have h2 := pow_pos2 q
    rw [Nat.pow_succ] at ha hb
    obtain ⟨k, rfl⟩ : ∃ k', k = k' + 1 := ⟨k - 1, by omega⟩
    obtain ⟨k1, rfl⟩ : ∃ k', k1 = k' + 1 := ⟨k1 - 1, by omega⟩
    obtain ⟨k2, rfl⟩ : ∃ k', k2 = k' + 1 := ⟨k2 - 1, by omega⟩
    have hna := nextF_len a
    have hnb := nextF_len b
    rw [topF, topF, topF, if_pos (by rw [List.length_append]; omega), if_pos (by omega), if_pos (by omega), nextF_append a b (by omega)]
    exact top_halves q k k1 k2 _ _ (by omega) (by omega) (by omega) (by omega) (by omega)

/-- The top of a full level that one element follows. -/
theorem top_more : ∀ (q k k1 : Nat) (a : List Int) (m : Int), a.length = 2 ^ q → a.length ≤ k → a.length ≤ k1 + 1 → topF k (a ++ [m]) = pairF (topF k1 a) m
  | 0, k, k1, a, m, ha, hk, _ => by
    match a, ha with
    | [x], _ =>
      obtain ⟨k, rfl⟩ : ∃ k', k = k' + 1 := ⟨k - 1, by simp at hk; omega⟩
      rw [top_single, topF, if_pos (by simp)]
      exact top_single k _
  | q + 1, k, k1, a, m, ha, hk, hk1 => by
    have h2 := pow_pos2 q
    rw [Nat.pow_succ] at ha
    obtain ⟨k, rfl⟩ : ∃ k', k = k' + 1 := ⟨k - 1, by omega⟩
    obtain ⟨k1, rfl⟩ : ∃ k', k1 = k' + 1 := ⟨k1 - 1, by omega⟩
    have hna := nextF_len a
    rw [topF, topF, if_pos (by rw [List.length_append]; omega), if_pos (by omega), nextF_append a _ (by omega)]
    exact top_more q k k1 _ m (by omega) (by omega) (by omega)

theorem pagesB_mk {l : List (List Int)} (h0 : 0 < l.length) (h16 : l.length ≤ 16) (hl : ∀ p ∈ l, p.length ≤ 256) : pagesB l = true := by
  unfold pagesB
  simp only [Bool.and_eq_true, decide_eq_true_eq, List.all_eq_true]
  exact ⟨⟨h0, h16⟩, hl⟩

/-- The root of a full level of pages is the digest of the pair of the roots of both halves. -/
theorem root_halves {a b : List (List Int)} {q : Nat} (ha : a.length = 2 ^ q) (hb : b.length = 2 ^ q) (h16 : a.length + b.length ≤ 16) (hla : ∀ p ∈ a, p.length ≤ 256) (hlb : ∀ p ∈ b, p.length ≤ 256) :
    rootF (a ++ b) = (pairF (rootF a).1 (rootF b).1, 0) ∧ (rootF a).2 = 0 ∧ (rootF b).2 = 0 := by
  have h2 := pow_pos2 q
  have pa := pagesB_mk (l := a) (by omega) (by omega) hla
  have pb := pagesB_mk (l := b) (by omega) (by omega) hlb
  have pab := pagesB_mk (l := a ++ b) (by rw [List.length_append]; omega) (by rw [List.length_append]; omega) (fun p hp => (List.mem_append.1 hp).elim (hla p) (hlb p))
  rw [root_eq pa, root_eq pb, root_eq pab, List.map_append, top_halves q _ a.length b.length _ _ (by simpa using ha) (by simpa using hb) (by simp) (by simp) (by simp)]
  exact ⟨rfl, rfl, rfl⟩

/-- The root of a full level of pages that a page follows. -/
theorem root_more {a : List (List Int)} {m : List Int} {q : Nat} (ha : a.length = 2 ^ q) (h16 : a.length < 16) (hla : ∀ p ∈ a, p.length ≤ 256) (hm : m.length ≤ 256) :
    rootF (a ++ [m]) = (pairF (rootF a).1 (leafF m), 0) := by
  have h2 := pow_pos2 q
  have pa := pagesB_mk (l := a) (by omega) (by omega) hla
  have pab := pagesB_mk (l := a ++ [m]) (by simp) (by simp; omega) (fun p hp => by
    rcases List.mem_append.1 hp with h | h
    · exact hla p h
    · rw [List.mem_singleton] at h; rw [h]; exact hm)
  rw [root_eq pa, root_eq pab, List.map_append, List.map_singleton, top_more q _ a.length _ _ (by simpa using ha) (by simp) (by simp)]

end Go.Proofs.Ytnjhegcdjhklfaa.Dig
