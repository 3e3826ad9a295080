/- The root of 2, 4, 8 or 16 pages is the digest of the pair of the roots of both halves; and if a page follows 1, 2, 4 or 8 pages, the root is the digest of the pair of their root and its leaf. -/
import Derived.Test.YtnjhegcdjhklfaaQTreeParts
import Derived.Test.YtnjhegcdjhklfaaTree3
namespace Go.Proofs.Ytnjhegcdjhklfaa.PureTreeParts
open Go Go.RowKit Go.Proofs.Ytnjhegcdjhklfaa.PTreeParts Go.Proofs.YtnjhegcdjhklfaaW.PrintWords Go.Proofs.YtnjhegcdjhklfaaW.PrintLast Go.Proofs.Ytnjhegcdjhklfaa.Dig

theorem rd_getD (l : List (List Int)) (i : Nat) : rd_L1 l (i : Int) = l.getD i [] := by simp [rd_L1]

theorem few_loop (l : List (List Int)) (hm : l.length ≤ maxLen) : ∀ (d k i : Nat) (x : Int), d < k → i + d = l.length → ∃ b, slotmeshlaw35_few.l0 k l x l (l.length : Int) (i : Int) = some b
  | 0, 0, _, _, h, _ => by omega
  | 0, k + 1, i, x, _, hi => by
    rw [slotmeshlaw35_few.l0, if_neg (by omega)]
    split
    · exact ⟨_, rfl⟩
    · exact ⟨_, rfl⟩
  | d + 1, 0, _, _, h, _ => by omega
  | d + 1, k + 1, i, x, h, hi => by
    have hm' : maxLen = 9223372036854775807 := by decide
    have hw : wrap64 ((i : Int) + 1) = ((i + 1 : Nat) : Int) := by unfold wrap64; omega
    rw [slotmeshlaw35_few.l0, if_pos (by omega), if_pos (by omega), if_pos (by omega), hw]
    exact few_loop l hm d k (i + 1) _ (by omega) (by omega)

theorem few_some (l : List (List Int)) (hm : l.length ≤ maxLen) (n : Nat) : ∃ b, slotmeshlaw35_few.f (l.length + 20 + n) l = some b :=
  few_loop l hm l.length (l.length + 20 + n) 0 0 (by omega) (by omega)

theorem pages_loop (l : List (List Int)) (h16 : l.length ≤ 16) : ∀ (d k i : Nat), d < k → i + d = l.length → slotmeshref35_Pages.l0 k l (i : Int) = some ((l.drop i).all fun p => decide (p.length ≤ 256))
  | 0, 0, _, h, _ => by omega
  | 0, k + 1, i, _, hi => by
    rw [slotmeshref35_Pages.l0, if_neg (by omega), List.drop_of_length_le (by omega)]
    rfl
  | d + 1, 0, _, h, _ => by omega
  | d + 1, k + 1, i, h, hi => by
    have hw : wrap64 ((i : Int) + 1) = ((i + 1 : Nat) : Int) := by unfold wrap64; omega
    have hlt : i < l.length := by omega
    rw [slotmeshref35_Pages.l0, if_pos (by omega), if_pos (by omega), hw, rd_getD, List.drop_eq_getElem_cons hlt, List.all_cons]
    have hr : l.getD i [] = l[i] := by simp [hlt]
    rw [hr]
    by_cases hp : l[i].length ≤ 256
    · rw [if_neg (by omega), decide_eq_true hp, Bool.true_and]
      exact pages_loop l h16 d k (i + 1) (by omega) (by omega)
    · rw [if_pos (by omega), decide_eq_false hp, Bool.false_and]

theorem pages_some (l : List (List Int)) (n : Nat) : slotmeshref35_Pages.f (n + 20) l = some (pagesB l) := by
  unfold slotmeshref35_Pages.f pagesB
  by_cases h0 : 0 < l.length
  · rw [if_neg (by omega), decide_eq_true h0, Bool.true_and, show n + 20 = n + 19 + 1 by omega, slotmeshref35_Pages.j0]
    by_cases h16 : l.length ≤ 16
    · rw [decide_eq_true h16, Bool.true_and, if_neg (by simp; omega)]
      have := pages_loop l h16 l.length (n + 19) 0 (by omega) (by omega)
      rw [List.drop_zero] at this
      exact this
    · rw [decide_eq_false h16, Bool.false_and, if_pos (by simp; omega)]
  · rw [if_pos (by omega), decide_eq_false h0, Bool.false_and, Bool.false_and, show n + 20 = n + 19 + 1 by omega, slotmeshref35_Pages.j0, if_pos rfl]


theorem leaf_some (p : List Int) : slotmeshlaw35_leaf.f p = some (leafF p) := by
  simp only [slotmeshlaw35_leaf.f, digest_Sum.f, digest_Add.f, Option.bind_some, leafF]

theorem take_half (l : List (List Int)) {h K : Nat} (hk : h ≤ K) : l.take h ++ (l.take K).drop h = l.take K := by
  have := List.take_append_drop h (l.take K)
  rw [List.take_take, Nat.min_eq_left hk] at this
  exact this

theorem more_some {l : List (List Int)} {m : List Int} (h16 : l.length ≤ 16) (hl : ∀ p ∈ l, p.length ≤ 256) (hm : m.length ≤ 256) {t K k : Nat} (hK : K = 2 ^ t) (ht : K ≤ l.length) :
    slotmeshlaw35_TreeParts.j2 (k + 1) l m true (K : Int) (rootF (l.take K)).1 = some true := by
  rw [slotmeshlaw35_TreeParts.j2]
  by_cases h : (K : Int) = 16
  · rw [if_pos h]
  · have hlen : (l.take K).length = K := by rw [List.length_take]; omega
    have hr := root_more (a := l.take K) (m := m) (q := t) (by rw [hlen]; exact hK) (by omega) (fun p hp => hl p (List.mem_of_mem_take hp)) hm
    rw [if_neg h, if_pos (by omega), if_pos (by omega), Int.toNat_natCast]
    unfold tree_Root.f
    rw [Option.bind_some, if_pos rfl, hr, if_pos rfl, leaf_some, Option.bind_some]
    unfold digest_Pair.f
    rw [Option.bind_some]
    simp

theorem end_some {l : List (List Int)} {m : List Int} (h16 : l.length ≤ 16) (hl : ∀ p ∈ l, p.length ≤ 256) (hm : m.length ≤ 256) {t K k : Nat} (hK : K = 2 ^ t) (ht : K ≤ l.length) (h2 : ¬ 2 * K ≤ l.length) :
    slotmeshlaw35_TreeParts.l0 (k + 2) l m true (K : Int) = some true := by
  have hw : wrap64 (2 * (K : Int)) = ((2 * K : Nat) : Int) := by unfold wrap64; omega
  have hlen : (l.take K).length = K := by rw [List.length_take]; omega
  have hpos : 0 < K := by rw [hK]; exact pow_pos2 t
  have hp := pagesB_mk (l := l.take K) (by omega) (by omega) (fun p hp => hl p (List.mem_of_mem_take hp))
  have h0 : (rootF (l.take K)).2 = 0 := by rw [root_eq hp]
  rw [slotmeshlaw35_TreeParts.l0, hw, if_neg (by omega), if_pos (by omega), if_pos (by omega), Int.toNat_natCast]
  unfold tree_Root.f
  rw [Option.bind_some, if_pos h0]
  by_cases h1 : (K : Int) > 1
  · obtain ⟨s, rfl⟩ : ∃ s, t = s + 1 := ⟨t - 1, by
      cases t with
      | zero => simp at hK; omega
      | succ t => rfl⟩
    obtain ⟨h, hh⟩ : ∃ h, h = 2 ^ s := ⟨_, rfl⟩
    have hhK : K = h * 2 := by rw [hK, Nat.pow_succ, hh]
    have hd : wrap64 (Int.tdiv (K : Int) 2) = (h : Int) := by
      rw [Int.tdiv_eq_ediv_of_nonneg (by omega)]
      unfold wrap64
      omega
    have e1 : (l.take h).length = h := by rw [List.length_take]; omega
    have e2 : ((l.take K).drop h).length = h := by rw [List.length_drop, hlen]; omega
    have hr := root_halves (a := l.take h) (b := (l.take K).drop h) (q := s) (by rw [e1]; exact hh) (by rw [e2]; exact hh) (by omega) (fun p hp => hl p (List.mem_of_mem_take hp)) (fun p hp => hl p (List.mem_of_mem_take (List.mem_of_mem_drop hp)))
    rw [take_half l (by omega)] at hr
    obtain ⟨r1, r2, r3⟩ := hr
    rw [if_pos h1, hd, if_pos (by omega), if_pos (by omega), Option.bind_some, if_pos (by omega), Option.bind_some, Int.toNat_natCast, if_pos r2, if_pos r3]
    unfold digest_Pair.f
    rw [Option.bind_some, if_pos (by rw [r1])]
    exact more_some h16 hl hm hK ht
  · rw [if_neg h1]
    exact more_some h16 hl hm hK ht

theorem loop {l : List (List Int)} {m : List Int} (h16 : l.length ≤ 16) (hl : ∀ p ∈ l, p.length ≤ 256) (hm : m.length ≤ 256) : ∀ (d t K k : Nat), K = 2 ^ t → t + d = 5 → K ≤ l.length →
    slotmeshlaw35_TreeParts.l0 (k + 2 + d) l m true (K : Int) = some true
  | 0, t, K, k, hK, ht, hl2 => by
    obtain rfl : t = 5 := by omega
    simp at hK
    omega
  | d + 1, t, K, k, hK, ht, hl2 => by
    by_cases h2 : 2 * K ≤ l.length
    · have hw : wrap64 (2 * (K : Int)) = ((2 * K : Nat) : Int) := by unfold wrap64; omega
      have hw2 : wrap64 ((K : Int) * 2) = ((2 * K : Nat) : Int) := by unfold wrap64; omega
      rw [show k + 2 + (d + 1) = k + 2 + d + 1 by omega, slotmeshlaw35_TreeParts.l0, hw, if_pos (by omega), hw2]
      exact loop h16 hl hm d (t + 1) (2 * K) k (by rw [Nat.pow_succ, hK]; omega) (by omega) h2
    · rw [show k + 2 + (d + 1) = (k + d + 1) + 2 by omega]
      exact end_some h16 hl hm hK hl2 h2

theorem law : slotmeshlaw35_TreeParts.Pure := by
  intro l m hm _ _ _ _ _
  obtain ⟨b, hb⟩ := few_some l hm 40
  have hp := pages_some l (l.length + 40)
  rw [show l.length + 40 + 20 = l.length + 20 + 40 by omega] at hp
  have hj : slotmeshlaw35_TreeParts.j0 (l.length + 20 + 40) l m true true = some true := by
    rw [show l.length + 20 + 40 = l.length + 20 + 39 + 1 by omega, slotmeshlaw35_TreeParts.j0, if_pos rfl]
  refine ⟨l.length + 20 + 40, ?_⟩
  unfold slotmeshlaw35_TreeParts.f slotmeshlaw35_head.f
  rw [Option.bind_some, hb, Option.bind_some]
  cases b with
  | false => rw [if_neg (by simp)]; exact hj
  | true =>
    rw [if_pos rfl, hp, Option.bind_some]
    cases hq : pagesB l with
    | false => rw [if_neg (by simp)]; exact hj
    | true =>
      obtain ⟨h0, h16, hl⟩ := pagesB_facts hq
      rw [if_pos rfl]
      by_cases h256 : (m.length : Int) > 256
      · rw [decide_eq_true h256]; exact hj
      · rw [decide_eq_false h256, show l.length + 20 + 40 = (l.length + 52 + 2 + 5) + 1 by omega, slotmeshlaw35_TreeParts.j0, if_neg (by simp)]
        exact loop h16 hl (by omega) 5 0 1 _ rfl rfl (by omega)

end Go.Proofs.Ytnjhegcdjhklfaa.PureTreeParts
namespace Go.Proofs.Ytnjhegcdjhklfaa.Pure
theorem TreeParts : PTreeParts.slotmeshlaw35_TreeParts.Pure := PureTreeParts.law
end Go.Proofs.Ytnjhegcdjhklfaa.Pure
