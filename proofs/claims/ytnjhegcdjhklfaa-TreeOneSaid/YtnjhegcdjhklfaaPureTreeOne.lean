/- Two pages that are accepted with the same proof for the same root and place have the same leaf; of two pages that differ in exactly one byte, at most one is accepted. -/
import Derived.Test.YtnjhegcdjhklfaaPTreeOnex1
import Derived.Test.YtnjhegcdjhklfaaTree
namespace Go.Proofs.Ytnjhegcdjhklfaa.Pure
open Go Go.RowKit Go.Proofs.Ytnjhegcdjhklfaa.PTreeOne Go.Proofs.YtnjhegcdjhklfaaW.PrintWords Go.Proofs.YtnjhegcdjhklfaaW.PrintLast Go.Proofs.Ytnjhegcdjhklfaa.Dig

theorem TreeOne : slotmeshlaw35_TreeOne.Pure := by
  intro a0 a1 a2 l3 l4 l5 a6 a7 _ _ _ _ _ _ _ _ hb4 hm5 hb5 _ h6 h7
  refine ⟨2, ?_⟩
  unfold slotmeshlaw35_TreeOne.f slotmeshlaw35_head.f
  simp only [Option.bind_some]
  have hj : slotmeshlaw35_TreeOne.j0 2 a0 a1 a2 l3 l4 l5 a6 a7 true true = some true := by
    simp [slotmeshlaw35_TreeOne.j0]
  split
  · exact hj
  split
  · exact hj
  split
  · exact hj
  rename_i hl4 hl5 hl3
  unfold tree_Check.f
  simp only [Option.bind_some]
  cases hc : checkF a0 a1 a2 l4 l3 with
  | false => exact hj
  | true =>
    have h1 : slotmeshlaw35_TreeOne.j1 1 a0 a1 a2 l3 l4 a6 a7 true false = some true := by
      rw [slotmeshlaw35_TreeOne.j1, if_neg (by simp)]
      by_cases h0 : (l4.length : Int) = 0
      · rw [if_pos h0]
      rw [if_neg h0]
      by_cases h20 : a7 = 0
      · rw [if_pos h20]
      rw [if_neg h20]
      have ha1 := wf_u16 h6
      have hw : wrap64 a6 = a6 := by unfold wrap64; omega
      have hpos : 0 < l4.length := by omega
      have ht : Int.tmod a6 (l4.length : Int) = ((a6.toNat % l4.length : Nat) : Int) := by
        obtain ⟨n, rfl⟩ := Int.eq_ofNat_of_zero_le ha1.1
        rw [Int.tmod_eq_emod_of_nonneg (by omega)]
        simp
      have hi : a6.toNat % l4.length < l4.length := Nat.mod_lt _ hpos
      simp only [tree_Check.f, Option.bind_some, List.nil_append, List.length_nil, hw, ht]
      rw [if_pos (by omega), if_neg h0, if_pos (by omega), if_pos (by omega), if_pos trivial]
      generalize a6.toNat % l4.length = i at hi ⊢
      have hx := hb4 _ (List.getElem_mem hi)
      have hrd : rd l4 (i : Int) = l4[i] := by simp [rd, hi]
      rw [hrd, Int.toNat_natCast]
      obtain ⟨hr, hne2⟩ := xor_byte (wf_u8 hx) (wf_u8 h7) h20
      have hn := leaf_set hi (wf_u8 hx) hr hne2
      congr 1
      rw [Bool.not_eq_true', Bool.eq_false_iff]
      intro hc2
      exact hn (check_inj hc2 hc)
    rw [Bool.not_true, slotmeshlaw35_TreeOne.j0, if_neg (by simp)]
    simp only [tree_Check.f, Option.bind_some]
    cases hc2 : checkF a0 a1 a2 l5 l3 with
    | false =>
      rw [if_neg (by simp)]
      exact h1
    | true =>
      have he := check_inj hc hc2
      have hl : ∀ l : List Int, slotmeshlaw35_leaf.f l = some (leafF l) := by
        intro l
        simp only [slotmeshlaw35_leaf.f, digest_Sum.f, digest_Add.f, Option.bind_some, leafF]
      rw [if_pos rfl, hl, hl]
      simp only [Option.bind_some]
      rw [he, bne_self_eq_false]
      exact h1

end Go.Proofs.Ytnjhegcdjhklfaa.Pure
