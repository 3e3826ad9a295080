/- From the digest after up to 5000 bytes, the digest before them is found, byte by byte from the last one, by multiplying with the inverse of P and XOR with the byte; for every state and every string. -/
import Derived.Test.YtnjhegcdjhklfaaPDigestUndonex1
import Derived.Test.YtnjhegcdjhklfaaNum
namespace Go.Proofs.Ytnjhegcdjhklfaa.Pure
open Go Go.RowKit Go.Proofs.Ytnjhegcdjhklfaa.PDigestUndone Go.Proofs.YtnjhegcdjhklfaaW.PrintWords Go.Proofs.YtnjhegcdjhklfaaW.PrintLast Go.Proofs.Ytnjhegcdjhklfaa.Dig

/-- The inverse of P, by Newton's steps. -/
theorem inverse_eq : slotmeshlaw05_inverse.f 7 = some 14886173955864302971 := by decide +kernel

theorem inverse_more (n : Nat) : slotmeshlaw05_inverse.f (n + 8) = some 14886173955864302971 := by
  have h : ∀ m, slotmeshlaw05_inverse.f (m + 7) = some 14886173955864302971 := by
    intro m
    induction m with
    | zero => exact inverse_eq
    | succ m ih => exact slotmeshlaw05_inverse.mono (m + 7) _ ih
  exact h (n + 1)

/-- The loop that undoes the bytes, from the last one on. -/
theorem undo (a0 : Int) (i0 : In a0) (l1 : List Int) (hb : ∀ x ∈ l1, (Lit.int .u8 x).wf = true) (hl : l1.length ≤ 5000) (j : Nat) : ∀ (_ : j ≤ l1.length) (k : Nat), j < k →
    slotmeshlaw05_DigestUndone.l0 k a0 l1 true (addF a0 (l1.take j)) 14886173955864302971 ((j : Int) - 1) = some true := by
  induction j with
  | zero =>
    intro _ k hk
    obtain ⟨k, rfl⟩ : ∃ m, k = m + 1 := ⟨k - 1, by omega⟩
    simp only [slotmeshlaw05_DigestUndone.l0]
    rw [if_neg (by omega), if_pos trivial, if_pos (by decide +kernel)]
    simp [addF_nil]
  | succ j ih =>
    intro hj k hk
    obtain ⟨k, rfl⟩ : ∃ m, k = m + 1 := ⟨k - 1, by omega⟩
    have hlt : j < l1.length := by omega
    have hx := hb _ (List.getElem_mem hlt)
    simp only [slotmeshlaw05_DigestUndone.l0]
    have e : ((j + 1 : Nat) : Int) - 1 = j := by omega
    rw [e, if_pos (by omega), if_pos (by omega), if_pos (by omega)]
    have hrd : rd l1 (j : Int) = l1[j] := by simp [rd, hlt]
    have hw : wrap64 ((j : Int) - 1) = (j : Int) - 1 := by unfold wrap64; omega
    have ht : l1.take (j + 1) = l1.take j ++ [l1[j]] := by rw [List.take_succ_eq_append_getElem hlt]
    rw [hrd, hw, ht, addF_snoc, step_undo (in_addF i0 _)]
    exact ih (by omega) k (by omega)

theorem DigestUndone : slotmeshlaw05_DigestUndone.Pure := by
  intro a0 l1 h0 _ hl hb
  have i0 := wf_u64 h0
  refine ⟨l1.length + 8, ?_⟩
  unfold slotmeshlaw05_DigestUndone.f slotmeshlaw05_head.f digest_Add.f
  simp only [Option.bind_some]
  split
  · rfl
  · rename_i hlen
    rw [inverse_more l1.length]
    simp only [Option.bind_some]
    have hw : wrap64 ((l1.length : Int) - 1) = (l1.length : Int) - 1 := by unfold wrap64; omega
    rw [hw]
    have := undo a0 i0 l1 hb (by omega) l1.length (Nat.le_refl _) (l1.length + 8) (by omega)
    rwa [List.take_length] at this

end Go.Proofs.Ytnjhegcdjhklfaa.Pure
