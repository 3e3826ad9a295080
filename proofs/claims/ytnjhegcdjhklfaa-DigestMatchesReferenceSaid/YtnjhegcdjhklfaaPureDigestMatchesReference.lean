/- All functions of the digest return what the reference returns; for every string of up to 5000 bytes and all states. -/
import Derived.Test.YtnjhegcdjhklfaaPDigestMatchesReferencex1
import Derived.Test.YtnjhegcdjhklfaaNum
namespace Go.Proofs.Ytnjhegcdjhklfaa.Pure
open Go Go.RowKit Go.Proofs.Ytnjhegcdjhklfaa.PDigestMatchesReference Go.Proofs.YtnjhegcdjhklfaaW.PrintWords Go.Proofs.YtnjhegcdjhklfaaW.PrintLast Go.Proofs.Ytnjhegcdjhklfaa.Dig

theorem ref_loop (l : List Int) (hl : l.length ≤ 5000) (d : Nat) : ∀ (s : Int) (j k : Nat), l.length = j + d → d < k → slotmeshref05_Add.l0 k s l j = some (addF s (l.drop j)) := by
  induction d with
  | zero =>
    intro s j k hj hk
    obtain ⟨k, rfl⟩ : ∃ m, k = m + 1 := ⟨k - 1, by omega⟩
    simp only [slotmeshref05_Add.l0]
    rw [if_neg (by omega), List.drop_of_length_le (by omega)]
    rfl
  | succ d ih =>
    intro s j k hj hk
    obtain ⟨k, rfl⟩ : ∃ m, k = m + 1 := ⟨k - 1, by omega⟩
    have hlt : j < l.length := by omega
    simp only [slotmeshref05_Add.l0]
    have hrd : rd l (j : Int) = l[j] := by simp [rd, hlt]
    have hw : wrap64 ((j : Int) + 1) = ((j + 1 : Nat) : Int) := by unfold wrap64; omega
    rw [if_pos (by omega), if_pos (by omega), hrd, hw, ih _ (j + 1) k (by omega) (by omega), List.drop_eq_getElem_cons hlt]
    rfl

theorem ref_add (l : List Int) (hl : l.length ≤ 5000) (s : Int) : slotmeshref05_Add.f (l.length + 1) s l = some (addF s l) := by
  have := ref_loop l hl l.length s 0 (l.length + 1) (by omega) (by omega)
  simpa [slotmeshref05_Add.f] using this

theorem DigestMatchesReference : slotmeshlaw05_DigestMatchesReference.Pure := by
  intro l0 a1 a2 _ hl _ _ _
  refine ⟨l0.length + 1, ?_⟩
  unfold slotmeshlaw05_DigestMatchesReference.f slotmeshlaw05_head.f digest_Sum.f digest_Add.f digest_Pair.f slotmeshref05_Sum.f slotmeshref05_Pair.f
  simp only [Option.bind_some]
  split
  · rfl
  · rename_i hlen
    rw [if_pos trivial, ref_add l0 (by omega), ref_add l0 (by omega)]
    simp only [Option.bind_some]
    rw [if_pos trivial, if_pos trivial]
    congr 1
    rw [beq_iff_eq]
    rfl

end Go.Proofs.Ytnjhegcdjhklfaa.Pure
