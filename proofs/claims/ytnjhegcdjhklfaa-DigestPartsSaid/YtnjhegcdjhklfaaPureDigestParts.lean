/- The digest of two strings, one after the other, is that of the first one, continued by the second one, and an empty string continues nothing; for every two strings of up to 5000 bytes and every state. -/
import Derived.Test.YtnjhegcdjhklfaaPDigestPartsx1
import Derived.Test.YtnjhegcdjhklfaaNum
namespace Go.Proofs.Ytnjhegcdjhklfaa.Pure
open Go Go.RowKit Go.Proofs.Ytnjhegcdjhklfaa.PDigestParts Go.Proofs.YtnjhegcdjhklfaaW.PrintWords Go.Proofs.YtnjhegcdjhklfaaW.PrintLast Go.Proofs.Ytnjhegcdjhklfaa.Dig


theorem DigestParts : slotmeshlaw05_DigestParts.Pure := by
  intro l0 l1 a2 _ h0 _ _ h1 _ _
  refine ⟨1, ?_⟩
  unfold slotmeshlaw05_DigestParts.f slotmeshlaw05_head.f
  simp only [Option.bind_some]
  have hj : slotmeshlaw05_DigestParts.j0 1 l0 l1 a2 true true = some true := by
    simp [slotmeshlaw05_DigestParts.j0]
  split
  · exact hj
  · rename_i hl0
    by_cases hl1 : (l1.length : Int) > 5000
    · rw [decide_eq_true hl1]; exact hj
    · rw [decide_eq_false hl1]
      simp only [slotmeshlaw05_DigestParts.j0, digest_Add.f, digest_Sum.f, Option.bind_some, List.nil_append, List.length_append, List.length_nil]
      rw [if_neg (by simp), if_pos (by omega), if_pos (by omega), if_pos trivial]
      rw [if_pos (addF_append _ _ _).symm, if_pos (addF_append _ _ _).symm]
      simp [addF_nil]

end Go.Proofs.Ytnjhegcdjhklfaa.Pure
