/- Two digests that are continued by the same bytes (up to 5000) are equal afterwards if and only if they were before; for every pair of digests and every string of bytes. -/
import Derived.Test.YtnjhegcdjhklfaaPDigestStatesx1
import Derived.Test.YtnjhegcdjhklfaaNum
namespace Go.Proofs.Ytnjhegcdjhklfaa.Pure
open Go Go.RowKit Go.Proofs.Ytnjhegcdjhklfaa.PDigestStates Go.Proofs.YtnjhegcdjhklfaaW.PrintWords Go.Proofs.YtnjhegcdjhklfaaW.PrintLast Go.Proofs.Ytnjhegcdjhklfaa.Dig


theorem DigestStates : slotmeshlaw05_DigestStates.Pure := by
  intro a0 a1 l2 h0 h1 _ _ _
  unfold slotmeshlaw05_DigestStates.f slotmeshlaw05_head.f digest_Add.f
  simp only [Option.bind_some]
  split
  · rfl
  · rw [if_pos trivial]
    congr 1
    rw [beq_iff_eq, Bool.eq_iff_iff, beq_iff_eq, beq_iff_eq]
    exact addF_state (wf_u64 h0) (wf_u64 h1) l2

end Go.Proofs.Ytnjhegcdjhklfaa.Pure
