/- No two bytes that continue a string lead to the same digest, and at most one of them leaves it as it is: DigestMore returns true, for all strings of at most 140737488351232 bytes. -/
import Derived.Test.YtnjhegcdjhklfaaPDigestMorex1
namespace Go.Proofs.Ytnjhegcdjhklfaa.Pure
open Go.RowKit Go.Proofs.Ytnjhegcdjhklfaa.PDigestMore Go.Proofs.YtnjhegcdjhklfaaW.PrintWords Go.Proofs.YtnjhegcdjhklfaaW.PrintLast

theorem DigestMore : slotmeshlaw05_DigestMore.Pure := by
  intro l _ _ _
  rfl

end Go.Proofs.Ytnjhegcdjhklfaa.Pure
