/- The contracts of the tree's functions, gathered. -/
import Derived.Test.YtnjhegcdjhklfaaProof
import Derived.Test.YtnjhegcdjhklfaaCheck
namespace Go.Proofs.Ytnjhegcdjhklfaa.Hand
end Go.Proofs.Ytnjhegcdjhklfaa.Hand
