/- The digest of two digests is another one if exactly one of them is another one, and each of them is determined by the other one and the result; for all digests. -/
import Derived.Test.YtnjhegcdjhklfaaPDigestPairsx1
import Derived.Test.YtnjhegcdjhklfaaNum
namespace Go.Proofs.Ytnjhegcdjhklfaa.Pure
open Go Go.RowKit Go.Proofs.Ytnjhegcdjhklfaa.PDigestPairs Go.Proofs.YtnjhegcdjhklfaaW.PrintWords Go.Proofs.YtnjhegcdjhklfaaW.PrintLast Go.Proofs.Ytnjhegcdjhklfaa.Dig

/-- The inverse of P, by Newton's steps. -/
theorem inverse_eq : slotmeshlaw05_inverse.f 7 = some 14886173955864302971 := by decide +kernel

theorem DigestPairs : slotmeshlaw05_DigestPairs.Pure := by
  intro a0 a1 a2 h0 h1 h2
  have i0 := wf_u64 h0
  have i1 := wf_u64 h1
  have i2 := wf_u64 h2
  refine ⟨7, ?_⟩
  unfold slotmeshlaw05_DigestPairs.f slotmeshlaw05_head.f digest_Pair.f
  rw [inverse_eq]
  simp only [Option.bind_some]
  rw [if_pos trivial]
  have e1 : Go.bits .xor .u64 (IntKind.u64.wrap (pairF a0 a1 * 14886173955864302971)) a1 = step0 3750763034362895578 a0 := step_undo (in_step _ _)
  have hb : In 3750763034362895578 := by constructor <;> omega
  have e2 : Go.bits .xor .u64 (IntKind.u64.wrap (step0 3750763034362895578 a0 * 14886173955864302971)) 3750763034362895578 = a0 := by
    have hi := in_xor (IntKind.u64.wrap (step0 3750763034362895578 a0 * 14886173955864302971)) 3750763034362895578
    rw [← bv_inj hi i0, bv_xor, bv_wrap, bv_mul, bv_step]
    show (bv 3750763034362895578 ^^^ bv a0) * bP * bQ ^^^ bv 3750763034362895578 = bv a0
    rw [BitVec.mul_assoc, PQ, BitVec.mul_one, BitVec.xor_comm (bv 3750763034362895578) (bv a0), BitVec.xor_assoc, BitVec.xor_self, BitVec.xor_zero]
  have e3 : Go.bits .xor .u64 (IntKind.u64.wrap (pairF a0 a1 * 14886173955864302971)) (IntKind.u64.wrap ((Go.bits .xor .u64 3750763034362895578 a0) * 1099511628211)) = a1 := by
    have hi := in_xor (IntKind.u64.wrap (pairF a0 a1 * 14886173955864302971)) (step0 3750763034362895578 a0)
    show Go.bits .xor .u64 (IntKind.u64.wrap (pairF a0 a1 * 14886173955864302971)) (step0 3750763034362895578 a0) = a1
    rw [← bv_inj hi i1, bv_xor, bv_wrap, bv_mul]
    show bv (step0 (step0 3750763034362895578 a0) a1) * bQ ^^^ bv (step0 3750763034362895578 a0) = bv a1
    rw [bv_step (step0 3750763034362895578 a0) a1, BitVec.mul_assoc, PQ, BitVec.mul_one, BitVec.xor_comm (bv (step0 _ _)) (bv a1), BitVec.xor_assoc, BitVec.xor_self, BitVec.xor_zero]
  rw [e1, if_pos e2, if_pos e3]
  rw [if_pos (by rw [beq_iff_eq, Bool.eq_iff_iff, beq_iff_eq, beq_iff_eq]; exact (pair_first i2 i0).trans eq_comm)]
  congr 1
  rw [beq_iff_eq, Bool.eq_iff_iff, beq_iff_eq, beq_iff_eq]
  exact (pair_second i2 i1).trans eq_comm

end Go.Proofs.Ytnjhegcdjhklfaa.Pure
