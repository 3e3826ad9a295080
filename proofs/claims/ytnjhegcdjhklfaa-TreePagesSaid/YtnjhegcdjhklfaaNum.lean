/- The arithmetic of the digest: each step can be undone. -/
import Derived.Test.YtnjhegcdjhklfaaDig
namespace Go.Proofs.Ytnjhegcdjhklfaa.Dig
open Go

abbrev bv (x : Int) : BitVec 64 := BitVec.ofInt 64 x
abbrev bP : BitVec 64 := 1099511628211#64
abbrev bQ : BitVec 64 := 14886173955864302971#64

/-- A number of 64 bits. -/
def In (x : Int) : Prop := 0 ≤ x ∧ x < 18446744073709551616

theorem wrap_eq (n : Int) : IntKind.u64.wrap n = ((bv n).toNat : Int) := by
  simp only [IntKind.wrap, IntKind.bits, IntKind.signed, BitVec.toNat_ofInt]
  simp
  omega

theorem in_wrap (n : Int) : In (IntKind.u64.wrap n) := by
  rw [wrap_eq]
  have := (bv n).isLt
  exact ⟨by omega, by omega⟩

theorem bv_nat (b : BitVec 64) : bv (b.toNat : Int) = b := by simp

theorem bv_wrap (n : Int) : bv (IntKind.u64.wrap n) = bv n := by
  rw [wrap_eq, bv_nat]

theorem in_eq {x : Int} (h : In x) : x = ((bv x).toNat : Int) := by
  obtain ⟨h0, h1⟩ := h
  simp only [BitVec.toNat_ofInt]
  omega

theorem bv_inj {x y : Int} (hx : In x) (hy : In y) : bv x = bv y ↔ x = y :=
  ⟨fun h => by rw [in_eq hx, in_eq hy, h], fun h => by rw [h]⟩

theorem xor_eq (x y : Int) : Go.bits .xor .u64 x y = ((bv x ^^^ bv y).toNat : Int) := by
  show IntKind.u64.wrap ((BitVec.ofInt 64 x ^^^ BitVec.ofInt 64 y).toNat : Int) = _
  rw [wrap_eq, bv_nat]

theorem bv_xor (x y : Int) : bv (Go.bits .xor .u64 x y) = bv x ^^^ bv y := by rw [xor_eq, bv_nat]

theorem bv_mul (x y : Int) : bv (x * y) = bv x * bv y := by simp [BitVec.ofInt_mul]

theorem in_xor (x y : Int) : In (Go.bits .xor .u64 x y) := by
  rw [xor_eq]
  have := (bv x ^^^ bv y).isLt
  exact ⟨by omega, by omega⟩

theorem bv_step (x c : Int) : bv (step0 x c) = (bv x ^^^ bv c) * bP := by
  unfold step0
  rw [bv_wrap, bv_mul, bv_xor]
  rfl

theorem in_step (x c : Int) : In (step0 x c) := in_wrap _

theorem PQ : bP * bQ = 1#64 := by decide

theorem mul_inj {a b : BitVec 64} : a * bP = b * bP ↔ a = b := by
  constructor
  · intro h
    have : a * bP * bQ = b * bP * bQ := by rw [h]
    rwa [BitVec.mul_assoc, BitVec.mul_assoc, PQ, BitVec.mul_one, BitVec.mul_one] at this
  · intro h; rw [h]

theorem xor_inj_l {a b c : BitVec 64} : a ^^^ c = b ^^^ c ↔ a = b := by
  constructor
  · intro h
    have : a ^^^ c ^^^ c = b ^^^ c ^^^ c := by rw [h]
    rwa [BitVec.xor_assoc, BitVec.xor_assoc, BitVec.xor_self, BitVec.xor_zero, BitVec.xor_zero] at this
  · intro h; rw [h]

theorem xor_inj_r {a b c : BitVec 64} : c ^^^ a = c ^^^ b ↔ a = b := by
  rw [BitVec.xor_comm c a, BitVec.xor_comm c b]; exact xor_inj_l

/-- A step tells states apart. -/
theorem step_state {x y c : Int} (hx : In x) (hy : In y) : step0 x c = step0 y c ↔ x = y := by
  rw [← bv_inj (in_step _ _) (in_step _ _), bv_step, bv_step, mul_inj, xor_inj_l, bv_inj hx hy]

/-- A step tells words apart. -/
theorem step_word {x c d : Int} (hc : In c) (hd : In d) : step0 x c = step0 x d ↔ c = d := by
  rw [← bv_inj (in_step _ _) (in_step _ _), bv_step, bv_step, mul_inj, xor_inj_r, bv_inj hc hd]

theorem in_addF {s : Int} (hs : In s) (l : List Int) : In (addF s l) := by
  induction l generalizing s with
  | nil => exact hs
  | cons c l ih => exact ih (in_step _ _)

/-- Bytes that follow tell states apart. -/
theorem addF_state {x y : Int} (hx : In x) (hy : In y) (l : List Int) : addF x l = addF y l ↔ x = y := by
  induction l generalizing x y with
  | nil => exact Iff.rfl
  | cons c l ih => exact (ih (in_step _ _) (in_step _ _)).trans (step_state hx hy)

theorem in_basis : In 14695981039346656037 := by constructor <;> omega

theorem in_byte {x : Int} (h : 0 ≤ x ∧ x < 256) : In x := ⟨h.1, by omega⟩
theorem wrap_in {x : Int} (h : In x) : IntKind.u64.wrap x = x := by rw [wrap_eq]; exact (in_eq h).symm

/-- Strings that differ in one byte have different digests. -/
theorem addF_byte {s : Int} (l m : List Int) (c d : Int) (hc : 0 ≤ c ∧ c < 256) (hd : 0 ≤ d ∧ d < 256) :
    addF s (l ++ c :: m) = addF s (l ++ d :: m) ↔ c = d := by
  rw [addF_append, addF_append]
  show addF (step0 (addF s l) (IntKind.u64.wrap c)) m = addF (step0 (addF s l) (IntKind.u64.wrap d)) m ↔ _
  rw [addF_state (in_step _ _) (in_step _ _), wrap_in (in_byte hc), wrap_in (in_byte hd), step_word (in_byte hc) (in_byte hd)]

theorem in_pair (a b : Int) : In (pairF a b) := in_step _ _

/-- The first one of a pair is determined. -/
theorem pair_first {a b c : Int} (ha : In a) (hc : In c) : pairF a b = pairF c b ↔ a = c := by
  unfold pairF
  rw [step_state (in_step _ _) (in_step _ _), step_word ha hc]

/-- The second one of a pair is determined. -/
theorem pair_second {a b c : Int} (hb : In b) (hc : In c) : pairF a b = pairF a c ↔ b = c := by
  unfold pairF
  rw [step_word hb hc]

/-- A step is undone: multiply with the inverse of P, XOR with the word. -/
theorem step_undo {x c : Int} (hx : In x) : Go.bits .xor .u64 (IntKind.u64.wrap (step0 x c * 14886173955864302971)) c = x := by
  have hi := in_xor (IntKind.u64.wrap (step0 x c * 14886173955864302971)) c
  rw [← bv_inj hi hx, bv_xor, bv_wrap, bv_mul, bv_step]
  show (bv x ^^^ bv c) * bP * bQ ^^^ bv c = bv x
  rw [BitVec.mul_assoc, PQ, BitVec.mul_one, BitVec.xor_assoc, BitVec.xor_self, BitVec.xor_zero]

theorem wf_u64 {a : Int} (h : (Lit.int .u64 a).wf = true) : In a := by
  simp only [Lit.wf, Bool.and_eq_true, IntKind.min, IntKind.max, IntKind.bits, IntKind.signed] at h
  simp at h
  constructor <;> omega
theorem wf_u8 {a : Int} (h : (Lit.int .u8 a).wf = true) : 0 ≤ a ∧ a < 256 := by
  simp only [Lit.wf, Bool.and_eq_true, IntKind.min, IntKind.max, IntKind.bits, IntKind.signed] at h
  simp at h
  omega
theorem wf_u16 {a : Int} (h : (Lit.int .u16 a).wf = true) : 0 ≤ a ∧ a < 65536 := by
  simp only [Lit.wf, Bool.and_eq_true, IntKind.min, IntKind.max, IntKind.bits, IntKind.signed] at h
  simp at h
  omega

/-- XOR with a byte that isn't 0 makes another byte. -/
theorem xor_byte {x y : Int} (hx : 0 ≤ x ∧ x < 256) (hy : 0 ≤ y ∧ y < 256) (h0 : y ≠ 0) : (0 ≤ Go.bits .xor .u8 x y ∧ Go.bits .xor .u8 x y < 256) ∧ Go.bits .xor .u8 x y ≠ x := by
  have e : Go.bits .xor .u8 x y = ((BitVec.ofInt 8 x ^^^ BitVec.ofInt 8 y).toNat : Int) := by
    show IntKind.u8.wrap ((BitVec.ofInt 8 x ^^^ BitVec.ofInt 8 y).toNat : Int) = _
    generalize (BitVec.ofInt 8 x ^^^ BitVec.ofInt 8 y) = b
    have := b.isLt
    simp only [IntKind.wrap, IntKind.bits, IntKind.signed]
    simp
    omega
  rw [e]
  have hlt := (BitVec.ofInt 8 x ^^^ BitVec.ofInt 8 y).isLt
  refine ⟨⟨by omega, by omega⟩, fun he => h0 ?_⟩
  have hx2 : x = ((BitVec.ofInt 8 x).toNat : Int) := by simp only [BitVec.toNat_ofInt]; omega
  have hy2 : y = ((BitVec.ofInt 8 y).toNat : Int) := by simp only [BitVec.toNat_ofInt]; omega
  have h2 : BitVec.ofInt 8 x ^^^ BitVec.ofInt 8 y = BitVec.ofInt 8 x := by
    apply BitVec.eq_of_toNat_eq
    omega
  have h3 : BitVec.ofInt 8 y = 0#8 := by
    have h4 : BitVec.ofInt 8 x ^^^ (BitVec.ofInt 8 x ^^^ BitVec.ofInt 8 y) = BitVec.ofInt 8 x ^^^ BitVec.ofInt 8 x := by rw [h2]
    rwa [← BitVec.xor_assoc, BitVec.xor_self, BitVec.zero_xor] at h4
  rw [hy2, h3]
  rfl

end Go.Proofs.Ytnjhegcdjhklfaa.Dig
