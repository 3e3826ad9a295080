/- Strings of up to 5000 bytes that differ in exactly one byte have different digests; for every string, place and change. -/
import Derived.Test.YtnjhegcdjhklfaaPDigestBytex1
import Derived.Test.YtnjhegcdjhklfaaNum
namespace Go.Proofs.Ytnjhegcdjhklfaa.Pure
open Go Go.RowKit Go.Proofs.Ytnjhegcdjhklfaa.PDigestByte Go.Proofs.YtnjhegcdjhklfaaW.PrintWords Go.Proofs.YtnjhegcdjhklfaaW.PrintLast Go.Proofs.Ytnjhegcdjhklfaa.Dig


theorem DigestByte : slotmeshlaw05_DigestByte.Pure := by
  intro l0 a1 a2 _ h0 hb h1 h2
  refine ⟨1, ?_⟩
  unfold slotmeshlaw05_DigestByte.f slotmeshlaw05_head.f
  simp only [Option.bind_some]
  have hj : slotmeshlaw05_DigestByte.j0 1 l0 a1 a2 true true = some true := by
    simp [slotmeshlaw05_DigestByte.j0]
  split
  · exact hj
  · rename_i hne
    split
    · exact hj
    · by_cases h20 : a2 = 0
      · rw [beq_iff_eq.2 h20]; exact hj
      · rw [beq_eq_false_iff_ne.2 h20]
        have ha1 := wf_u16 h1
        have hw : wrap64 a1 = a1 := by unfold wrap64; omega
        have hpos : 0 < l0.length := by omega
        have ht : Int.tmod a1 (l0.length : Int) = ((a1.toNat % l0.length : Nat) : Int) := by
          obtain ⟨n, rfl⟩ := Int.eq_ofNat_of_zero_le ha1.1
          rw [Int.tmod_eq_emod_of_nonneg (by omega)]
          simp
        have hi : a1.toNat % l0.length < l0.length := Nat.mod_lt _ hpos
        simp only [slotmeshlaw05_DigestByte.j0, digest_Add.f, digest_Sum.f, Option.bind_some, List.nil_append, List.length_nil, hw, ht]
        rw [if_neg (by simp), if_pos (by omega), if_neg (by omega), if_pos (by omega), if_pos (by omega), if_pos trivial]
        generalize a1.toNat % l0.length = i at hi ⊢
        have hx := hb _ (List.getElem_mem hi)
        have hrd : rd l0 (i : Int) = l0[i] := by simp [rd, hi]
        rw [hrd]
        obtain ⟨hr, hne2⟩ := xor_byte (wf_u8 hx) (wf_u8 h2) h20
        have e1 : l0 = l0.take i ++ l0[i] :: l0.drop (i + 1) := by simp
        have e2 : l0.set i (Go.bits .xor .u8 l0[i] a2) = l0.take i ++ (Go.bits .xor .u8 l0[i] a2) :: l0.drop (i + 1) := by
          rw [List.set_eq_take_append_cons_drop, if_pos hi]
        show some (addF 14695981039346656037 l0 != addF 14695981039346656037 (l0.set i (Go.bits .xor .u8 l0[i] a2))) = some true
        congr 1
        rw [bne_iff_ne, e2]
        intro he
        have he2 : addF 14695981039346656037 (l0.take i ++ l0[i] :: l0.drop (i + 1)) = addF 14695981039346656037 (l0.take i ++ (Go.bits .xor .u8 l0[i] a2) :: l0.drop (i + 1)) := by rw [← e1]; exact he
        exact hne2 ((addF_byte _ _ _ _ (wf_u8 hx) hr).1 he2).symm

end Go.Proofs.Ytnjhegcdjhklfaa.Pure
