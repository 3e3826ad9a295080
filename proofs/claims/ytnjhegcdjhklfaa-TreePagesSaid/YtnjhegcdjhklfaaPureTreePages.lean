/- A page that differs from the right one in exactly one byte is not accepted with its proof, and the root of the pages with it is another one. -/
import Derived.Test.YtnjhegcdjhklfaaQTreePages
import Derived.Test.YtnjhegcdjhklfaaTree3
namespace Go.Proofs.Ytnjhegcdjhklfaa.PureTreePages
open Go Go.RowKit Go.Proofs.Ytnjhegcdjhklfaa.PTreePages Go.Proofs.YtnjhegcdjhklfaaW.PrintWords Go.Proofs.YtnjhegcdjhklfaaW.PrintLast Go.Proofs.Ytnjhegcdjhklfaa.Dig

theorem rd_getD (l : List (List Int)) (i : Nat) : rd_L1 l (i : Int) = l.getD i [] := by simp [rd_L1]

theorem few_loop (l : List (List Int)) (hm : l.length ≤ maxLen) : ∀ (d k i : Nat) (x : Int), d < k → i + d = l.length → ∃ b, slotmeshlaw35_few.l0 k l x l (l.length : Int) (i : Int) = some b
  | 0, 0, _, _, h, _ => by omega
  | 0, k + 1, i, x, _, hi => by
    rw [slotmeshlaw35_few.l0, if_neg (by omega)]
    split
    · exact ⟨_, rfl⟩
    · exact ⟨_, rfl⟩
  | d + 1, 0, _, _, h, _ => by omega
  | d + 1, k + 1, i, x, h, hi => by
    have hm' : maxLen = 9223372036854775807 := by decide
    have hw : wrap64 ((i : Int) + 1) = ((i + 1 : Nat) : Int) := by unfold wrap64; omega
    rw [slotmeshlaw35_few.l0, if_pos (by omega), if_pos (by omega), if_pos (by omega), hw]
    exact few_loop l hm d k (i + 1) _ (by omega) (by omega)

theorem few_some (l : List (List Int)) (hm : l.length ≤ maxLen) (n : Nat) : ∃ b, slotmeshlaw35_few.f (l.length + 20 + n) l = some b :=
  few_loop l hm l.length (l.length + 20 + n) 0 0 (by omega) (by omega)

theorem pages_loop (l : List (List Int)) (h16 : l.length ≤ 16) : ∀ (d k i : Nat), d < k → i + d = l.length → slotmeshref35_Pages.l0 k l (i : Int) = some ((l.drop i).all fun p => decide (p.length ≤ 256))
  | 0, 0, _, h, _ => by omega
  | 0, k + 1, i, _, hi => by
    rw [slotmeshref35_Pages.l0, if_neg (by omega), List.drop_of_length_le (by omega)]
    rfl
  | d + 1, 0, _, h, _ => by omega
  | d + 1, k + 1, i, h, hi => by
    have hw : wrap64 ((i : Int) + 1) = ((i + 1 : Nat) : Int) := by unfold wrap64; omega
    have hlt : i < l.length := by omega
    rw [slotmeshref35_Pages.l0, if_pos (by omega), if_pos (by omega), hw, rd_getD, List.drop_eq_getElem_cons hlt, List.all_cons]
    have hr : l.getD i [] = l[i] := by simp [hlt]
    rw [hr]
    by_cases hp : l[i].length ≤ 256
    · rw [if_neg (by omega), decide_eq_true hp, Bool.true_and]
      exact pages_loop l h16 d k (i + 1) (by omega) (by omega)
    · rw [if_pos (by omega), decide_eq_false hp, Bool.false_and]

theorem pages_some (l : List (List Int)) (n : Nat) : slotmeshref35_Pages.f (n + 20) l = some (pagesB l) := by
  unfold slotmeshref35_Pages.f pagesB
  by_cases h0 : 0 < l.length
  · rw [if_neg (by omega), decide_eq_true h0, Bool.true_and, show n + 20 = n + 19 + 1 by omega, slotmeshref35_Pages.j0]
    by_cases h16 : l.length ≤ 16
    · rw [decide_eq_true h16, Bool.true_and, if_neg (by simp; omega)]
      have := pages_loop l h16 l.length (n + 19) 0 (by omega) (by omega)
      rw [List.drop_zero] at this
      exact this
    · rw [decide_eq_false h16, Bool.false_and, if_pos (by simp; omega)]
  · rw [if_pos (by omega), decide_eq_false h0, Bool.false_and, Bool.false_and, show n + 20 = n + 19 + 1 by omega, slotmeshref35_Pages.j0, if_pos rfl]

/-- What 'proved' tells: either nothing, or the root, the place, and the proof. -/
theorem proved_some (l : List (List Int)) (a : Int) (ha : 0 ≤ a ∧ a < 256) (hm : l.length ≤ maxLen) (n : Nat) :
    slotmeshlaw35_proved.f (l.length + 20 + n) l a = some (0, 0, [], false) ∨
    ∃ i : Nat, i = a.toNat % l.length ∧ i < l.length ∧ pagesB l = true ∧ slotmeshlaw35_proved.f (l.length + 20 + n) l a = some ((rootF l).1, (i : Int), (proofF l (i : Int)).1, true) := by
  obtain ⟨b, hb⟩ := few_some l hm n
  have hp := pages_some l (l.length + n)
  rw [show l.length + n + 20 = l.length + 20 + n by omega] at hp
  unfold slotmeshlaw35_proved.f
  rw [hb, Option.bind_some, show l.length + 20 + n = l.length + 19 + n + 1 by omega]
  cases b with
  | false => exact .inl (by rw [if_neg (by simp), slotmeshlaw35_proved.j0, if_pos (by simp)])
  | true =>
    rw [if_pos rfl, show l.length + 19 + n + 1 = l.length + 20 + n by omega, hp, Option.bind_some]
    cases hq : pagesB l with
    | false => exact .inl (by rw [show l.length + 20 + n = l.length + 19 + n + 1 by omega, slotmeshlaw35_proved.j0, if_pos (by simp)])
    | true =>
      obtain ⟨h0, h16, _⟩ := pagesB_facts hq
      have hw : wrap64 a = a := by unfold wrap64; omega
      have ht : Int.tmod a (l.length : Int) = ((a.toNat % l.length : Nat) : Int) := by
        obtain ⟨n, rfl⟩ := Int.eq_ofNat_of_zero_le ha.1
        rw [Int.tmod_eq_emod_of_nonneg (by omega)]
        simp
      have hi : a.toNat % l.length < l.length := Nat.mod_lt _ h0
      refine .inr ⟨a.toNat % l.length, rfl, hi, rfl, ?_⟩
      generalize a.toNat % l.length = i at hi ht ⊢
      rw [show l.length + 20 + n = l.length + 19 + n + 1 by omega, slotmeshlaw35_proved.j0, if_neg (by simp), if_neg (by omega), hw, ht]
      unfold tree_Root.f tree_Proof.f
      rw [Option.bind_some, Option.bind_some, if_pos (by rw [root_eq hq]), if_pos (by rw [proof_eq hq hi])]


theorem tail_true {l : List (List Int)} {a2 a3 : Int} {i : Nat} (h2 : 0 ≤ a2 ∧ a2 < 65536) (h3 : 0 ≤ a3 ∧ a3 < 256) (h30 : a3 ≠ 0) (hp : pagesB l = true) (hi : i < l.length) (hb : ∀ x ∈ l.getD i [], 0 ≤ x ∧ x < 256) (h0 : 0 < (l.getD i []).length) :
    tailB l a2 a3 (rootF l).1 (i : Int) (proofF l (i : Int)).1 = true := by
  obtain ⟨_, h16, _⟩ := pagesB_facts hp
  have h256 := getD_len hp i
  unfold tailB oth
  rw [rd_getD, Int.toNat_natCast]
  have hps := @page_set l hp i hi
  revert hb h0 h256 hps
  generalize l.getD i [] = p
  intro hb h0 h256 hps
  have hw : wrap64 a2 = a2 := by unfold wrap64; omega
  have ht : Int.tmod a2 (p.length : Int) = ((a2.toNat % p.length : Nat) : Int) := by
    obtain ⟨n, rfl⟩ := Int.eq_ofNat_of_zero_le h2.1
    rw [Int.tmod_eq_emod_of_nonneg (by omega)]
    simp
  have hj : a2.toNat % p.length < p.length := Nat.mod_lt _ h0
  rw [hw, ht]
  generalize a2.toNat % p.length = j at hj ⊢
  have hrd : rd p (j : Int) = p[j] := by simp [rd, hj]
  rw [hrd, Int.toNat_natCast]
  have hbj := hb _ (List.getElem_mem hj)
  obtain ⟨hr, hne⟩ := xor_byte hbj h3 h30
  have hls := leaf_set hj hbj hr hne
  have hlen : (p.set j (Go.bits .xor .u8 p[j] a3)).length ≤ 256 := by rw [List.length_set]; exact h256
  obtain ⟨r1, r2, r3⟩ := hps hlen hls
  refine decide_eq_true ⟨by omega, by omega, h16, h0, h256, by omega, by omega, ?_, r1, r2, r3⟩
  rw [root_eq (pagesB_set hp i hlen)]

theorem law : slotmeshlaw35_TreePages.Pure := by
  intro l a1 a2 a3 hm _ hbytes h1 h2 h3
  have h1 := wf_u8 h1
  have h2 := wf_u16 h2
  have h3 := wf_u8 h3
  refine ⟨l.length + 20 + 0, ?_⟩
  unfold slotmeshlaw35_TreePages.f slotmeshlaw35_head.f
  rw [Option.bind_some]
  rcases proved_some l a1 h1 hm 0 with h | ⟨i, _, hi, hp, h⟩
  · rw [h, Option.bind_some, if_neg (by simp), show l.length + 20 + 0 = l.length + 19 + 1 by omega, slotmeshlaw35_TreePages.j0, if_pos rfl]
  · rw [h, Option.bind_some]
    dsimp only
    rw [if_pos rfl]
    by_cases h30 : a3 = 0
    · rw [if_pos h30, show l.length + 20 + 0 = l.length + 19 + 1 by omega, slotmeshlaw35_TreePages.j0, if_pos rfl]
    · rw [if_neg h30, if_pos (by omega), if_pos (by omega), if_pos (by omega), rd_getD, show l.length + 20 + 0 = l.length + 19 + 1 by omega, slotmeshlaw35_TreePages.j0]
      by_cases he : ((l.getD i []).length : Int) = 0
      · rw [if_pos (beq_iff_eq.2 he)]
      · have hmem : l.getD i [] ∈ l := by
          have hg : l.getD i [] = l[i] := by simp [hi]
          rw [hg]
          exact List.getElem_mem hi
        rw [if_neg (by simpa using he), if_pos (tail_true h2 h3 h30 hp hi (fun x hx => wf_u8 (hbytes _ hmem x hx)) (by omega))]

end Go.Proofs.Ytnjhegcdjhklfaa.PureTreePages
namespace Go.Proofs.Ytnjhegcdjhklfaa.Pure
theorem TreePages : PTreePages.slotmeshlaw35_TreePages.Pure := PureTreePages.law
end Go.Proofs.Ytnjhegcdjhklfaa.Pure
