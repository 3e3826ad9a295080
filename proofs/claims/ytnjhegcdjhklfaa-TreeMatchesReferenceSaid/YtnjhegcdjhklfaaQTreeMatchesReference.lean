/- The plain statement of TreeMatchesReference, and the end of its walk. -/
import Derived.Test.YtnjhegcdjhklfaaPTreeMatchesReferencex4
import Derived.Test.YtnjhegcdjhklfaaOpen
namespace Go.Proofs.Ytnjhegcdjhklfaa.PTreeMatchesReference
open Go Go.RowKit Go.Proofs.YtnjhegcdjhklfaaW.PrintWords Go.Proofs.YtnjhegcdjhklfaaW.PrintLast Go.Proofs.YtnjhegcdjhklfaaW.PrintMore

def slotmeshlaw35_TreeMatchesReference.Pure : Prop := ∀ (l0 : List (List Int)) (a1 : Int) (a2 : Int) (a3 : Int) (l4 : List Int) (l5 : List Int), l0.length ≤ maxLen → (∀ p ∈ l0, p.length ≤ maxLen) → (∀ p ∈ l0, ∀ x ∈ p, (Lit.int .u8 x).wf = true) → (Lit.int .u64 a1).wf = true → (Lit.int .i64 a2).wf = true → (Lit.int .i64 a3).wf = true → l4.length ≤ maxLen → l4.length * 1 ≤ 140737488351232 → (∀ x ∈ l4, (Lit.int .u8 x).wf = true) → l5.length ≤ maxLen → l5.length * 8 ≤ 140737488351232 → (∀ x ∈ l5, (Lit.int .u64 x).wf = true) → ∃ k, slotmeshlaw35_TreeMatchesReference.f k l0 a1 a2 a3 l4 l5 = some true
theorem slotmeshlaw35_TreeMatchesReference.walk (P : slotmeshlaw35_TreeMatchesReference.Pure) (w : World) (s0 : Option Addr) (c0 : Nat) (l0 : List (List Int)) (hr0 : Kd.C (Kd.slice 5 (Kd.int .u8)) w s0 l0.length l0) (hc0 : l0.length ≤ c0) (m0 : l0.length ≤ maxLen) (y0 : ∀ p ∈ l0, p.length ≤ maxLen) (w0 : ∀ p ∈ l0, ∀ x ∈ p, (Lit.int .u8 x).wf = true) (a1 : Int) (w1 : (Lit.int .u64 a1).wf = true) (a2 : Int) (w2 : (Lit.int .i64 a2).wf = true) (a3 : Int) (w3 : (Lit.int .i64 a3).wf = true) (s4 : Option Addr) (c4 : Nat) (l4 : List Int) (hr4 : Kd.C (Kd.int .u8) w s4 l4.length l4) (hc4 : l4.length ≤ c4) (m4 : l4.length ≤ maxLen) (y4 : l4.length * 1 ≤ 140737488351232) (w4 : ∀ x ∈ l4, (Lit.int .u8 x).wf = true) (s5 : Option Addr) (c5 : Nat) (l5 : List Int) (hr5 : Kd.C (Kd.int .u64) w s5 l5.length l5) (hc5 : l5.length ≤ c5) (m5 : l5.length ≤ maxLen) (y5 : l5.length * 8 ≤ 140737488351232) (w5 : ∀ x ∈ l5, (Lit.int .u64 x).wf = true) :
    Calls Try.prog 12 #[.slice s0 l0.length c0, .int .u64 a1, .int .i64 a2, .int .i64 a3, .slice s4 l4.length c4, .slice s5 l5.length c5] w fun e w' => e = .returned (.bool true) ∧ Below w.heap.size w w' := by
  obtain ⟨k, h⟩ := P l0 a1 a2 a3 l4 l5 m0 y0 w0 w1 w2 w3 m4 y4 w4 m5 y5 w5
  refine (slotmeshlaw35_TreeMatchesReference.calls k s0 c0 l0 a1 a2 a3 s4 c4 l4 s5 c5 l5 true w hr0 hc0 hr4 hc4 hr5 hc5 h).mono ?_
  rintro e w' ⟨rfl, hd⟩
  exact ⟨rfl, hd⟩

end Go.Proofs.Ytnjhegcdjhklfaa.PTreeMatchesReference
