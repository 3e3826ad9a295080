/- The plain statement of TreeParts, and the end of its walk. -/
import Derived.Test.YtnjhegcdjhklfaaPTreePartsx2
import Derived.Test.YtnjhegcdjhklfaaOpen
namespace Go.Proofs.Ytnjhegcdjhklfaa.PTreeParts
open Go Go.RowKit Go.Proofs.YtnjhegcdjhklfaaW.PrintWords Go.Proofs.YtnjhegcdjhklfaaW.PrintLast Go.Proofs.YtnjhegcdjhklfaaW.PrintMore

def slotmeshlaw35_TreeParts.Pure : Prop := ∀ (l0 : List (List Int)) (l1 : List Int), l0.length ≤ maxLen → (∀ p ∈ l0, p.length ≤ maxLen) → (∀ p ∈ l0, ∀ x ∈ p, (Lit.int .u8 x).wf = true) → l1.length ≤ maxLen → l1.length * 1 ≤ 140737488351232 → (∀ x ∈ l1, (Lit.int .u8 x).wf = true) → ∃ k, slotmeshlaw35_TreeParts.f k l0 l1 = some true
theorem slotmeshlaw35_TreeParts.walk (P : slotmeshlaw35_TreeParts.Pure) (w : World) (s0 : Option Addr) (c0 : Nat) (l0 : List (List Int)) (hr0 : Kd.C (Kd.slice 5 (Kd.int .u8)) w s0 l0.length l0) (hc0 : l0.length ≤ c0) (m0 : l0.length ≤ maxLen) (y0 : ∀ p ∈ l0, p.length ≤ maxLen) (w0 : ∀ p ∈ l0, ∀ x ∈ p, (Lit.int .u8 x).wf = true) (s1 : Option Addr) (c1 : Nat) (l1 : List Int) (hr1 : Kd.C (Kd.int .u8) w s1 l1.length l1) (hc1 : l1.length ≤ c1) (m1 : l1.length ≤ maxLen) (y1 : l1.length * 1 ≤ 140737488351232) (w1 : ∀ x ∈ l1, (Lit.int .u8 x).wf = true) :
    Calls Try.prog 7 #[.slice s0 l0.length c0, .slice s1 l1.length c1] w fun e w' => e = .returned (.bool true) ∧ Below w.heap.size w w' := by
  obtain ⟨k, h⟩ := P l0 l1 m0 y0 w0 m1 y1 w1
  refine (slotmeshlaw35_TreeParts.calls k s0 c0 l0 s1 c1 l1 true w hr0 hc0 hr1 hc1 h).mono ?_
  rintro e w' ⟨rfl, hd⟩
  exact ⟨rfl, hd⟩

end Go.Proofs.Ytnjhegcdjhklfaa.PTreeParts
