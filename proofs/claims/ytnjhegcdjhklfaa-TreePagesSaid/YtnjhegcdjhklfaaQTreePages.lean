/- The plain statement of TreePages, and the end of its walk. -/
import Derived.Test.YtnjhegcdjhklfaaPTreePagesx3
import Derived.Test.YtnjhegcdjhklfaaOpen
namespace Go.Proofs.Ytnjhegcdjhklfaa.PTreePages
open Go Go.RowKit Go.Proofs.YtnjhegcdjhklfaaW.PrintWords Go.Proofs.YtnjhegcdjhklfaaW.PrintLast Go.Proofs.YtnjhegcdjhklfaaW.PrintMore

def slotmeshlaw35_TreePages.Pure : Prop := ∀ (l0 : List (List Int)) (a1 : Int) (a2 : Int) (a3 : Int), l0.length ≤ maxLen → (∀ p ∈ l0, p.length ≤ maxLen) → (∀ p ∈ l0, ∀ x ∈ p, (Lit.int .u8 x).wf = true) → (Lit.int .u8 a1).wf = true → (Lit.int .u16 a2).wf = true → (Lit.int .u8 a3).wf = true → ∃ k, slotmeshlaw35_TreePages.f k l0 a1 a2 a3 = some true
theorem slotmeshlaw35_TreePages.walk (P : slotmeshlaw35_TreePages.Pure) (w : World) (s0 : Option Addr) (c0 : Nat) (l0 : List (List Int)) (hr0 : Kd.C (Kd.slice 5 (Kd.int .u8)) w s0 l0.length l0) (hc0 : l0.length ≤ c0) (m0 : l0.length ≤ maxLen) (y0 : ∀ p ∈ l0, p.length ≤ maxLen) (w0 : ∀ p ∈ l0, ∀ x ∈ p, (Lit.int .u8 x).wf = true) (a1 : Int) (w1 : (Lit.int .u8 a1).wf = true) (a2 : Int) (w2 : (Lit.int .u16 a2).wf = true) (a3 : Int) (w3 : (Lit.int .u8 a3).wf = true) :
    Calls Try.prog 14 #[.slice s0 l0.length c0, .int .u8 a1, .int .u16 a2, .int .u8 a3] w fun e w' => e = .returned (.bool true) ∧ Below w.heap.size w w' := by
  obtain ⟨k, h⟩ := P l0 a1 a2 a3 m0 y0 w0 w1 w2 w3
  refine (slotmeshlaw35_TreePages.calls k s0 c0 l0 a1 a2 a3 true w hr0 hc0 h).mono ?_
  rintro e w' ⟨rfl, hd⟩
  exact ⟨rfl, hd⟩

end Go.Proofs.Ytnjhegcdjhklfaa.PTreePages
