/- An argument of pages, opened: what it reads as. -/
import Derived.Test.YtnjhegcdjhklfaaWSized
import Derived.Test.YtnjhegcdjhklfaaWMore
import Derived.Test.YtnjhegcdjhklfaaProg
import Derived.Deep.Matrix
import Derived.SizedLaws
namespace Go.Proofs.Ytnjhegcdjhklfaa.Hand
open Go Go.RowKit Go.ChangeShapes Go.WideShapes Go.Deep Go.Proofs.YtnjhegcdjhklfaaW.PrintWords

theorem open_pages {H : Type} {enc : TypeId × Value → H} {W : World} {base : Nat} {held : Bool} {a : Option Addr} {len cap : Nat} {d : DataW H} {ps : List MemPlace} (h : DataW.Trod enc Try.prog W base (fun _ => true) held 32 (.slice a len cap) d ps) :
    ∃ l : List (List Int), l.length = len ∧ len ≤ cap ∧ Kd.C (Kd.slice 5 (Kd.int .u8)) W a l.length l ∧ (∀ p ∈ l, ∀ x ∈ p, (Lit.int .u8 x).wf = true) ∧ (∀ p ∈ l, p.length ≤ maxLen) ∧ len ≤ maxLen := by
  obtain ⟨fuel, hf⟩ := h
  rcases open_int_rows Try.underlying32 Try.underlying22 Try.underlying5 (by kernel_rfl) (by kernel_rfl) hf with ⟨hcs, _⟩ | ⟨ad, l, c, A, L, C, Z, hcs, _, hl, hm, _, hrows⟩
  · simp [Value.cells] at hcs
    obtain ⟨rfl, rfl, rfl⟩ := hcs
    exact ⟨[], rfl, Nat.le_refl _, Kd.C_nil _ _, by simp, by simp, by simp [maxLen]⟩
  · simp [Value.cells] at hcs
    obtain ⟨rfl, rfl, rfl⟩ := hcs
    have hlen : ((List.range len).map fun r => (Z r).take (L r)).length = len := by simp
    have hm' : maxLen ≤ 9223372036854775807 := by decide
    refine ⟨(List.range len).map fun r => (Z r).take (L r), hlen, hl, ?_, ?_, ?_, by omega⟩
    · rw [hlen]
      refine ⟨hlen, by omega, fun hn => ⟨ad, rfl, fun j p hj => ?_⟩⟩
      have hjl : j < len := by
        have := (List.getElem?_eq_some_iff.1 hj).1
        rwa [hlen] at this
      obtain ⟨r1, r2, r3, r4, r5, r6, r7⟩ := hrows j (by omega)
      have hp : (Z j).take (L j) = p := by simpa [hjl] using hj
      have hpl : p.length = L j := by rw [← hp, List.length_take]; omega
      refine ⟨[.slice (A j) p.length (C j)], rfl, ⟨A j, C j, rfl, by omega, ?_⟩, fun i u hu => ?_⟩
      · refine Kd.C_of_reads (d := (0 : Int)) ⟨rfl, by omega, fun hpos => ?_⟩
        cases hA : A j with
        | none => have := r6 hA; omega
        | some a' =>
          refine ⟨a', rfl, fun i hi => ?_⟩
          rw [(r7 a' hA).2 i (by omega), ← hp]
          congr 2
          rw [List.getD_eq_getElem?_getD, List.getD_eq_getElem?_getD, List.getElem?_take_of_lt (by omega)]
      · match i, hu with
        | 0, hu =>
          simp at hu
          subst hu
          show W.cell? (ad.add (j * 1 + 0)) = _
          rw [Nat.mul_one, Nat.add_zero, r1, hpl]
    · intro p hp x hx
      obtain ⟨r, hr, rfl⟩ := List.mem_map.1 hp
      obtain ⟨_, _, _, _, r5, _⟩ := hrows r (by have := List.mem_range.1 hr; omega)
      exact r5 x (List.mem_of_mem_take hx)
    · intro p hp
      obtain ⟨r, hr, rfl⟩ := List.mem_map.1 hp
      obtain ⟨_, r2, r3, _⟩ := hrows r (by have := List.mem_range.1 hr; omega)
      rw [List.length_take]
      omega

end Go.Proofs.Ytnjhegcdjhklfaa.Hand
