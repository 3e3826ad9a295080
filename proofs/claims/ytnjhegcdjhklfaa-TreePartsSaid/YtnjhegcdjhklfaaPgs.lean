/- Rows of pages as rows of slice headers: what is read as headers reads as pages, and the other way; appended rows, and a header set. -/
import Derived.Test.YtnjhegcdjhklfaaWMore
import Derived.Test.YtnjhegcdjhklfaaProg
import Derived.Tactics
import Derived.KernelRfl
namespace Go.Proofs.Ytnjhegcdjhklfaa.Hand
open Go Go.RowKit Go.Proofs.YtnjhegcdjhklfaaW.PrintWords

/-- A slice's header: where, how long, how long it may grow. -/
abbrev Hdr := Option Addr × Nat × Nat
abbrev hval (h : Hdr) : Value := .slice h.1 h.2.1 h.2.2
theorem hval_one (h : Hdr) : (hval h).oneCell' = true := rfl
def hkd : Kd Hdr := Kd.scalar hval hval_one
abbrev PgK : Kd (List Int) := Kd.slice 5 (Kd.int .u8)

/-- The headers of these pages. -/
def Rel (w : World) (hs : List Hdr) (l : List (List Int)) : Prop :=
  hs.length = l.length ∧ ∀ (j : Nat) (h : Hdr) (p : List Int), hs[j]? = some h → l[j]? = some p → h.2.1 = p.length ∧ p.length ≤ h.2.2 ∧ Kd.C (Kd.int .u8) w h.1 p.length p

theorem Rel.below {w w1 : World} {hs : List Hdr} {l : List (List Int)} (r : Rel w hs l) (hb : Below w.heap.size w w1) : Rel w1 hs l :=
  ⟨r.1, fun j h p hj hp => by
    obtain ⟨a, b, c⟩ := r.2 j h p hj hp
    exact ⟨a, b, Kd.C_below c hb⟩⟩

theorem Rel.take {w : World} {hs : List Hdr} {l : List (List Int)} (r : Rel w hs l) (m : Nat) : Rel w (hs.take m) (l.take m) := by
  refine ⟨by rw [List.length_take, List.length_take, r.1], fun j h p hj hp => ?_⟩
  rw [List.getElem?_take] at hj hp
  split at hj
  · rename_i hlt
    rw [if_pos hlt] at hp
    exact r.2 j h p hj hp
  · cases hj

theorem Rel.snoc {w : World} {hs : List Hdr} {l : List (List Int)} (r : Rel w hs l) {A : Option Addr} {c : Nat} {p : List Int} (hc : p.length ≤ c) (hp : Kd.C (Kd.int .u8) w A p.length p) : Rel w (hs ++ [(A, p.length, c)]) (l ++ [p]) := by
  refine ⟨by simp [r.1], fun j h q hj hq => ?_⟩
  by_cases hlt : j < hs.length
  · rw [List.getElem?_append_left hlt] at hj
    rw [List.getElem?_append_left (by rw [← r.1]; exact hlt)] at hq
    exact r.2 j h q hj hq
  · rw [List.getElem?_append_right (by omega)] at hj
    rw [List.getElem?_append_right (by rw [← r.1]; omega)] at hq
    have h0 : j - hs.length = 0 := by
      have := (List.getElem?_eq_some_iff.1 hj).1
      simp at this
      omega
    rw [h0] at hj
    rw [show j - l.length = 0 by rw [← r.1]; exact h0] at hq
    simp at hj hq
    subst hj hq
    exact ⟨rfl, hc, hp⟩

theorem Rel.set {w : World} {hs : List Hdr} {l : List (List Int)} (r : Rel w hs l) (i : Nat) {A : Option Addr} {c : Nat} {p : List Int} (hc : p.length ≤ c) (hp : Kd.C (Kd.int .u8) w A p.length p) : Rel w (hs.set i (A, p.length, c)) (l.set i p) := by
  refine ⟨by simp [r.1], fun j h q hj hq => ?_⟩
  rw [List.getElem?_set] at hj hq
  by_cases hij : i = j
  · subst hij
    rw [if_pos rfl] at hj hq
    split at hj
    · rename_i hlt
      rw [if_pos (by rw [← r.1]; exact hlt)] at hq
      cases hj
      cases hq
      exact ⟨rfl, hc, hp⟩
    · cases hj
  · rw [if_neg hij] at hj hq
    exact r.2 j h q hj hq

theorem hdrs_of_pages {w : World} {A : Option Addr} {n : Nat} {l : List (List Int)} (h : PgK.C w A n l) : ∃ hs, ReadsOf hval (none, 0, 0) w A n hs ∧ Rel w hs l := by
  obtain ⟨h1, h2, h3⟩ := h
  by_cases hn : 0 < n
  · obtain ⟨ad, rfl, hc⟩ := h3 hn
    have hx : ∀ j : Nat, ∃ hd : Hdr, ∀ p, l[j]? = some p → w.cell? (ad.add j) = some (hval hd) ∧ hd.2.1 = p.length ∧ p.length ≤ hd.2.2 ∧ Kd.C (Kd.int .u8) w hd.1 p.length p := by
      intro j
      cases hp : l[j]? with
      | none => exact ⟨(none, 0, 0), fun p hp => by cases hp⟩
      | some p =>
        obtain ⟨c, _, ⟨A', c', rfl, hl, hC⟩, hcell⟩ := hc j p hp
        refine ⟨(A', p.length, c'), fun q hq => ?_⟩
        cases hq
        refine ⟨?_, rfl, hl, hC⟩
        have := hcell 0 _ rfl
        simpa [Kd.slice] using this
    let f : Nat → Hdr := fun j => Classical.choose (hx j)
    have hf : ∀ j p, l[j]? = some p → w.cell? (ad.add j) = some (hval (f j)) ∧ (f j).2.1 = p.length ∧ p.length ≤ (f j).2.2 ∧ Kd.C (Kd.int .u8) w (f j).1 p.length p := fun j => Classical.choose_spec (hx j)
    refine ⟨(List.range n).map f, ⟨by simp, h2, fun _ => ⟨ad, rfl, fun j hj => ?_⟩⟩, by simp [h1], fun j hd p hj hp => ?_⟩
    · have hlt : j < l.length := by omega
      rw [(hf j l[j] (List.getElem?_eq_getElem hlt)).1]
      simp [hj]
    · have hlt : j < n := by
        have := (List.getElem?_eq_some_iff.1 hp).1
        omega
      have he : hd = f j := by
        have : ((List.range n).map f)[j]? = some (f j) := by simp [hlt]
        rw [this] at hj
        exact (Option.some.inj hj).symm
      subst he
      exact (hf j p hp).2
  · have h0 : n = 0 := by omega
    subst h0
    exact ⟨[], ⟨rfl, h2, fun h => absurd h (by omega)⟩, by simp [h1], fun j hd p hj => by simp at hj⟩

theorem pages_of_hdrs {w : World} {A : Option Addr} {n : Nat} {hs : List Hdr} {l : List (List Int)} (h : ReadsOf hval (none, 0, 0) w A n hs) (r : Rel w hs l) : PgK.C w A n l := by
  refine ⟨r.1.symm.trans h.1, h.2.1, fun hn => ?_⟩
  obtain ⟨ad, rfl, hc⟩ := h.2.2 hn
  refine ⟨ad, rfl, fun j p hj => ?_⟩
  have hlt : j < hs.length := by
    have := (List.getElem?_eq_some_iff.1 hj).1
    rw [r.1]
    exact this
  obtain ⟨e1, e2, e3⟩ := r.2 j hs[j] p (List.getElem?_eq_getElem hlt) hj
  have hcell := hc j (by rw [← h.1]; exact hlt)
  have hg : hs.getD j (none, 0, 0) = hs[j] := by simp [hlt]
  rw [hg] at hcell
  refine ⟨[hval hs[j]], rfl, ⟨hs[j].1, hs[j].2.2, by rw [← e1], e2, e3⟩, fun i u hu => ?_⟩
  match i, hu with
  | 0, hu =>
    simp at hu
    subst hu
    simpa [Kd.slice] using hcell

/-- An own row of headers reads as its pages. -/
theorem pages_of_own {w : World} {base n : Nat} {v : Value} {hs : List Hdr} {l : List (List Int)} (o : w.ownsRow base 22 1 v n (encs hval hs)) (hn : n = hs.length) (r : Rel w hs l) :
    ∃ A c, v = .slice A l.length c ∧ l.length ≤ c ∧ PgK.C w A l.length l := by
  subst hn
  obtain ⟨A, c, hv, hl, hC⟩ := Kd.R_reads (Kd.R_of_own (enc := hval) (h1 := hval_one) (ok := fun _ => True) o (fun _ _ => trivial))
  refine ⟨A, c, by rw [hv, r.1], by rw [← r.1]; exact hl, ?_⟩
  have := pages_of_hdrs (Kd.reads_of_C (d := ((none, 0, 0) : Hdr)) hC) r
  rwa [r.1] at this

theorem hdr_lit (w : World) (h : Hdr) (e : TypeId) (fr : Nat × Nat) : ReadsOf hval (none, 0, 0) (w.alloc (.cells #[hval h] e fr)) (some ⟨w.heap.size, 0, none⟩) 1 [h] := by
  refine ⟨rfl, by omega, fun _ => ⟨_, rfl, fun j hj => ?_⟩⟩
  obtain rfl : j = 0 := by omega
  have : (⟨w.heap.size, 0, none⟩ : Addr).add 0 = ⟨w.heap.size, 0, none⟩ := by
    unfold Addr.add; split <;> simp_all
  rw [this, World.cell?_alloc_mark]
  simp

theorem info22' : (Try.prog.info? 22).map (fun i => (i.zero, i.size, i.bytes)) = some (some (.slice none 0 0), 1, 24) := by kernel_rfl

end Go.Proofs.Ytnjhegcdjhklfaa.Hand
