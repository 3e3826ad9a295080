/- tree's walk from a page to the root: what its iterator hands over. -/
import Derived.Test.YtnjhegcdjhklfaaLeaf
import Derived.Test.YtnjhegcdjhklfaaReg
import Derived.BigRegionIn
import Derived.BigRegion
namespace Go.Proofs.Ytnjhegcdjhklfaa.Hand
open Go Go.RowKit Go.Shelf Go.Proofs.YtnjhegcdjhklfaaW.PrintWords
open Rng
attribute [local go_sem] Oper.semAt_some

/-- From A to B no block but those of X has turned. -/
structure Turn (X : Nat → Prop) (A B : World) : Prop where
  os : B.os = A.os
  tape : B.tape = A.tape
  output : B.output = A.output
  size : A.heap.size ≤ B.heap.size
  block : ∀ k, k < A.heap.size → ¬ X k → B.heap[k]? = A.heap[k]?

theorem Turn.refl (X : Nat → Prop) (A : World) : Turn X A A := ⟨rfl, rfl, rfl, Nat.le_refl _, fun _ _ _ => rfl⟩
theorem Turn.trans {X : Nat → Prop} {A B C : World} (h : Turn X A B) (k : Turn X B C) : Turn X A C :=
  ⟨k.os.trans h.os, k.tape.trans h.tape, k.output.trans h.output, Nat.le_trans h.size k.size, fun i hi hx => (k.block i (Nat.lt_of_lt_of_le hi h.size) hx).trans (h.block i hi hx)⟩
theorem Turn.mono {X Y : Nat → Prop} {A B : World} (h : Turn X A B) (hxy : ∀ k, k < A.heap.size → X k → Y k) : Turn Y A B :=
  ⟨h.os, h.tape, h.output, h.size, fun k hk hy => h.block k hk (fun hx => hy (hxy k hk hx))⟩
theorem Turn.below {X : Nat → Prop} {A B : World} {n : Nat} (h : Turn X A B) (hn : n ≤ A.heap.size) (hx : ∀ k, k < n → ¬ X k) : Below n A B :=
  ⟨h.os, h.tape, h.output, h.size, fun k hk => h.block k (by omega) (hx k hk)⟩
theorem Turn.of_below {n : Nat} {A B : World} (h : Below n A B) : Turn (fun k => n ≤ k) A B :=
  ⟨h.os, h.tape, h.output, h.size, fun k _ hx => h.block k (by omega)⟩
theorem Turn.drew {X : Nat → Prop} (A : World) : Turn X A A.drew := ⟨rfl, rfl, rfl, Nat.le_refl _, fun _ _ _ => rfl⟩
theorem Turn.setCell {X : Nat → Prop} (A : World) {p : Addr} (v : Value) (hp : X p.block) : Turn X A (A.setCell p v) :=
  ⟨rfl, rfl, rfl, by simp, fun k _ hx => Below.heap_setCell _ _ _ _ (fun e => hx (e ▸ hp))⟩
theorem Turn.alloc {X : Nat → Prop} (A : World) (o : Obj) : Turn X A (A.alloc o) :=
  ⟨rfl, rfl, rfl, by simp, fun k hk _ => Below.heap_alloc _ _ _ hk⟩
theorem Turn.boxed {X : Nat → Prop} {A B : World} (h : Turn X A B) {b : Nat} {t : TypeId} {v : Value} (hb : Boxed A b t v) (hx : ¬ X b) : Boxed B b t v := (h.block b hb.lt hx).trans hb
theorem Turn.put {X : Nat → Prop} {N : Nat} {A B : World} (h : Put N A B) (hx : ∀ k, N ≤ k → X k) : Turn X A B := (Turn.of_below h.below).mono (fun k _ hk => hx k hk)

theorem boxed_far {W : World} {B b : Nat} {t : TypeId} {v : Value} (h : Boxed W B t v) (hne : B ≠ b) (u : Value) : Boxed (W.setCell ⟨b, 0, none⟩ u) B t v := (Below.heap_setCell _ _ _ _ hne).trans h

theorem xor1 : ∀ i : Fin 16, Go.bits .xor .i64 ((i.val : Nat) : Int) 1 = ((i.val ^^^ 1 : Nat) : Int) := by decide +kernel
theorem xor1' {i : Nat} (h : i < 16) : Go.bits .xor .i64 (i : Int) 1 = ((i ^^^ 1 : Nat) : Int) := xor1 ⟨i, h⟩

/-- What the walk's iterator may turn: its own two variables. -/
abbrev Own2 (bn bi : Nat) : Nat → Prop := fun k => k = bn ∨ k = bi

set_option maxRecDepth 100000 in
set_option maxHeartbeats 4000000 in
theorem walk1_in (m : Nat) (hm : 1 ≤ m) (l bn bi : Nat) (hne : bn ≠ bi) (n i : Nat) (hn : n ≤ 16) (hi : i < 16) (J Jx : List (Bool × Bool) → World → Prop)
    (hY : ∀ pre x A B, J pre A → Turn (Own2 bn bi) A B → YieldAt FW (m - 1) Try.prog l #[.bool x.1, .bool x.2] B fun e W' =>
      (e = .returned (.bool true) ∧ J (pre ++ [x]) W' ∧ (W'.heap[bn]? = B.heap[bn]? ∧ W'.heap[bi]? = B.heap[bi]?)) ∨ (e = .returned (.bool false) ∧ Jx (pre ++ [x]) W'))
    (W : World) (hbn : Boxed W bn 3 (.int .i64 (n : Int))) (hbi : Boxed W bi 3 (.int .i64 (i : Int))) (h0 : J [] W) :
    CallsIn FW m Try.prog 54 #[.func (.yield l) #[] #[], .pointer (some ⟨bn, 0, none⟩), .pointer (some ⟨bi, 0, none⟩)] W (SeqEnd (fun ys => ys = Dig.walkF 16 n i) (fun pre => pre <+: Dig.walkF 16 n i) J Jx (Turn (Own2 bn bi))) := by
  refine callsIn_of_wp Try.func54 rfl trivial ?_ rfl
  simp only [Try.ntmps54, List.size_toArray, List.length_cons, List.length_nil, Nat.reduceAdd, Nat.reduceSub, Array.replicate_succ, Array.replicate_zero, List.push_toArray, List.append_toArray, List.nil_append, List.cons_append]
  gi_wp2
  gi_loopw [] (fun wr => ∃ (pre : List (Bool × Bool)) (A : World) (k n' i' : Nat), n' ≤ 16 ∧ i' < 16 ∧ n' ≤ 2 ^ k ∧ Hid (Dig.walkF 16 n i = pre ++ Dig.walkF k n' i') ∧ J pre A ∧ Turn (Own2 bn bi) A wr ∧ Boxed wr bn 3 (.int .i64 (n' : Int)) ∧ Boxed wr bi 3 (.int .i64 (i' : Int)))
    (fun wr => (intOf ((wr.cell? ⟨bn, 0, none⟩).getD undef)).toNat)
  case atStart => exact ⟨[], W, 16, n, i, hn, hi, by omega, rfl, h0, Turn.refl _ _, hbn, hbi⟩
  case round =>
    obtain ⟨pre, A, k, n', i', hn', hi', hk, HW, hJ, hT, hb1, hb2⟩ := hrel
    have hc1 := hb1.cell
    have hc2 := hb2.cell
    have hx := xor1' hi'
    by_cases hgt : 1 < n'
    · obtain ⟨k, rfl⟩ : ∃ k', k = k' + 1 := ⟨k - 1, by
        rcases k with _ | k
        · simp at hk; omega
        · omega⟩
      obtain ⟨p1, hp1⟩ : ∃ b, decide (i' ^^^ 1 < n') = b := ⟨_, rfl⟩
      obtain ⟨p2, hp2⟩ : ∃ b, decide (i' % 2 = 1) = b := ⟨_, rfl⟩
      have hp1' : decide (((i' ^^^ 1 : Nat) : Int) < (n' : Int)) = p1 := by rw [← hp1]; simp
      have hp2' : ((i' : Int) % 2 == 1) = p2 := by
        rw [← hp2, Bool.eq_iff_iff, beq_iff_eq, decide_eq_true_eq]; omega
      have HW2 : Hid (Dig.walkF 16 n i = (pre ++ [(p1, p2)]) ++ Dig.walkF k ((n' + 1) / 2) (i' / 2)) := by
        have e : Dig.walkF (k + 1) n' i' = (p1, p2) :: Dig.walkF k ((n' + 1) / 2) (i' / 2) := by rw [Dig.walkF, if_pos hgt, hp1, hp2]
        have h := HW.out
        rw [e] at h
        exact h.trans (by simp)
      clear HW
      have hgt' : (1 : Int) < n' := by omega
      obtain ⟨fn, tmps, assign, body, hy, hR⟩ := hY pre (p1, p2) A wr hJ hT
      dsimp only at hy
      gi_wp2
      refine hR.mono ?_
      rintro e W3 (⟨rfl, hJ3, hk1, hk2⟩ | ⟨rfl, hJx3⟩)
      · have hb1' : Boxed W3 bn 3 (.int .i64 (n' : Int)) := hk1.trans hb1
        have hb2' : Boxed W3 bi 3 (.int .i64 (i' : Int)) := hk2.trans hb2
        clear hc1 hc2
        have hc1 := hb1'.cell
        have hc2 := hb2'.cell
        have hf1 := hb1'.frozen
        have hf2 := hb2'.frozen
        have hne2 : bi ≠ bn := hne.symm
        gi_wp2
        gi_region
        gi_wp2
        have b1 : Boxed ((W3.setCell ⟨bn, 0, none⟩ (.int .i64 (((n' : Int) + 1) / 2))).setCell ⟨bi, 0, none⟩ (.int .i64 ((i' : Int) / 2))).drew bn 3 (.int .i64 (((n' + 1) / 2 : Nat) : Int)) := by
          have h := boxed_far (hb1'.set (.int .i64 (((n' : Int) + 1) / 2))) hne (.int .i64 ((i' : Int) / 2))
          rw [show (((n' : Int) + 1) / 2) = (((n' + 1) / 2 : Nat) : Int) by omega] at h ⊢
          exact h
        have b2 : Boxed ((W3.setCell ⟨bn, 0, none⟩ (.int .i64 (((n' : Int) + 1) / 2))).setCell ⟨bi, 0, none⟩ (.int .i64 ((i' : Int) / 2))).drew bi 3 (.int .i64 ((i' / 2 : Nat) : Int)) := by
          have h := (boxed_far hb2' hne.symm (.int .i64 (((n' : Int) + 1) / 2))).set (.int .i64 ((i' : Int) / 2))
          rw [show ((i' : Int) / 2) = ((i' / 2 : Nat) : Int) by omega] at h ⊢
          exact h
        refine ⟨⟨_, W3, k, (n' + 1) / 2, i' / 2, by omega, by omega, by rw [Nat.pow_succ] at hk; omega, HW2, hJ3, ?_, b1, b2⟩, ?_⟩
        · exact ((Turn.setCell W3 (p := ⟨bn, 0, none⟩) _ (.inl rfl)).trans (Turn.setCell _ (p := ⟨bi, 0, none⟩) _ (.inr rfl))).trans (Turn.drew _)
        · rw [b1.cell, hb1.cell]
          simp [intOf]
          omega
      · gi_wp2
        refine bodyPost_ret (results_none rfl _ _ _) rfl ?_
        exact ⟨⟨_, rfl⟩, .inr ⟨_, W3, ⟨_, HW2.out.symm⟩, hJx3, Turn.refl _ _⟩⟩
    · have hle : ¬ (1 : Int) < n' := by omega
      have HW2 : Dig.walkF 16 n i = pre := by
        have e : Dig.walkF k n' i' = [] := by
          cases k with
          | zero => rfl
          | succ k => rw [Dig.walkF, if_neg hgt]
        have h := HW.out
        rw [e] at h
        exact h.trans (by simp)
      have HW3 := Lib.hid HW2
      clear HW2 HW
      gi_wp2
      go_end0
      exact ⟨⟨_, rfl⟩, .inl ⟨pre, A, HW3.out.symm, hJ, hT⟩⟩

end Go.Proofs.Ytnjhegcdjhklfaa.Hand
