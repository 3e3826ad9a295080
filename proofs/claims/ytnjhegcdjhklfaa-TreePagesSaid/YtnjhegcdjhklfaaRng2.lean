/- The law for a range over a function whose body never leaves the loop early; the loop's own record is the one block that turns beside what the body does. -/
import Derived.Test.YtnjhegcdjhklfaaRng
namespace Go.Proofs.Ytnjhegcdjhklfaa.Rng
open Go Go.RowKit

/-- The loop's record has turned. -/
def Put2 (N : Nat) (A B : World) : Prop := ∃ o o', A.heap[N + 1]? = some o ∧ o.isCells = false ∧ o'.isCells = false ∧ B = A.putObj (N + 1) o'

theorem Put2.put {N : Nat} {A B : World} (h : Put2 N A B) : Put N A B := by
  obtain ⟨o, o', h1, h2, h3, h4⟩ := h
  exact ⟨N + 1, o, o', by omega, h1, h2, h3, h4⟩

theorem Put2.block {N : Nat} {A B : World} (h : Put2 N A B) {k : Nat} (hk : k ≠ N + 1) : B.heap[k]? = A.heap[k]? := by
  obtain ⟨o, o', h1, h2, h3, rfl⟩ := h
  exact World.putObj_heap_other hk

/-- The contract of an iterator that is never told to stop. -/
def SeqOf2 {α : Type} (n : Nat) (P : Program) (g : Nat) (lb : Array Value) (encs : α → Array Value) (Mv : World → World → Prop) (Nx : List α → α → World → World → Prop)
    (Kp : α → World → World → Prop) (S : List α → Prop) (W : World) : Prop :=
  ∀ (l : Nat) (J : List α → World → Prop),
    (∀ pre x A B, J pre A → Mv A B → Nx pre x A B → YieldAt FW (n - 1) P l (encs x) B fun e W' => e = .returned (.bool true) ∧ J (pre ++ [x]) W' ∧ Kp x B W') →
    J [] W →
    CallsIn FW n P g (#[.func (.yield l) #[] #[]] ++ lb) W fun e W' => (∃ v, e = .returned v) ∧ ∃ xs A, S xs ∧ J xs A ∧ Mv A W'

theorem wpIn_range2 {α : Type} {n : Nat} {P : Program} {g : Operand} {ps : Array Tmp} {assign body : Code} {Q : Exit → Act → World → Prop} {a : Act} {w : World}
    {gf : Nat} {lb : Array Value} (hg : a.eval g = .func (.func gf) #[] lb) (eg : ∀ args w, (callFunc gf args).run P w = .ok (.enter gf args) w)
    {encs : α → Array Value} {Mv : World → World → Prop} {Nx : List α → α → World → World → Prop} {Kp : α → World → World → Prop} {S : List α → Prop}
    (hseq : ∀ W, Below w.heap.size w W → W.heap.size = w.heap.size + 2 → SeqOf2 (n - 1) P gf lb encs Mv Nx Kp S W)
    (hMv : ∀ A B, Mv A B → ∀ k o, w.heap.size ≤ k → k < w.heap.size + 2 → A.heap[k]? = some o → o.isCells = false → B.heap[k]? = some o)
    (hKl : ∀ x A B C, Put2 w.heap.size A B → Kp x B C → Kp x A C) (hKr : ∀ x A B C, Kp x A B → Put2 w.heap.size B C → Kp x A C)
    (hps : ∀ x, (encs x).size = ps.size)
    (I : List α → World → Prop)
    (hI : ∀ pre A B, I pre A → Put2 w.heap.size A B → I pre B)
    (h0 : ∀ o o', I [] ((w.alloc o).alloc o')) (a₁ : α → Act)
    (hassign : ∀ (l : Nat) (x : α) (W : World) (K : Act → World → Prop), K (a₁ x) W →
      assign.wpIn (FW.inRound l) (n - 1 - 1) P (Exit.then K (fun _ _ _ => False)) { tmps := (ps.zip (encs x)).foldl (fun t (p, v) => t.setIfInBounds p v) a.tmps, defers := [] } W)
    (hbody : ∀ (l : Nat) (pre : List α) (x : α) (A B W : World), I pre A → Mv A B → Nx pre x A B → Put2 w.heap.size B W → body.wpIn (FW.inRound l) (n - 1 - 1) P (ownPostG w.heap.size (Kp x) I (fun _ _ _ => False) (pre ++ [x]) W) (a₁ x) W)
    (hdone : ∀ (D : Nat) (xs : List α) (A B W : World), w.heap.size ≤ D → S xs → I xs A → Mv A B → Put2 w.heap.size B W → W.heap[D]? = some (.deferred (some [])) → Q .normal { a with defers := { target := .collected D, args := #[] } :: a.defers } W) :
    (Code.rangeFunc g ps assign body).wpIn FW n P Q a w := by
  refine wpIn_rangeFunc ?_
  intro fn hfn
  rw [show FW.round = none from rfl]
  obtain ⟨rec, hrec⟩ : ∃ rec : LoopState → Option Code → Loop, rec = fun st pe => { state := st, pending := pe, fn, tmps := a.tmps, params := ps, assign, body, defers := w.heap.size } := ⟨_, rfl⟩
  obtain ⟨W1, hW1⟩ : ∃ W1, (w.alloc (.deferred (some []))).alloc (.loop (rec .ready none)) = W1 := ⟨_, rfl⟩
  have hL1 : W1.heap[w.heap.size + 1]? = some (.loop (rec .ready none)) := by
    rw [← hW1]; have := World.alloc_heap_new (w.alloc (.deferred (some []))) (.loop (rec .ready none)); rwa [World.size_alloc] at this
  have hK1 : W1.heap[w.heap.size]? = some (.deferred (some [])) := by
    rw [← hW1]; exact (Below.heap_alloc _ _ _ (by simp)).trans (World.alloc_heap_new w _)
  have hI1 : I [] W1 := by rw [← hW1]; exact h0 _ _
  have hb1 : Below w.heap.size w W1 := by
    rw [← hW1]; exact ((Below.refl _ w).alloc (Nat.le_refl _) _).alloc (by simp) _
  have hs1 : W1.heap.size = w.heap.size + 2 := by rw [← hW1]; simp
  refine ⟨w.heap.size + 1, [{ target := .collected w.heap.size, args := #[] }], W1, { target := .fn (.func gf) lb, args := #[.func (.yield (w.heap.size + 1)) #[] #[]] }, W1, gf,
    #[.func (.yield (w.heap.size + 1)) #[] #[]] ++ lb, W1, ?_, ?_, ?_, ?_, fun h => by simp [Fence.wide] at h, ?_⟩
  · rw [← hW1, hrec]; exact run_enterLoop_outer _ _ _ _ _
  · simp only [resolve, hg]
    simp [go_sem]
  · intro f' _; trivial
  · simp [invoke, go_sem, eg]
  · refine (hseq W1 hb1 hs1 (w.heap.size + 1)
      (fun pre W => I pre W ∧ W.heap[w.heap.size + 1]? = some (.loop (rec .ready none)) ∧ W.heap[w.heap.size]? = some (.deferred (some [])))
      ?_ ⟨hI1, hL1, hK1⟩).mono ?_
    · -- ONE ROUND
      rintro pre x A B ⟨hi, hl, hk⟩ hmv hnx
      replace hl := hMv A B hmv _ _ (by omega) (by omega) hl rfl
      replace hk := hMv A B hmv _ _ (Nat.le_refl _) (by omega) hk rfl
      have hlt : w.heap.size + 1 < B.heap.size := (Array.getElem?_eq_some_iff.1 hl).1
      have hy := run_yield (P := P) (args := encs x) hl (by rw [hrec]; exact hps x)
      rw [hrec] at hy
      refine ⟨fn, _, assign, body, hy, roundIn_of_wpIn hfn (hassign _ x B _ ⟨_, run_beginRound hl (by rw [hrec]), ?_⟩)⟩
      have hl2 : (B.putObj (w.heap.size + 1) (.loop { rec .ready none with state := .busy })).heap[w.heap.size + 1]? = some (.loop { rec .ready none with state := .busy }) := World.putObj_heap_same hlt
      have hk2 : (B.putObj (w.heap.size + 1) (.loop { rec .ready none with state := .busy })).heap[w.heap.size]? = some (.deferred (some [])) := (World.putObj_heap_other (by omega)).trans hk
      have hp2 : Put2 w.heap.size B (B.putObj (w.heap.size + 1) (.loop { rec .ready none with state := .busy })) := ⟨_, _, hl, rfl, rfl, rfl⟩
      refine wpIn_mono (hbody _ pre x A B _ hi hmv hnx hp2) ?_
      have fin : ∀ (jump : Option Code) (W3 : World), KeepsFrom w.heap.size (B.putObj (w.heap.size + 1) (.loop { rec .ready none with state := .busy })) W3 →
          (Instr.endRound (w.heap.size + 1) jump).run P W3 = .ok (.bool jump.isNone) (W3.putObj (w.heap.size + 1) (.loop (rec (if jump.isNone then .ready else .done) jump))) ∧
          W3.heap[w.heap.size + 1]? = some (.loop { rec .ready none with state := .busy }) ∧
          (W3.putObj (w.heap.size + 1) (.loop (rec (if jump.isNone then .ready else .done) jump))).heap[w.heap.size + 1]? = some (.loop (rec (if jump.isNone then .ready else .done) jump)) ∧
          (W3.putObj (w.heap.size + 1) (.loop (rec (if jump.isNone then .ready else .done) jump))).heap[w.heap.size]? = some (.deferred (some [])) ∧
          Put2 w.heap.size W3 (W3.putObj (w.heap.size + 1) (.loop (rec (if jump.isNone then .ready else .done) jump))) := fun jump W3 hk3 => by
        have hl3 := hk3.same _ _ (by omega) hl2 rfl
        have := run_endRound (P := P) jump hl3
        rw [hrec] at this ⊢
        exact ⟨this, by rw [hrec] at hl3; exact hl3, World.putObj_heap_same (Array.getElem?_eq_some_iff.1 hl3).1, (World.putObj_heap_other (by omega)).trans (hk3.same _ _ (Nat.le_refl _) hk2 rfl), ⟨_, _, hl3, rfl, rfl, rfl⟩⟩
      rintro e a3 W3 hp
      cases e with
      | normal =>
        obtain ⟨hk3, hkp3, hi3⟩ := hp
        obtain ⟨hr, hl3, hl4, hk4, hp4⟩ := fin none W3 hk3
        exact ⟨_, _, hr, rfl, ⟨hI _ _ _ hi3 hp4, hl4, hk4⟩, hKr _ _ _ _ (hKl _ _ _ _ hp2 hkp3) hp4⟩
      | ret => exact hp.2.elim
      | exit id => exact hp.2.elim
      | goto t => exact hp.2.elim
      | panic ch => exact hp.elim
      | outgrown => exact hp.elim
    · -- BEHIND THE ITERATOR
      rintro e W2 ⟨⟨v, rfl⟩, xs, A, hS, ⟨hi, hl, hk⟩, hmv⟩
      have hl2 := hMv A W2 hmv _ _ (by omega) (by omega) hl rfl
      have hk2 := hMv A W2 hmv _ _ (Nat.le_refl _) (by omega) hk rfl
      exact ⟨none, _, by have := run_endLoop (P := P) hl2 (by rw [hrec]; simp); rw [hrec] at this; exact this,
        hdone _ xs A W2 _ (Nat.le_refl _) hS hi hmv ⟨_, _, hl2, rfl, rfl, rfl⟩ ((World.putObj_heap_other (by omega)).trans hk2)⟩

end Go.Proofs.Ytnjhegcdjhklfaa.Rng
