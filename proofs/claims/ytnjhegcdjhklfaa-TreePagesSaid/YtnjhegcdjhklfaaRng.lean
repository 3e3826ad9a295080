/- A law for a range over a function whose iterator may write cells of its own between two rounds and may hand over values that lead to memory. -/
import Derived.RangeFuncNested
import Derived.RangeFuncBound
import Derived.RangeFuncCalls
import Derived.RangeFuncLeaves
namespace Go.Proofs.Ytnjhegcdjhklfaa.Rng
open Go Go.RowKit

/-- One block from N on that holds no cells has become another such. -/
def Put (N : Nat) (A B : World) : Prop := ∃ l o o', N ≤ l ∧ A.heap[l]? = some o ∧ o.isCells = false ∧ o'.isCells = false ∧ B = A.putObj l o'

theorem Put.heap {N : Nat} {A B : World} (h : Put N A B) {k : Nat} {o : Obj} (hk : A.heap[k]? = some o) (hc : o.isCells = true) : B.heap[k]? = some o := by
  obtain ⟨l, o1, o2, _, h1, h2, _, rfl⟩ := h
  have hne : k ≠ l := fun e => by subst e; rw [hk] at h1; cases h1; rw [hc] at h2; cases h2
  rw [World.putObj_heap_other hne]; exact hk

theorem Put.cell {N : Nat} {A B : World} (h : Put N A B) {p : Addr} {v : Value} (hc : A.cell? p = some v) : B.cell? p = some v := by
  obtain ⟨l, o1, o2, _, h1, h2, _, rfl⟩ := h
  exact cell_kept hc (grownBy_putObj' A l o2) (fun r e => by cases e; exact ⟨_, h1, h2⟩)

theorem Put.below {N : Nat} {A B : World} (h : Put N A B) : Below N A B := by
  obtain ⟨l, o1, o2, hl, h1, h2, _, rfl⟩ := h
  exact (Below.refl N A).grown (grownBy_putObj' A l o2) (by have := (Array.getElem?_eq_some_iff.1 h1).1; omega) (fun k e => by cases e; omega)

theorem Put.size {N : Nat} {A B : World} (h : Put N A B) : B.heap.size = A.heap.size := by
  obtain ⟨l, o1, o2, hl, h1, h2, _, rfl⟩ := h
  exact World.putObj_size

theorem Put.mono {N M : Nat} {A B : World} (h : Put N A B) (hm : M ≤ N) : Put M A B := by
  obtain ⟨l, o1, o2, hl, h⟩ := h
  exact ⟨l, o1, o2, Nat.le_trans hm hl, h⟩

abbrev FW : Fence := Fence.wide

/-- How an iterator returns: all have come, or it was told to stop. -/
def SeqEnd {α : Type} (S Sp : List α → Prop) (J Jx : List α → World → Prop) (Mv : World → World → Prop) (e : Ending) (W' : World) : Prop :=
  (∃ v, e = .returned v) ∧ ((∃ xs A, S xs ∧ J xs A ∧ Mv A W') ∨ (∃ pre A, Sp pre ∧ Jx pre A ∧ Mv A W'))

/-- The contract of an iterator: J between two rounds; Mv: what the iterator itself does between two rounds; Nx: what is so of an element where it is handed over; Kp: what a round that goes on keeps. -/
def SeqOf {α : Type} (n : Nat) (P : Program) (g : Nat) (lb : Array Value) (encs : α → Array Value) (Mv : World → World → Prop) (Nx : List α → α → World → World → Prop)
    (Kp : α → World → World → Prop) (S Sp : List α → Prop) (W : World) : Prop :=
  ∀ (l : Nat) (J Jx : List α → World → Prop),
    (∀ pre x A B, J pre A → Mv A B → Nx pre x A B → YieldAt FW (n - 1) P l (encs x) B fun e W' =>
      (e = .returned (.bool true) ∧ J (pre ++ [x]) W' ∧ Kp x B W') ∨ (e = .returned (.bool false) ∧ Jx (pre ++ [x]) W')) →
    J [] W →
    CallsIn FW n P g (#[.func (.yield l) #[] #[]] ++ lb) W (SeqEnd S Sp J Jx Mv)

theorem wpIn_range {α : Type} {n : Nat} {P : Program} {g : Operand} {ps : Array Tmp} {assign body : Code} {Q : Exit → Act → World → Prop} {a : Act} {w : World}
    {gf : Nat} {lb : Array Value} (hg : a.eval g = .func (.func gf) #[] lb) (eg : ∀ args w, (callFunc gf args).run P w = .ok (.enter gf args) w)
    {encs : α → Array Value} {Mv : World → World → Prop} {Nx : List α → α → World → World → Prop} {Kp : α → World → World → Prop} {S Sp : List α → Prop}
    (hseq : ∀ W, Below w.heap.size w W → W.heap.size = w.heap.size + 2 → SeqOf (n - 1) P gf lb encs Mv Nx Kp S Sp W)
    (hMv : ∀ A B, Mv A B → ∀ k o, w.heap.size ≤ k → k < w.heap.size + 2 → A.heap[k]? = some o → o.isCells = false → B.heap[k]? = some o)
    (hKl : ∀ x A B C, Put w.heap.size A B → Kp x B C → Kp x A C) (hKr : ∀ x A B C, Kp x A B → Put w.heap.size B C → Kp x A C)
    (hps : ∀ x, (encs x).size = ps.size)
    (I : List α → World → Prop) (Ix : Code → List α → World → Prop)
    (hI : ∀ pre A B, I pre A → Put w.heap.size A B → I pre B) (hIx : ∀ c pre A B, Ix c pre A → Put w.heap.size A B → Ix c pre B)
    (h0 : ∀ o o', I [] ((w.alloc o).alloc o')) (a₁ : α → Act)
    (hassign : ∀ (l : Nat) (x : α) (W : World) (K : Act → World → Prop), K (a₁ x) W →
      assign.wpIn (FW.inRound l) (n - 1 - 1) P (Exit.then K (fun _ _ _ => False)) { tmps := (ps.zip (encs x)).foldl (fun t (p, v) => t.setIfInBounds p v) a.tmps, defers := [] } W)
    (hbody : ∀ (l : Nat) (pre : List α) (x : α) (A B W : World), I pre A → Mv A B → Nx pre x A B → Put w.heap.size B W → body.wpIn (FW.inRound l) (n - 1 - 1) P (ownPostG w.heap.size (Kp x) I Ix (pre ++ [x]) W) (a₁ x) W)
    (hdone : ∀ (D : Nat) (xs : List α) (A B W : World), w.heap.size ≤ D → S xs → I xs A → Mv A B → Put w.heap.size B W → W.heap[D]? = some (.deferred (some [])) → Q .normal { a with defers := { target := .collected D, args := #[] } :: a.defers } W)
    (hstop : ∀ (D : Nat) (c : Code) (pre : List α) (A B W : World), w.heap.size ≤ D → Sp pre → Ix c pre A → Mv A B → Put w.heap.size B W → W.heap[D]? = some (.deferred (some [])) → c.wpIn FW n P Q { a with defers := { target := .collected D, args := #[] } :: a.defers } W) :
    (Code.rangeFunc g ps assign body).wpIn FW n P Q a w := by
  refine wpIn_rangeFunc ?_
  intro fn hfn
  rw [show FW.round = none from rfl]
  obtain ⟨rec, hrec⟩ : ∃ rec : LoopState → Option Code → Loop, rec = fun st pe => { state := st, pending := pe, fn, tmps := a.tmps, params := ps, assign, body, defers := w.heap.size } := ⟨_, rfl⟩
  obtain ⟨W1, hW1⟩ : ∃ W1, (w.alloc (.deferred (some []))).alloc (.loop (rec .ready none)) = W1 := ⟨_, rfl⟩
  have hL1 : W1.heap[w.heap.size + 1]? = some (.loop (rec .ready none)) := by
    rw [← hW1]; have := World.alloc_heap_new (w.alloc (.deferred (some []))) (.loop (rec .ready none)); rwa [World.size_alloc] at this
  have hK1 : W1.heap[w.heap.size]? = some (.deferred (some [])) := by
    rw [← hW1]; exact (Below.heap_alloc _ _ _ (by simp)).trans (World.alloc_heap_new w _)
  have hI1 : I [] W1 := by rw [← hW1]; exact h0 _ _
  have hb1 : Below w.heap.size w W1 := by
    rw [← hW1]; exact ((Below.refl _ w).alloc (Nat.le_refl _) _).alloc (by simp) _
  have hs1 : W1.heap.size = w.heap.size + 2 := by rw [← hW1]; simp
  refine ⟨w.heap.size + 1, [{ target := .collected w.heap.size, args := #[] }], W1, { target := .fn (.func gf) lb, args := #[.func (.yield (w.heap.size + 1)) #[] #[]] }, W1, gf,
    #[.func (.yield (w.heap.size + 1)) #[] #[]] ++ lb, W1, ?_, ?_, ?_, ?_, fun h => by simp [Fence.wide] at h, ?_⟩
  · rw [← hW1, hrec]; exact run_enterLoop_outer _ _ _ _ _
  · simp only [resolve, hg]
    simp [go_sem]
  · intro f' _; trivial
  · simp [invoke, go_sem, eg]
  · refine (hseq W1 hb1 hs1 (w.heap.size + 1)
      (fun pre W => I pre W ∧ W.heap[w.heap.size + 1]? = some (.loop (rec .ready none)) ∧ W.heap[w.heap.size]? = some (.deferred (some [])))
      (fun pre W => ∃ c, Ix c pre W ∧ W.heap[w.heap.size + 1]? = some (.loop (rec .done (some c))) ∧ W.heap[w.heap.size]? = some (.deferred (some [])))
      ?_ ⟨hI1, hL1, hK1⟩).mono ?_
    · -- ONE ROUND
      rintro pre x A B ⟨hi, hl, hk⟩ hmv hnx
      replace hl := hMv A B hmv _ _ (by omega) (by omega) hl rfl
      replace hk := hMv A B hmv _ _ (Nat.le_refl _) (by omega) hk rfl
      have hlt : w.heap.size + 1 < B.heap.size := (Array.getElem?_eq_some_iff.1 hl).1
      have hy := run_yield (P := P) (args := encs x) hl (by rw [hrec]; exact hps x)
      rw [hrec] at hy
      refine ⟨fn, _, assign, body, hy, roundIn_of_wpIn hfn (hassign _ x B _ ⟨_, run_beginRound hl (by rw [hrec]), ?_⟩)⟩
      have hl2 : (B.putObj (w.heap.size + 1) (.loop { rec .ready none with state := .busy })).heap[w.heap.size + 1]? = some (.loop { rec .ready none with state := .busy }) := World.putObj_heap_same hlt
      have hk2 : (B.putObj (w.heap.size + 1) (.loop { rec .ready none with state := .busy })).heap[w.heap.size]? = some (.deferred (some [])) := (World.putObj_heap_other (by omega)).trans hk
      have hp2 : Put w.heap.size B (B.putObj (w.heap.size + 1) (.loop { rec .ready none with state := .busy })) := ⟨_, _, _, by omega, hl, rfl, rfl, rfl⟩
      refine wpIn_mono (hbody _ pre x A B _ hi hmv hnx hp2) ?_
      have fin : ∀ (jump : Option Code) (W3 : World), KeepsFrom w.heap.size (B.putObj (w.heap.size + 1) (.loop { rec .ready none with state := .busy })) W3 →
          (Instr.endRound (w.heap.size + 1) jump).run P W3 = .ok (.bool jump.isNone) (W3.putObj (w.heap.size + 1) (.loop (rec (if jump.isNone then .ready else .done) jump))) ∧
          W3.heap[w.heap.size + 1]? = some (.loop { rec .ready none with state := .busy }) ∧
          (W3.putObj (w.heap.size + 1) (.loop (rec (if jump.isNone then .ready else .done) jump))).heap[w.heap.size + 1]? = some (.loop (rec (if jump.isNone then .ready else .done) jump)) ∧
          (W3.putObj (w.heap.size + 1) (.loop (rec (if jump.isNone then .ready else .done) jump))).heap[w.heap.size]? = some (.deferred (some [])) ∧
          Put w.heap.size W3 (W3.putObj (w.heap.size + 1) (.loop (rec (if jump.isNone then .ready else .done) jump))) := fun jump W3 hk3 => by
        have hl3 := hk3.same _ _ (by omega) hl2 rfl
        have := run_endRound (P := P) jump hl3
        rw [hrec] at this ⊢
        exact ⟨this, by rw [hrec] at hl3; exact hl3, World.putObj_heap_same (Array.getElem?_eq_some_iff.1 hl3).1, (World.putObj_heap_other (by omega)).trans (hk3.same _ _ (Nat.le_refl _) hk2 rfl), ⟨_, _, _, by omega, hl3, rfl, rfl, rfl⟩⟩
      rintro e a3 W3 hp
      cases e with
      | normal =>
        obtain ⟨hk3, hkp3, hi3⟩ := hp
        obtain ⟨hr, hl3, hl4, hk4, hp4⟩ := fin none W3 hk3
        exact ⟨_, _, hr, .inl ⟨rfl, ⟨hI _ _ _ hi3 hp4, hl4, hk4⟩, hKr _ _ _ _ (hKl _ _ _ _ hp2 hkp3) hp4⟩⟩
      | ret =>
        obtain ⟨hk3, hi3⟩ := hp
        obtain ⟨hr, hl3, hl4, hk4, hp4⟩ := fin (some .ret) W3 hk3
        exact ⟨_, _, hr, .inr ⟨rfl, .ret, hIx _ _ _ _ hi3 hp4, hl4, hk4⟩⟩
      | exit id =>
        obtain ⟨hk3, hi3⟩ := hp
        obtain ⟨hr, hl3, hl4, hk4, hp4⟩ := fin (some (.exit id)) W3 hk3
        exact ⟨_, _, hr, .inr ⟨rfl, .exit id, hIx _ _ _ _ hi3 hp4, hl4, hk4⟩⟩
      | goto t =>
        obtain ⟨hk3, hi3⟩ := hp
        obtain ⟨hr, hl3, hl4, hk4, hp4⟩ := fin (some (.goto t)) W3 hk3
        exact ⟨_, _, hr, .inr ⟨rfl, .goto t, hIx _ _ _ _ hi3 hp4, hl4, hk4⟩⟩
      | panic ch => exact hp.elim
      | outgrown => exact hp.elim
    · -- BEHIND THE ITERATOR
      rintro e W2 ⟨⟨v, rfl⟩, (⟨xs, A, hS, ⟨hi, hl, hk⟩, hmv⟩ | ⟨pre, A, hSp, ⟨c, hi, hl, hk⟩, hmv⟩)⟩
      · have hl2 := hMv A W2 hmv _ _ (by omega) (by omega) hl rfl
        have hk2 := hMv A W2 hmv _ _ (Nat.le_refl _) (by omega) hk rfl
        exact ⟨none, _, by have := run_endLoop (P := P) hl2 (by rw [hrec]; simp); rw [hrec] at this; exact this,
          hdone _ xs A W2 _ (Nat.le_refl _) hS hi hmv ⟨_, _, _, by omega, hl2, rfl, rfl, rfl⟩ ((World.putObj_heap_other (by omega)).trans hk2)⟩
      · have hl2 := hMv A W2 hmv _ _ (by omega) (by omega) hl rfl
        have hk2 := hMv A W2 hmv _ _ (Nat.le_refl _) (by omega) hk rfl
        exact ⟨some c, _, by have := run_endLoop (P := P) hl2 (by rw [hrec]; simp); rw [hrec] at this; exact this,
          hstop _ c pre A W2 _ (Nat.le_refl _) hSp hi hmv ⟨_, _, _, by omega, hl2, rfl, rfl, rfl⟩ ((World.putObj_heap_other (by omega)).trans hk2)⟩

end Go.Proofs.Ytnjhegcdjhklfaa.Rng
