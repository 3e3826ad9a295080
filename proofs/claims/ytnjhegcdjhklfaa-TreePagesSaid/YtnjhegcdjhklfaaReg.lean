/- Laws for a statement whose order Go leaves open, within a round of a range over a function; and for one in which loads may come before or after what makes memory. -/
import Derived.OrdersHeld
import Derived.StillTail
import Derived.Test.YtnjhegcdjhklfaaRng
namespace Go.Proofs.Ytnjhegcdjhklfaa.Reg
open Go Go.RowKit
open Rng

variable {P : Program} {ops : Array Oper} {Q : Exit → Act → World → Prop} {md : Region.Mode} {S : World → Prop}

/-- No defer statement among the operations. -/
def noDefer (ops : Array Oper) : Prop := ∀ (i : Nat) (o : Oper), ops[i]? = some o → ∀ c, o.op ≠ Op.defer c

theorem uponIn_of_upon {o : Oper} {a : Act} {K K' : Act → World → Prop} {n r : Nat} {x : Result Next} (hK : ∀ a w, K a w → K' a w)
    (h : o.upon P a K Q x) : o.uponIn (FW.inRound r) n P a K' Q x := by
  cases x with
  | ok m w' =>
    cases m <;> simp only [Oper.upon, Oper.uponIn] at h ⊢ <;>
      first
        | exact hK _ _ h
        | exact h.elim
        | (refine ⟨fun hd => (by simp [Fence.wide] at hd), ?_⟩
           refine CallsIn.inRound r (callsIn_wide.2 (Calls.mono h (fun e w'' he => ?_)))
           cases e <;> first | exact hK _ _ he | exact he)
        | (refine ⟨fun hd => (by simp [Fence.wide] at hd), ?_⟩
           intro c cs _
           obtain ⟨v, w'', hv, hs⟩ := h c cs
           exact ⟨v, w'', hK _ _ hv, (show StepsIn (Machine.fenced P Fence.wide) P _ _ from stepsIn_wide.2 hs)⟩)
  | halt x w' => cases x <;> simp only [Oper.upon, Oper.uponIn] at h ⊢ <;> exact h

/-- What is shown of operations one after the other serves in a round. -/
theorem wpOpsIn_of_wpOps (hd : noDefer ops) (hQ : ∀ a w, ¬ Q .outgrown a w) {n r : Nat} : ∀ (l : List Nat) (a : Act) (w : World), wpOps P ops Q l a w → wpOpsIn (FW.inRound r) n P ops Q l a w := by
  intro l
  induction l with
  | nil => exact fun a w h => h
  | cons i rest ih =>
    intro a w h
    simp only [wpOps, wpOpsIn] at h ⊢
    cases ho : ops[i]? with
    | none => simp only [ho] at h ⊢; exact ih a w h
    | some o =>
      simp only [ho] at h ⊢
      by_cases hw : Region.wanted o (yielded ops a.tmps) = true
      · simp only [hw, if_true] at h ⊢
        rcases h with h | ⟨_, a₀, w₀, hl⟩
        · refine ⟨fun _ _ => trivial, ?_⟩
          unfold Oper.wp at h
          rw [Fence.inRound_round, Oper.semAt_eq _ _ _ (hd i o ho)]
          exact uponIn_of_upon (fun a w h => ih a w h) h
        · exact absurd hl (hQ _ _)
      · simp only [hw, Bool.false_eq_true, if_false] at h ⊢
        exact ⟨fun _ _ => trivial, ih _ _ h⟩

/-- A statement whose order is open, in a round: by the plain law. -/
theorem region_in {id n r : Nat} {a : Act} {w : World} (hd : noDefer ops) (hQ : ∀ a w, ¬ Q .outgrown a w) (hm : P.follows .mixedOrders = true)
    (h : wpAny P .any ops Q ops.size (Array.replicate ops.size false) a w.drew) : (Code.region id ops true).wpIn (FW.inRound r) n P Q a w :=
  wpIn_region_draw fun t => by
    simp only [Region.schedule, hm, Bool.true_or, if_true]
    exact wpOpsIn_of_wpOps hd hQ _ _ _ (wpAny_sound ops.size t _ a _ h)

/-- A statement that only reads, its order open, in a round: one walk in the text's order. -/
theorem region_still_in {id n r : Nat} {a : Act} {w : World} {l : List Oper} (hd : noDefer l.toArray) (hQ : ∀ a w, ¬ Q .outgrown a w) (hm : P.follows .mixedOrders = true) (hB : Region.lexB .any l.toArray = true)
    (h : wpStill P l.toArray w.drew (fun a' => Q .normal a' w.drew) l a) : (Code.region id l.toArray true).wpIn (FW.inRound r) n P Q a w := by
  simp only [Region.lexB, Bool.and_eq_true] at hB
  refine region_in hd hQ hm (wpAny_of_still (Q := fun a' => Q .normal a' w.drew) (fun _ h => h) _ _ _ ?_)
  have := wpAnyS_lex (md := .any) hB.1 l 0 (Array.replicate l.toArray.size false) a (by simp) (by simpa using hB.2) h
  simpa using this

/-- No defer statement: as a Bool. -/
def noDeferB (l : List Oper) : Bool := l.all fun o => match o.op with | .defer _ => false | _ => true
theorem noDefer_of {l : List Oper} (h : noDeferB l = true) : noDefer l.toArray := by
  intro i o ho c hc
  have hm : o ∈ l := by
    have : l[i]? = some o := by simpa using ho
    exact List.mem_of_getElem? this
  have := List.all_eq_true.1 h o hm
  rw [hc] at this
  cases this

/-- Whatever order is picked: behind every operation but number N S holds. -/
def wpAnyE (P : Program) (md : Region.Mode) (ops : Array Oper) (Q : Exit → Act → World → Prop) (S : World → Prop) (N : Nat) : Nat → Array Bool → Act → World → Prop
  | 0, listed, a, w => Region.ready md ops listed = [] ∧ Q .normal a w
  | f + 1, listed, a, w =>
    (Region.ready md ops listed = [] → Q .normal a w) ∧
    ∀ i ∈ Region.ready md ops listed, wpOp P ops Q i (fun a' w' => (i = N ∨ S w') ∧ wpAnyE P md ops Q S N f (listed.setIfInBounds i true) a' w') a w

variable {N : Nat}

theorem wpAny_of_E : ∀ (f : Nat) (listed : Array Bool) (a : Act) (w : World), wpAnyE P md ops Q S N f listed a w → wpAny P md ops Q f listed a w
  | 0, _, _, _, h => h
  | f + 1, _, _, _, h => ⟨h.1, fun i hi => wpOp_mono (fun a' w' h' => wpAny_of_E f _ a' w' h'.2) (h.2 i hi)⟩

/-- What may come up now, yields its value wherever S holds, and is waited for by number N, may be taken first. -/
theorem wpAnyE_first {i : Nat} {oi : Oper} {v : Value} (hi : ops[i]? = some oi) (hsel : ∀ (j : Nat) (o : Oper) cs b, ops[j]? = some o → o.op ≠ .select cs b)
    (hQ : ∀ c a w, ¬ Q (.panic c) a w) (hN : Region.waitsFor md ops N i = true) :
    ∀ (f : Nat) (listed : Array Bool) (a : Act) (w : World),
      (∀ j oj, ops[j]? = some oj → j ≠ i → listed.getD j true = false → (∀ e ∈ oj.after, Region.binds md e = true → e.on ≠ i) → oi.apart ops oj = true) →
      i ∈ Region.ready md ops listed → YieldsIf P ops S oi v a → S w →
      wpAnyE P md ops Q S N f (listed.setIfInBounds i true) (a.put oi.dst v) w → wpAnyE P md ops Q S N (f + 1) listed a w := by
  intro f
  induction f with
  | zero =>
    intro listed a w _ hr hy hS H
    refine ⟨fun h => (by rw [h] at hr; cases hr), fun j hj => ?_⟩
    by_cases hji : j = i
    · subst hji; exact hy.wpOp hi hS ⟨.inr hS, H⟩
    · have := ready_mono hj hji
      rw [H.1] at this
      cases this
  | succ f ih =>
    intro listed a w hfree hr hy hS H
    refine ⟨fun h => (by rw [h] at hr; cases hr), fun j hj => ?_⟩
    by_cases hji : j = i
    · subst hji; exact hy.wpOp hi hS ⟨.inr hS, H⟩
    · have h1 := H.2 j (ready_mono hj hji)
      obtain ⟨hjun, oj, hoj, hall⟩ := mem_ready.1 hj
      have hnot : ∀ e ∈ oj.after, Region.binds md e = true → e.on ≠ i := fun e he hb heq => by
        have h1 := hall e he hb
        have h0 := (mem_ready.1 hr).1
        rw [heq] at h1
        rcases Nat.lt_or_ge i listed.size with h' | h'
        · simp [h'] at h0 h1; rw [h0] at h1; cases h1
        · simp [Array.getElem?_eq_none h'] at h1
      have hjN : j ≠ N := fun e => by
        subst e
        obtain ⟨oN, hoN, e, he, hb, hon⟩ := Region.waitsFor_spec hN
        rw [hoj] at hoN
        cases hoN
        exact hnot e he hb hon
      have h2 := wpOp_putIf hoj (hfree j oj hoj hji hjun hnot) (fun cs b => hsel i oi cs b hi) (fun cs b => hsel j oj cs b hoj) (fun c a w h => absurd h (hQ c _ w)) hy h1
      have hfree' : ∀ k ok, ops[k]? = some ok → k ≠ i → (listed.setIfInBounds j true).getD k true = false →
          (∀ e ∈ ok.after, Region.binds md e = true → e.on ≠ i) → oi.apart ops ok = true := fun k ok hk hki hun hno => by
        refine hfree k ok hk hki ?_ hno
        by_cases hjk : j = k
        · subst hjk; exact hjun
        · rw [getD_set_ne true hjk] at hun; exact hun
      refine wpOp_mono (fun a' w' h3 => ?_) h2
      obtain ⟨hy3, hS3, H3⟩ := h3
      have hS4 : S w' := hS3.resolve_left hjN
      refine ⟨.inr hS4, ih (listed.setIfInBounds j true) a' w' hfree' (ready_mono hr (Ne.symm hji)) hy3 hS4 ?_⟩
      rw [Array.setIfInBounds_comm _ _ hji]
      exact H3

/-- The loads: each yields wherever S holds. -/
def headS (P : Program) (ops : Array Oper) (S : World → Prop) (K : Act → Prop) : List Nat → Act → Prop
  | [], a => K a
  | i :: is, a => ∃ o v, ops[i]? = some o ∧ YieldsIf P ops S o v a ∧ headS P ops S K is (a.put o.dst v)

/-- The rest, one after the other: behind each but the last S holds. -/
def tailS (P : Program) (ops : Array Oper) (Q : Exit → Act → World → Prop) (S : World → Prop) : List Nat → Act → World → Prop
  | [], a, w => Q .normal a w
  | i :: is, a, w => ∃ o, ops[i]? = some o ∧
      if Region.wanted o (yielded ops a.tmps) = true then o.wp P a w (fun a' w' => (is = [] ∨ S w') ∧ tailS P ops Q S is a' w') Q else (is = [] ∨ S w) ∧ tailS P ops Q S is (a.put o.dst undef) w

theorem headS_nil {K : Act → Prop} {a : Act} (h : K a) : headS P ops S K [] a := h
/-- One that reads alone. -/
theorem headS_step {K : Act → Prop} {i : Nat} {is : List Nat} {o : Oper} {a : Act} (v : Value) (ho : ops[i]? = some o) (hg : o.guard = none) (hy : ∀ w, S w → (execOp a.eval o).run P w = .ok (.value v) w)
    (h : ∀ K' : Act → Prop, (∀ a, headS P ops S K is a → K' a) → K' (a.put o.dst v)) : headS P ops S K (i :: is) a :=
  ⟨o, v, ho, .inl ⟨by simp [Region.wanted, hg], hy⟩, h _ (fun _ h => h)⟩

theorem tailS_nil {a : Act} {w : World} (h : Q .normal a w) : tailS P ops Q S [] a w := h
theorem tailS_step {i : Nat} {is : List Nat} {o : Oper} {a : Act} {w : World} (ho : ops[i]? = some o)
    (h : ∀ K : Act → World → Prop, (∀ a w, (is = [] ∨ S w) → tailS P ops Q S is a w → K a w) → if Region.wanted o (yielded ops a.tmps) = true then o.wp P a w K Q else K (a.put o.dst undef) w) : tailS P ops Q S (i :: is) a w :=
  ⟨o, ho, h _ (fun _ _ h1 h2 => ⟨h1, h2⟩)⟩

/-- From here on one operation at a time may come up: these, in this order. -/
def seqLB (md : Region.Mode) (ops : Array Oper) : List Nat → Array Bool → Bool
  | [], listed => (Region.ready md ops listed).isEmpty
  | k :: ks, listed => decide (Region.ready md ops listed = [k]) && (ks.isEmpty == decide (k = ops.size - 1)) && seqLB md ops ks (listed.setIfInBounds k true)

/-- The first ones may be taken first, in this order; the last operation waits for each; the rest is a sequence. -/
def headLB (md : Region.Mode) (ops : Array Oper) (tail : List Nat) : List Nat → Array Bool → Bool
  | [], listed => seqLB md ops tail listed
  | i :: is, listed => (Region.ready md ops listed).contains i && Region.free md ops listed i && Region.waitsFor md ops (ops.size - 1) i && headLB md ops tail is (listed.setIfInBounds i true)

theorem wpAnyE_of_seq : ∀ (ks : List Nat) (listed : Array Bool) (a : Act) (w : World), seqLB md ops ks listed = true → tailS P ops Q S ks a w → wpAnyE P md ops Q S (ops.size - 1) ks.length listed a w
  | [], _, _, _, hB, h => ⟨by simpa [seqLB] using hB, h⟩
  | k :: ks, listed, a, w, hB, h => by
    obtain ⟨o, h0, h⟩ := h
    simp only [seqLB, Bool.and_eq_true, decide_eq_true_eq] at hB
    obtain ⟨⟨hr, hl⟩, hB'⟩ := hB
    refine ⟨fun h1 => (by rw [hr] at h1; cases h1), fun i hi => ?_⟩
    rw [hr] at hi
    have hik : i = k := by simpa using hi
    subst hik
    have hw : wpOp P ops Q i (fun a' w' => (ks = [] ∨ S w') ∧ tailS P ops Q S ks a' w') a w := by
      unfold wpOp
      simp only [h0]
      split
      · rename_i hw; rw [if_pos hw] at h; exact .inl h
      · rename_i hw; rw [if_neg hw] at h; exact h
    refine wpOp_mono (fun a' w' h' => ⟨?_, ?_⟩) hw
    · rcases h'.1 with e | e
      · subst e
        have hl' : (true == decide (i = ops.size - 1)) = true := hl
        exact .inl (by simpa using hl')
      · exact .inr e
    · exact wpAnyE_of_seq ks _ a' w' hB' h'.2

theorem wpAnyE_lex {tail : List Nat} (hsel : Region.noSelect ops = true) (hQ : ∀ c a w, ¬ Q (.panic c) a w) {w : World} (hS : S w) :
    ∀ (is : List Nat) (listed : Array Bool) (a : Act), headLB md ops tail is listed = true → headS P ops S (fun a' => tailS P ops Q S tail a' w) is a → wpAnyE P md ops Q S (ops.size - 1) (is.length + tail.length) listed a w
  | [], listed, a, hB, h => by
    rw [List.length_nil, Nat.zero_add]
    exact wpAnyE_of_seq _ _ _ _ (by simpa [headLB] using hB) h
  | i :: is, listed, a, hB, h => by
    obtain ⟨o, v, h0, hy, hrest⟩ := h
    simp only [headLB, Bool.and_eq_true] at hB
    obtain ⟨⟨⟨hr, hf⟩, hw⟩, hB'⟩ := hB
    rw [show (i :: is).length + tail.length = (is.length + tail.length) + 1 by simp; omega]
    exact wpAnyE_first h0 (Region.noSelect_spec hsel) hQ hw _ listed a w (Region.free_spec h0 hf) (by simpa using hr) hy hS (wpAnyE_lex hsel hQ hS is _ _ hB' hrest)

/-- The Bools of a statement whose loads 'heads' may be taken first and whose other operations 'tail' then come one after the other. -/
def floatB (md : Region.Mode) (ops : Array Oper) (heads tail : List Nat) : Bool :=
  Region.noSelect ops && decide (heads.length + tail.length = ops.size) && headLB md ops tail heads (Array.replicate ops.size false)

/-- **A statement whose order is open**: first its loads, then the rest. -/
theorem wpAny_float {a : Act} {w : World} (heads tail : List Nat) (hQ : ∀ c a w, ¬ Q (.panic c) a w) (hB : floatB md ops heads tail = true) (S : World → Prop) (hS : S w)
    (H : headS P ops S (fun a' => tailS P ops Q S tail a' w) heads a) :
    wpAny P md ops Q ops.size (Array.replicate ops.size false) a w := by
  simp only [floatB, Bool.and_eq_true, decide_eq_true_eq] at hB
  obtain ⟨⟨hsel, hn⟩, hlex⟩ := hB
  have := wpAnyE_lex (md := md) hsel hQ hS heads (Array.replicate ops.size false) a hlex H
  rw [hn] at this
  exact wpAny_of_E _ _ _ _ this

/-- The same in a round. -/
theorem region_float_in {id n r : Nat} {a : Act} {w : World} {l : List Oper} (heads tail : List Nat) (hd : noDeferB l = true) (hQo : ∀ a w, ¬ Q .outgrown a w) (hQ : ∀ c a w, ¬ Q (.panic c) a w) (hm : P.follows .mixedOrders = true)
    (hB : floatB .any l.toArray heads tail = true) (S : World → Prop) (hS : S w.drew) (H : headS P l.toArray S (fun a' => tailS P l.toArray Q S tail a' w.drew) heads a) :
    (Code.region id l.toArray true).wpIn (FW.inRound r) n P Q a w :=
  region_in (noDefer_of hd) hQo hm (wpAny_float heads tail hQ hB S hS H)

end Go.Proofs.Ytnjhegcdjhklfaa.Reg
