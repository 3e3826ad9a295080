/- slotmeshlaw05.DigestMore: no two bytes that continue a string lead to the same digest, and at most one of them leaves it as it is: it returns true, whatever the world. -/
import Derived.Test.YtnjhegcdjhklfaaHead
import Derived.Test.YtnjhegcdjhklfaaNum
import Derived.Test.YtnjhegcdjhklfaaWMore
import Derived.Maps.Own
import Derived.Maps.Views
import Derived.Maps.Keyed
import Derived.LoopTactic
import Derived.OwnWalk
namespace Go.Proofs.Ytnjhegcdjhklfaa.Hand
open Go Go.RowKit Go.Shelf Go.Maps Go.WideMaps Go.Proofs.YtnjhegcdjhklfaaW.PrintWords
open Rng

/-- The digest of the string continued by j. -/
def Xj (l : List Int) (j : Nat) : Int := Dig.addF 14695981039346656037 (l ++ [(j : Int)])
theorem Xj_in (l : List Int) (j : Nat) : Dig.In (Xj l j) := Dig.in_addF Dig.in_basis _
theorem Xj_inj {l : List Int} {i j : Nat} (hi : i < 256) (hj : j < 256) (h : Xj l i = Xj l j) : i = j := by
  have := (Dig.addF_byte (s := 14695981039346656037) l [] (i : Int) (j : Int) ⟨by omega, by omega⟩ ⟨by omega, by omega⟩).1 h
  omega
theorem wf_of_in {x : Int} (h : Dig.In x) : (Lit.int .u64 x).wf = true := by
  obtain ⟨h0, h1⟩ := h
  simp only [Lit.wf, Bool.and_eq_true, IntKind.min, IntKind.max, IntKind.bits, IntKind.signed]
  simp
  omega
theorem Xj_wf (l : List Int) (j : Nat) : (Lit.int .u64 (Xj l j)).wf = true := by
  exact wf_of_in (Xj_in l j)

def keysF (l : List Int) (k : Nat) : List Lit := (List.range k).map fun j => Lit.int .u64 (Xj l j)
def Sn (l : List Int) (k : Nat) : DataW Unit := setOf (.lit (.bool true)) (keysF l k)
theorem Sn_succ (l : List Int) (k : Nat) : Sn l (k + 1) = (Sn l k).put (.int .u64 (Xj l k)) (.lit (.bool true)) := by
  unfold Sn keysF
  rw [List.range_succ, List.map_append]
  exact setOf_snoc _ _ _
theorem Sn_zero (l : List Int) : Sn l 0 = .map [] := rfl

theorem law23 : Keyed Try.prog 23 := int_keyed Try.underlying23
theorem key_ok (l : List Int) (j : Nat) : keyOf Try.prog 23 (.int .u64 (Xj l j)) = some (.int .u64 (Xj l j)) := keyOf_int_mk Try.underlying23 (Xj_wf l j)

theorem not_has (l : List Int) (k : Nat) (hk : k < 256) : has (Sn l k) (.int .u64 (Xj l k)) = false := by
  unfold Sn
  rw [has_setOf _ _ _ (fun x hx => by obtain ⟨j, _, rfl⟩ := List.mem_map.1 hx; trivial)]
  rw [List.any_eq_false]
  intro x hx
  obtain ⟨j, hj, rfl⟩ := List.mem_map.1 hx
  have hjk := List.mem_range.1 hj
  simp only [Lit.sameKey]
  intro he
  have hne : Xj l j ≠ Xj l k := fun e => by have := Xj_inj (by omega) hk e; omega
  simp at he
  exact hne he

/-- How many of the first k bytes leave the digest as it is. -/
def SameOk (l : List Int) (k s : Nat) : Prop := s = 0 ∨ (s = 1 ∧ ∃ j, j < k ∧ Xj l j = Dig.addF 14695981039346656037 l)

theorem info5' : (Try.prog.info? 5).map (fun i => (i.zero, i.size, i.bytes)) = some (some (.int .u8 0), 1, 1) := by kernel_rfl

theorem reads_of_C8 {w : World} {A : Option Addr} {xs : List Int} (h : Kd.C (Kd.int .u8) w A xs.length xs) : ReadsInt w .u8 A xs.length xs := Kd.reads_of_C (d := (0 : Int)) h

set_option maxRecDepth 100000 in
set_option maxHeartbeats 4000000 in
theorem More_main (A : Option Addr) (c0 : Nat) (l : List Int) (w : World) (hr : Kd.C (Kd.int .u8) w A l.length l) (hc : l.length ≤ c0) (hl : l.length ≤ 5000) :
    Calls Try.prog 11 #[.slice A l.length c0] w fun e w' => e = .returned (.bool true) ∧ Below w.heap.size w w' := by
  have HR := Lib.hid hr
  clear hr
  have hmm := @run_makeMap Try.prog
  have hl' : ¬ (5000 : Int) < l.length := by omega
  go_enter Try.func11, Try.ntmps11
  go_wp2_with fail
  refine (Head05_calls true w rfl).mono ?_
  rintro e w1 ⟨rfl, hb1⟩
  go_wp2
  go_loopw [5, 14] (fun s i wr => ∃ k sn : Nat, k ≤ 256 ∧ i = .int .i64 k ∧ s = .int .i64 sn ∧ Hid (SameOk l k sn) ∧ sn ≤ 1 ∧ wr.ownsMap Try.prog 23 (plainElem (H := Unit) Try.prog 4) w1.heap.size k (Sn l k) ∧ Below w.heap.size w wr)
    (fun _ i _ => 256 - (intOf i).toNat)
  case atStart => exact ⟨0, 0, by omega, rfl, rfl, .inl rfl, by omega, World.ownsMap_made _ _ _ _, hb1.alloc hb1.size _⟩
  case round =>
    obtain ⟨k, sn, hk, rfl, rfl, HS, hsn, hown, hB⟩ := hrel
    by_cases hlt : k < 256
    · have hlt' : (k : Int) < 256 := by omega
      have hX := key_ok l k
      have hle : w1.heap.size ≤ wr.heap.size := by have := hown.lt; omega
      go_wp2_with (first
        | (at_builtin; refine print_append_row (w0 := wr) wr.heap.size rfl _ _ 22 5 .u8 1 rfl Try.underlying22 info5' (by decide) _ [] l A l.length c0 rfl rfl (own_lit wr wr.heap.size 5 .u8 [] (Nat.le_refl _) (by simp)) (reads_of_C8 (Kd.C_below HR.out (hB.alloc hB.size _))) ((Below.refl _ wr).alloc (Nat.le_refl _) _) (by simp) (by simp; omega) ?_; intro v1 w2 o2 b2 g2 a2)
        | (at_builtin; refine print_append_row (w0 := wr) wr.heap.size rfl _ _ 22 5 .u8 1 rfl Try.underlying22 info5' (by decide) v1 ([] ++ l) [(k : Int)] (some ⟨w2.heap.size, 0, none⟩) 1 1 rfl rfl (own_move o2 (fun j hj => Below.heap_alloc _ _ _ (own_lt o2 j hj))) (reads_of_C8 (C_cells .u8 w2 [(k : Int)] 5 (0, 0) (by simp))) (b2.alloc b2.size _) (by have := b2.size; simp; omega) (by simp; omega) ?_; intro v2 w3 o3 b3 g3 a3; rw [List.nil_append] at o3)
        | fail)
      obtain ⟨A3, c3, hv3, hl3, hC3⟩ := Kd.R_reads (Kd.R_of_own (enc := Value.int .u8) (h1 := fun _ => rfl) (ok := fun _ => True) o3 (fun _ _ => trivial))
      have hne3 : ∀ j, v1.ownBlock = some j → wr.heap.size ≤ j := fun j hj => own_base o2 j hj
      subst hv3
      refine (Sum_calls A3 c3 (l ++ [(k : Int)]) w3 hC3 hl3).mono ?_
      rintro e w4 ⟨rfl, b4⟩
      have hB4 : Below wr.heap.size wr w4 := b3.trans (b4.mono b3.size)
      have hown4 : w4.ownsMap Try.prog 23 (plainElem (H := Unit) Try.prog 4) w1.heap.size k (Sn l k) := hown.kept (row := none) ⟨hB4.os, hB4.tape, hB4.output, hB4.size, fun j hj _ => hB4.block j hj⟩ (by simp)
      have hBB4 : Below w.heap.size w w4 := hB.trans (hB4.mono hB.size)
      obtain ⟨vb, ps, hrun, hvb⟩ := hown4.lookup law23 Try.underlying46 (z := .bool false) (by simp [go_sem]) (plainElem_bool Try.underlying4 false) hX
      rw [atKey_of_not_has (not_has l k hlt)] at hvb
      have hvb2 : vb = .bool false := by
        cases vb <;> simp [plainElem, Try.underlying4] at hvb
        rw [hvb.1]
      subst hvb2
      have hdef : Dig.addF 14695981039346656037 (l ++ [(k : Int)]) = Xj l k := rfl
      rw [hdef]
      clear o2 o3 b2 b3 g2 g3 a2 a3 b4 hC3 hl3 hne3 hvb hown
      go_wp2_with (first
        | (at_mapUpdate; refine wpList_mapUpdate_own _ rfl _ _ _ 46 rfl 23 4 law23 Try.underlying46 (plainElem (H := Unit) Try.prog 4) w1.heap.size k _ rfl hown4 (by unfold maxLen; omega) _ _ _ rfl rfl hX _ [] (plainElem_bool Try.underlying4 true) ?_; intro w5 hown5 hgrow5)
        | fail)
      have hB5 : Below w.heap.size w w5 := hBB4.grown hgrow5 hBB4.size (fun j hj => by cases hj; exact hb1.size)
      refine (Sum_calls A c0 l w5 (Kd.C_below HR.out hB5) hc).mono ?_
      rintro e w6 ⟨rfl, b6⟩
      have hB6 : Below w.heap.size w w6 := hB5.trans (b6.mono hB5.size)
      have hown6 := Lib.hid (hown5.kept (row := none) ⟨b6.os, b6.tape, b6.output, b6.size, fun j hj _ => b6.block j hj⟩ (by simp))
      rw [← Sn_succ] at hown6
      clear hown5 hgrow5 hown4 hrun hX
      have hid : intOf (.int .i64 ((k : Int) + 1)) = (k : Int) + 1 := rfl
      by_cases hs : Xj l k = Dig.addF 14695981039346656037 l
      · have hsn0 : sn = 0 := by
          rcases HS.out with h | ⟨_, j, hj, he⟩
          · exact h
          · have := Xj_inj (by omega) hlt (he.trans hs.symm)
            omega
        have hbeq : (Xj l k == Dig.addF 14695981039346656037 l) = true := beq_iff_eq.2 hs
        have HSs := Lib.hid hs
        clear hs
        subst hsn0
        go_wp2
        go_roundw
        case rel => exact ⟨k + 1, 1, by omega, by simp, by simp, .inr ⟨rfl, k, by omega, HSs.out⟩, by omega, hown6.out, hB6⟩
        case measure => simp [intOf]; omega
      · have hbeq : (Xj l k == Dig.addF 14695981039346656037 l) = false := beq_eq_false_iff_ne.2 hs
        go_wp2
        go_roundw
        case rel =>
          refine ⟨k + 1, sn, by omega, by simp, rfl, ?_, hsn, hown6.out, hB6⟩
          rcases HS.out with h | ⟨h, j, hj, he⟩
          · exact .inl h
          · exact .inr ⟨h, j, by omega, he⟩
        case measure => simp [intOf]; omega
    · have hlt' : ¬ (k : Int) < 256 := by omega
      go_wp2
      go_ret
      exact ⟨by simp; omega, hB⟩

set_option maxRecDepth 100000 in
set_option maxHeartbeats 1000000 in
/-- **DigestMore**, in the form that its row uses. -/
theorem More_calls (A0 : Option Addr) (c0 : Nat) (l0 : List Int) (r : Bool) (w : World) (hr0 : Kd.C (Kd.int .u8) w A0 l0.length l0) (hc0 : l0.length ≤ c0) (h : some true = some r) :
    Calls Try.prog 11 #[.slice A0 l0.length c0] w fun e w' => e = .returned (.bool r) ∧ Below w.heap.size w w' := by
  obtain rfl := Option.some.inj h
  clear h
  by_cases hl : l0.length ≤ 5000
  · exact More_main A0 c0 l0 w hr0 hc0 hl
  · have hl' : (5000 : Int) < l0.length := by omega
    clear hr0
    go_enter Try.func11, Try.ntmps11
    go_wp2_with fail
    refine (Head05_calls true w rfl).mono ?_
    rintro e w1 ⟨rfl, hb1⟩
    go_wp2
    go_ret
    exact ⟨rfl, hb1⟩

end Go.Proofs.Ytnjhegcdjhklfaa.Hand
