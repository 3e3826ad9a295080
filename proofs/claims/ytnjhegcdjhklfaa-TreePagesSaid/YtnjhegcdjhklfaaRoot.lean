/- tree.Root: what it returns, whatever the world. -/
import Derived.Test.YtnjhegcdjhklfaaLevels
namespace Go.Proofs.Ytnjhegcdjhklfaa.Hand
open Go Go.RowKit Go.Shelf Go.Proofs.YtnjhegcdjhklfaaW.PrintWords
open Rng
attribute [local go_sem] Oper.semAt_some

set_option maxRecDepth 100000 in
set_option maxHeartbeats 1000000 in
theorem levels_in (m : Nat) (A : Option Addr) (len cap : Nat) (w : World) :
    CallsIn FW m Try.prog 41 #[.slice A len cap] w fun e w' => e = .returned (.func (.func 52) #[] #[.pointer (some ⟨w.heap.size, 0, none⟩)]) ∧ w' = w.alloc (.cells #[.slice A len cap] 32) := by
  refine callsIn_of_wp Try.func41 rfl trivial ?_ rfl
  simp only [Try.ntmps41, List.size_toArray, List.length_cons, List.length_nil, Nat.reduceAdd, Nat.reduceSub, Array.replicate_succ, Array.replicate_zero, List.push_toArray, List.append_toArray, List.nil_append, List.cons_append]
  gi_wp2
  go_ret
  exact ⟨rfl, rfl⟩

theorem KpL.left {N : Nat} {x : Value × List Int} {A B C : World} (hp : Put2 N A B) (h : KpL (N + 2) x B C) : KpL (N + 2) x A C :=
  ⟨Nat.le_trans hp.put.below.size h.1, fun k o hk ho hc => h.2.1 k o hk ((hp.block (by omega)).trans ho) hc, fun k o hk ho hc => h.2.2 k o hk (hp.put.heap ho hc) hc⟩
theorem KpL.right {N : Nat} {x : Value × List Int} {A B C : World} (h : KpL (N + 2) x A B) (hp : Put2 N B C) : KpL (N + 2) x A C :=
  ⟨Nat.le_trans h.1 hp.put.below.size, fun k o hk ho hc => (hp.block (by omega)).trans (h.2.1 k o hk ho hc), fun k o hk ho hc => hp.put.heap (h.2.2 k o hk ho hc) hc⟩

/-- The last level's first digest. -/
def lastF (ls : List (List Int)) : Int := (ls.getLast?.getD []).getD 0 0
theorem lastF_snoc (ls : List (List Int)) (l : List Int) : lastF (ls ++ [l]) = l.getD 0 0 := by simp [lastF]

set_option maxRecDepth 100000 in
set_option maxHeartbeats 4000000 in
theorem Root_main (m : Nat) (hm : 5 ≤ m) (A0 : Option Addr) (c0 : Nat) (pages : List (List Int)) (hp0 : 0 < pages.length) (h16 : pages.length ≤ 16) (hpg : Dig.pagesB pages = true) (w : World) (hr : Kd.C (Kd.slice 5 (Kd.int .u8)) w A0 pages.length pages) :
    CallsIn FW m Try.prog 28 #[.slice A0 pages.length c0] w fun e w' => e = .returned (.tuple #[.int .u64 (lastF (Dig.allLevels pages)), .int .i64 0]) ∧ Below w.heap.size w w' := by
  have h1 : 1 ≤ m := by omega
  have HR := Lib.hid hr
  clear hr
  have hP := pages_calls A0 c0 pages w HR.out
  rw [hpg] at hP
  have HP := Lib.hid hP
  clear hP
  refine callsIn_of_wp_marks Try.func28 rfl trivial ?_ rfl
  simp only [Try.ntmps28, List.size_toArray, List.length_cons, List.length_nil, Nat.reduceAdd, Nat.reduceSub, Array.replicate_succ, Array.replicate_zero, List.push_toArray, List.append_toArray, List.nil_append, List.cons_append]
  gi_wp2_with fail
  refine ⟨trivial, (callsIn_wide.2 HP.out).mono ?_⟩
  rintro e w' ⟨rfl, rfl⟩
  gi_wp2_with fail
  refine ⟨trivial, (levels_in (m - 1) _ _ _ _).mono ?_⟩
  rintro e w' ⟨rfl, rfl⟩
  gi_wp2_with fail
  have b0 : Boxed ((w.alloc (.cells #[.int .u64 0] 23)).alloc (.cells #[.slice A0 pages.length c0] 32)) w.heap.size 23 (.int .u64 0) := (Boxed.new w 23 _).alloc _
  have b1 : Boxed ((w.alloc (.cells #[.int .u64 0] 23)).alloc (.cells #[.slice A0 pages.length c0] 32)) (w.heap.size + 1) 32 (.slice A0 pages.length c0) := by
    have := Boxed.new (w.alloc (.cells #[.int .u64 0] 23)) 32 (.slice A0 pages.length c0)
    rwa [World.size_alloc] at this
  have hB : Below w.heap.size w ((w.alloc (.cells #[.int .u64 0] 23)).alloc (.cells #[.slice A0 pages.length c0] 32)) := ((Below.refl _ w).alloc (Nat.le_refl _) _).alloc (by simp) _
  have hsz : ((w.alloc (.cells #[.int .u64 0] 23)).alloc (.cells #[.slice A0 pages.length c0] 32)).heap.size = w.heap.size + 2 := by simp
  revert b0 b1 hB hsz
  generalize ((w.alloc (.cells #[.int .u64 0] 23)).alloc (.cells #[.slice A0 pages.length c0] 32)) = w7
  intro b0 b1 hB hsz
  refine' wpIn_range2 (α := Value × List Int) (gf := 52) (lb := #[.pointer (some ⟨w.heap.size + 1, 0, none⟩)]) rfl (enters_of Try.func52 (by kernel_rfl) rfl)
    (encs := fun x => #[x.1]) (Mv := MvL (w7.heap.size + 2)) (Nx := NxL pages) (Kp := KpL (w7.heap.size + 2)) (S := fun xs => xs.map Prod.snd = Dig.allLevels pages)
    ?seq (fun A B h k o hk hk2 ho _ => (h.block k (Array.getElem?_eq_some_iff.1 ho).1 (fun hx => by have := hx.1; omega)).trans ho)
    (fun x A B C hp hk => KpL.left hp hk) (fun x A B C hk hp => KpL.right hk hp) (fun _ => rfl)
    (fun pre W => Boxed W w.heap.size 23 (.int .u64 (lastF (pre.map Prod.snd))) ∧ Below w.heap.size w W)
    ?hI (fun o o' => ?h0) _ ?assign ?body ?done
  case seq =>
    intro W hW hWs l J hY h0
    rw [← hWs] at hY ⊢
    exact levels1_in (m - 1) (by omega) l (w.heap.size + 1) A0 c0 pages hp0 h16 J W ((hW.block _ (by omega)).trans b1) (Kd.C_below HR.out (hB.trans (hW.mono (by omega)))) hY h0
  case hI =>
    rintro pre A B ⟨h1, h2⟩ hp
    exact ⟨hp.put.heap h1 rfl, h2.trans (hp.put.below.mono (by omega))⟩
  case h0 =>
    exact ⟨(b0.alloc _).alloc _, (hB.alloc (by omega) _).alloc (by simp; omega) _⟩
  case assign =>
    intro l x W K hK
    gi_wp2
    exact hK
  case body =>
    rintro l pre ⟨v, lev⟩ A1 B1 W ⟨i1, i2⟩ hT ⟨n1, ⟨n2, n3⟩, n4⟩ hP
    have a1 := i1.lt
    have b0' : Boxed W w.heap.size 23 (.int .u64 (lastF (pre.map Prod.snd))) := hP.put.heap (hT.boxed i1 (fun h => by have := h.1; omega)) rfl
    have hB' : Below w.heap.size w W := (i2.trans (hT.below (by omega) (fun k hk h => by have := h.1; omega))).trans (hP.put.below.mono (by omega))
    have hr : Row W A1.heap.size v lev := own_move n1 (fun k hk => by obtain ⟨cells, hc⟩ := own_typed n1 k hk; exact (hP.put.heap hc rfl).trans hc.symm)
    clear i1 i2 hT hP n1 n4
    dsimp only at hr n2 n3
    obtain ⟨g, cv, rfl, hg, hg'⟩ := hr.form n2
    have c1 := (own_at hr 0 (by omega) (by simpa using n2)).1
    simp only [Int.toNat_zero] at c1
    have cb := b0'.cell
    have fb := b0'.frozen
    have n2' : (0 : Int) < lev.length := by omega
    gi_wp2
    refine ⟨(KeepsOthers.setCell _ _ _).from _, ⟨by simp, fun k o _ ho hc => (KeepsOthers.setCell W ⟨w.heap.size, 0, none⟩ _).same k o ho hc, fun k o hk ho hc => ?_⟩, ?_, hB'.setCell (p := ⟨w.heap.size, 0, none⟩) (Nat.le_refl _) _⟩
    · have hkg : g = k := by simpa [Value.ownBlock] using hk
      exact (Below.heap_setCell _ _ _ _ (by show k ≠ w.heap.size; omega)).trans ho
    · rw [List.map_append, show [((Value.slice (some ⟨g, 0, none⟩) lev.length cv), lev)].map Prod.snd = [lev] from rfl, lastF_snoc]
      exact b0'.set _
  case done =>
    rintro D xs A1 B1 W hD hS ⟨i1, i2⟩ hT hP hK
    have a1 := i1.lt
    have b0' : Boxed W w.heap.size 23 (.int .u64 (lastF (xs.map Prod.snd))) := hP.put.heap (hT.boxed i1 (fun h => by have := h.1; omega)) rfl
    have hB' : Below w.heap.size w W := (i2.trans (hT.below (by omega) (fun k hk h => by have := h.1; omega))).trans (hP.put.below.mono (by omega))
    rw [hS] at b0'
    clear i1 i2 hT hP hS
    have cb := b0'.cell
    gi_wp2
    refine ⟨by simp, .inl ⟨_, _, rfl, run_takeDeferred hK, ?_⟩⟩
    refine ⟨.tuple #[.int .u64 (lastF (Dig.allLevels pages)), .int .i64 0], by simp [results, Try.f28, go_sem], rfl, hB'.trans (belowK_b (w := w7) (by omega) W D _ _ hD hK rfl rfl)⟩

theorem pages_facts {l : List (List Int)} (h : Dig.pagesB l = true) : 0 < l.length ∧ l.length ≤ 16 ∧ ∀ p ∈ l, p.length ≤ 256 := by
  unfold Dig.pagesB at h
  simp only [Bool.and_eq_true, decide_eq_true_eq, List.all_eq_true] at h
  exact ⟨h.1.1, h.1.2, h.2⟩

set_option maxRecDepth 100000 in
set_option maxHeartbeats 4000000 in
/-- **tree.Root**, in the form that its callers use. -/
theorem Root_calls (A0 : Option Addr) (c0 : Nat) (l0 : List (List Int)) (r1 r2 : Int) (w : World) (hr0 : Kd.C (Kd.slice 5 (Kd.int .u8)) w A0 l0.length l0) (_hc0 : l0.length ≤ c0) (h : some (Dig.rootF l0) = some (r1, r2)) :
    Calls Try.prog 28 #[.slice A0 l0.length c0] w fun e w' => e = .returned (.tuple #[.int .u64 r1, .int .i64 r2]) ∧ Below w.heap.size w w' := by
  have h := Option.some.inj h
  by_cases hp : Dig.pagesB l0 = true
  · obtain ⟨h0, h16, _⟩ := pages_facts hp
    have e : Dig.rootF l0 = (lastF (Dig.allLevels l0), 0) := by unfold Dig.rootF; rw [if_pos hp]; rfl
    rw [e] at h
    obtain ⟨rfl, rfl⟩ := Prod.mk.inj h
    exact callsIn_wide.1 (Root_main 5 (Nat.le_refl _) A0 c0 l0 h0 h16 hp w hr0)
  · have e : Dig.rootF l0 = (0, 1) := by unfold Dig.rootF; rw [if_neg hp]
    rw [e] at h
    obtain ⟨rfl, rfl⟩ := Prod.mk.inj h
    have hP := pages_calls A0 c0 l0 w hr0
    rw [show Dig.pagesB l0 = false by simpa using hp] at hP
    have HP := Lib.hid hP
    clear hP e h hr0
    refine callsIn_wide.1 (callsIn_of_wp_marks (n := 4) Try.func28 rfl trivial ?_ rfl)
    simp only [Try.ntmps28, List.size_toArray, List.length_cons, List.length_nil, Nat.reduceAdd, Nat.reduceSub, Array.replicate_succ, Array.replicate_zero, List.push_toArray, List.append_toArray, List.nil_append, List.cons_append]
    gi_wp2_with fail
    refine ⟨trivial, (callsIn_wide.2 HP.out).mono ?_⟩
    rintro e w' ⟨rfl, rfl⟩
    gi_wp2_with fail
    refine ⟨.tuple #[.int .u64 0, .int .i64 1], by simp [results, Try.f28, go_sem], rfl, Below.refl _ _⟩

end Go.Proofs.Ytnjhegcdjhklfaa.Hand
