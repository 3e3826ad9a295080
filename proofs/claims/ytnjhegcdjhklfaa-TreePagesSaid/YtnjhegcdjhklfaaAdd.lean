/- digest.Add and digest.Pair: what they return, whatever the world. -/
import Derived.RangeFuncBox
import Derived.Shelf.Abstract
import Derived.Shelf.RegionOpen
import Derived.WalkKit
import Derived.Lib.Hide
import Derived.OwnWalkIn
import Derived.TacticsInMore
import Derived.LoopNIn
import Derived.LoopIn
import Derived.Test.YtnjhegcdjhklfaaProg
import Derived.Test.YtnjhegcdjhklfaaWWords
import Derived.Test.YtnjhegcdjhklfaaRng
import Derived.Test.YtnjhegcdjhklfaaDig
namespace Go.Proofs.Ytnjhegcdjhklfaa.Hand
open Go Go.RowKit Go.Shelf Go.Proofs.YtnjhegcdjhklfaaW.PrintWords
open Rng
attribute [local go_sem] Oper.semAt_some

set_option maxRecDepth 100000 in
set_option maxHeartbeats 1000000 in
theorem step_in (n : Nat) (a b : Int) (w : World) :
    CallsIn FW n Try.prog 39 #[.int .u64 a, .int .u64 b] w fun e w' => e = .returned (.int .u64 (Dig.step0 a b)) ∧ w = w' := by
  refine callsIn_of_wp Try.func39 rfl trivial ?_ rfl
  simp only [Try.ntmps39, List.size_toArray, List.length_cons, List.length_nil, Nat.reduceAdd, Nat.reduceSub, Array.replicate_succ, Array.replicate_zero, List.push_toArray, List.append_toArray, List.nil_append, List.cons_append]
  gi_wp2
  go_ret
  exact ⟨rfl, rfl⟩

set_option maxRecDepth 100000 in
set_option maxHeartbeats 1000000 in
theorem words_in (n : Nat) (A : Option Addr) (len cap : Nat) (w : World) :
    CallsIn FW n Try.prog 38 #[.slice A len cap] w fun e w' => e = .returned (.func (.func 49) #[] #[.pointer (some ⟨w.heap.size, 0, none⟩)]) ∧ w' = w.alloc (.cells #[.slice A len cap] 32) := by
  refine callsIn_of_wp Try.func38 rfl trivial ?_ rfl
  simp only [Try.ntmps38, List.size_toArray, List.length_cons, List.length_nil, Nat.reduceAdd, Nat.reduceSub, Array.replicate_succ, Array.replicate_zero, List.push_toArray, List.append_toArray, List.nil_append, List.cons_append]
  gi_wp2
  go_ret
  exact ⟨rfl, rfl⟩

theorem add_block (ad : Addr) (k : Nat) : (ad.add k).block = ad.block := by unfold Addr.add; split <;> rfl

/-- How the bytes of a string of bytes come, one after the other. -/
theorem take_snoc {α : Type} (xs : List α) (k : Nat) (h : k < xs.length) : xs.take (k + 1) = xs.take k ++ [xs[k]] := by
  rw [List.take_succ_eq_append_getElem h]

set_option maxRecDepth 100000 in
set_option maxHeartbeats 2000000 in
/-- The iterator of words, at one string of bytes. -/
theorem words1_in (n : Nat) (hn : 1 ≤ n) (l B0 Bp b1 : Nat) (A : Option Addr) (cap : Nat) (xs : List Int) (hmax : xs.length ≤ 9223372036854775807) (J Jx : List Int → World → Prop)
    (hY : ∀ pre x W, J pre W → YieldAt FW (n - 1) Try.prog l #[.int .u64 (IntKind.u64.wrap x)] W fun e W' =>
      (e = .returned (.bool true) ∧ J (pre ++ [x]) W' ∧ Below B0 W W') ∨ (e = .returned (.bool false) ∧ Jx (pre ++ [x]) W'))
    (W : World) (hBp : W.cell? ⟨Bp, 0, none⟩ = some (.slice (some ⟨b1, 0, none⟩) 1 1)) (hb1 : W.cell? ⟨b1, 0, none⟩ = some (.slice A xs.length cap))
    (hc : ∀ j, j < xs.length → ∃ ad, A = some ad ∧ ad.block < B0 ∧ W.cell? (ad.add j) = some (.int .u8 (xs[j]?.getD 0))) (h0 : J [] W) :
    CallsIn FW n Try.prog 49 #[.func (.yield l) #[] #[], .pointer (some ⟨Bp, 0, none⟩)] W fun e W' => (∃ v, e = .returned v) ∧
      ((∃ ys, ys = xs ∧ J ys W') ∨ (∃ pre, Jx pre W')) := by
  refine callsIn_of_wp Try.func49 rfl trivial ?_ rfl
  simp only [Try.ntmps49, List.size_toArray, List.length_cons, List.length_nil, Nat.reduceAdd, Nat.reduceSub, Array.replicate_succ, Array.replicate_zero, List.push_toArray, List.append_toArray, List.nil_append, List.cons_append]
  gi_wp2
  gi_loopw [9] (fun i wr => (i = .int .i64 0 ∧ wr = W) ∨ (i = .int .i64 1 ∧ J xs wr)) (fun i _ => 1 - (intOf i).toNat)
  case atStart => exact .inl ⟨rfl, rfl⟩
  case round =>
    rcases hrel with ⟨rfl, rfl⟩ | ⟨rfl, hJ⟩
    · obtain ⟨wo, rfl⟩ : ∃ wo : World, wo = wr := ⟨_, rfl⟩
      gi_wp2
      gi_loopw [15] (fun i wr => ∃ k : Nat, k ≤ xs.length ∧ i = .int .i64 k ∧ J (xs.take k) wr ∧ Below B0 wo wr) (fun i _ => xs.length - (intOf i).toNat)
      case atStart => exact ⟨0, Nat.zero_le _, rfl, h0, Below.refl _ _⟩
      case round =>
        obtain ⟨k, hk, rfl, hJs, hnx⟩ := hrel
        by_cases hlt : k < xs.length
        · obtain ⟨ad, rfl, had, hcx⟩ := hc k hlt
          obtain ⟨x, hx⟩ : ∃ x, xs[k] = x := ⟨_, rfl⟩
          have hts : xs.take (k + 1) = xs.take k ++ [x] := by rw [take_snoc xs k hlt, hx]
          have hcx' : wr.cell? (ad.add k) = some (.int .u8 x) := by
            have := (hnx.cell (p := ad.add k) (by rw [add_block]; exact had)).trans hcx
            rw [this]; simp [hlt, hx]
          have Hts := Lib.hid hts
          clear hts hx
          obtain ⟨fn, tmps, assign, body, hy, hR⟩ := hY _ x wr hJs
          have hk2 : (k : Int) < xs.length := by omega
          gi_wp2
          refine hR.mono ?_
          rintro e W3 (⟨rfl, hJ3, hk3⟩ | ⟨rfl, hJx3⟩)
          · gi_wp2
            go_roundw
            case rel => exact ⟨k + 1, by omega, by simp, by rw [Hts.out]; exact hJ3, hnx.trans hk3⟩
            case measure => simp [intOf]; omega
          · gi_wp2
            refine bodyPost_ret (results_none rfl _ _ _) rfl ?_
            exact ⟨⟨_, rfl⟩, .inr ⟨_, hJx3⟩⟩
        · obtain rfl : k = xs.length := by omega
          have hJe : J xs wr := by simpa using hJs
          gi_wp2
          exact ⟨.inr ⟨rfl, hJe⟩, by simp [intOf]⟩
    · gi_wp2
      go_end0
      exact ⟨⟨_, rfl⟩, .inl ⟨_, rfl, hJ⟩⟩

/-- A single cell reads as a row of one. -/
theorem add0 (b o : Nat) : (⟨b, o, none⟩ : Addr).add 0 = ⟨b, o, none⟩ := by simp [Addr.add]

set_option maxRecDepth 100000 in
set_option maxHeartbeats 2000000 in
/-- digest.Add. -/
theorem Add_in (n : Nat) (hn : 3 ≤ n) (s : Int) (A : Option Addr) (cap : Nat) (xs : List Int) (w : World) (hr : Kd.C (Kd.int .u8) w A xs.length xs) :
    CallsIn FW n Try.prog 18 #[.int .u64 s, .slice A xs.length cap] w fun e w' => e = .returned (.int .u64 (Dig.addF s xs)) ∧ Below w.heap.size w w' := by
  have h1 : 1 ≤ n := by omega
  have hmax : xs.length ≤ 9223372036854775807 := Kd.C_max hr
  have hcells : ∀ j, j < xs.length → ∃ ad, A = some ad ∧ ad.block < w.heap.size ∧ w.cell? (ad.add j) = some (.int .u8 (xs[j]?.getD 0)) := fun j hj => by
    obtain ⟨ad, e, hc⟩ := Kd.at_int hr (j : Int) (by omega) (by omega)
    refine ⟨ad, e, ?_, ?_⟩
    · have := World.block_lt_of_cell? _ _ hc
      rwa [add_block] at this
    · simpa [rd, List.getD_eq_getElem?_getD] using hc
  have Hr := Lib.hid hr
  clear hr
  refine callsIn_of_wp_marks Try.func18 rfl trivial ?_ rfl
  simp only [Try.ntmps18, List.size_toArray, List.length_cons, List.length_nil, Nat.reduceAdd, Nat.reduceSub, Array.replicate_succ, Array.replicate_zero, List.push_toArray, List.append_toArray, List.nil_append, List.cons_append]
  gi_wp2_with (refine ⟨trivial, ?_⟩; gi_at_call 38; refine (words_in (n - 1) _ _ _ _).mono ?_; rintro e w' ⟨rfl, rfl⟩)
  have bN : Boxed ((w.alloc (.cells #[.int .u64 s] 56)).alloc (.cells #[.slice A xs.length cap] 22) |>.alloc (.cells #[.slice (some ⟨w.heap.size + 1, 0, none⟩) 1 1] 32)) w.heap.size 56 (.int .u64 s) := ((Boxed.new w 56 (.int .u64 s)).alloc _).alloc _
  have bB : Boxed ((w.alloc (.cells #[.int .u64 s] 56)).alloc (.cells #[.slice A xs.length cap] 22) |>.alloc (.cells #[.slice (some ⟨w.heap.size + 1, 0, none⟩) 1 1] 32)) (w.heap.size + 1) 22 (.slice A xs.length cap) := by
    have := (Boxed.new (w.alloc (.cells #[.int .u64 s] 56)) 22 (.slice A xs.length cap)).alloc (.cells #[.slice (some ⟨w.heap.size + 1, 0, none⟩) 1 1] 32)
    rwa [World.size_alloc] at this
  have bP : Boxed ((w.alloc (.cells #[.int .u64 s] 56)).alloc (.cells #[.slice A xs.length cap] 22) |>.alloc (.cells #[.slice (some ⟨w.heap.size + 1, 0, none⟩) 1 1] 32)) (w.heap.size + 1 + 1) 32 (.slice (some ⟨w.heap.size + 1, 0, none⟩) 1 1) := by
    have := Boxed.new ((w.alloc (.cells #[.int .u64 s] 56)).alloc (.cells #[.slice A xs.length cap] 22)) 32 (.slice (some ⟨w.heap.size + 1, 0, none⟩) 1 1)
    rwa [World.size_alloc, World.size_alloc] at this
  have hB0 : Below w.heap.size w ((w.alloc (.cells #[.int .u64 s] 56)).alloc (.cells #[.slice A xs.length cap] 22) |>.alloc (.cells #[.slice (some ⟨w.heap.size + 1, 0, none⟩) 1 1] 32)) := (((Below.refl _ w).alloc (Nat.le_refl _) _).alloc (by simp) _).alloc (by simp; omega) _
  have hsz : ((w.alloc (.cells #[.int .u64 s] 56)).alloc (.cells #[.slice A xs.length cap] 22) |>.alloc (.cells #[.slice (some ⟨w.heap.size + 1, 0, none⟩) 1 1] 32)).heap.size = w.heap.size + 3 := by simp
  revert bN bB bP hB0 hsz
  generalize ((w.alloc (.cells #[.int .u64 s] 56)).alloc (.cells #[.slice A xs.length cap] 22) |>.alloc (.cells #[.slice (some ⟨w.heap.size + 1, 0, none⟩) 1 1] 32)) = w3
  intro bN bB bP hB0 hsz
  refine wpIn_range (α := Int) (gf := 49) (lb := #[.pointer (some ⟨w.heap.size + 1 + 1, 0, none⟩)]) rfl (enters_of Try.func49 (by kernel_rfl) rfl)
    (encs := fun x => #[.int .u64 (IntKind.u64.wrap x)]) (Mv := fun A B => B = A) (Nx := fun _ _ _ _ => True) (Kp := fun _ A B => Below w.heap.size A B) (S := fun ys => ys = xs) (Sp := fun _ => True)
    ?seq (fun A B e k o _ _ h _ => by rw [e]; exact h) (fun x A B C hp hk => (hp.below.mono (by omega)).trans hk) (fun x A B C hk hp => hk.trans (hp.below.mono (by omega))) (fun _ => rfl)
    (fun pre W => Boxed W w.heap.size 56 (.int .u64 (Dig.addF s pre)) ∧ Below w.heap.size w W) (fun _ _ _ => False)
    (fun pre A B h hp => ⟨hp.heap h.1 rfl, h.2.trans (hp.below.mono (by omega))⟩) (fun _ _ _ _ h _ => h)
    (fun o o' => ⟨(bN.alloc o).alloc o', (hB0.alloc (by omega) o).alloc (by simp; omega) o'⟩)
    (fun x => { tmps := #[.int .u64 s, .slice A xs.length cap, undef, undef, .int .u64 0, .pointer (some ⟨w.heap.size, 0, none⟩), .int .u64 (IntKind.u64.wrap x), .int .u64 s, .slice A xs.length cap, .slice (some ⟨w.heap.size + 1, 0, none⟩) 1 1, .func (.func 49) #[] #[.pointer (some ⟨w.heap.size + 1 + 1, 0, none⟩)], .int .u64 (IntKind.u64.wrap x), undef, undef, undef, undef], defers := [] }) ?assign ?body ?done ?stop
  case seq =>
    intro W hW _ l J Jx hY h0
    refine (words1_in (n - 1) (by omega) l w.heap.size (w.heap.size + 1 + 1) (w.heap.size + 1) A cap xs hmax J Jx (fun pre x W1 hj => hY pre x W1 W1 hj rfl trivial) W ?_ ?_ ?_ h0).mono ?_
    · exact (hW.cell (p := ⟨_, 0, none⟩) (by simp; omega)).trans bP.cell
    · exact (hW.cell (p := ⟨_, 0, none⟩) (by simp; omega)).trans bB.cell
    · intro j hj
      obtain ⟨ad, e, hb, hc⟩ := hcells j hj
      refine ⟨ad, e, hb, ?_⟩
      exact (hW.cell (p := ad.add j) (by rw [add_block]; omega)).trans ((hB0.cell (p := ad.add j) (by rw [add_block]; omega)).trans hc)
    · rintro e W' ⟨hv, ⟨ys, hys, hj⟩ | ⟨pre, hj⟩⟩
      · exact ⟨hv, .inl ⟨ys, W', hys, hj, rfl⟩⟩
      · exact ⟨hv, .inr ⟨pre, W', trivial, hj, rfl⟩⟩
  case assign =>
    intro l x W K hK
    gi_wp2
    exact hK
  case body =>
    rintro l pre x A1 B1 W ⟨hb, hB⟩ rfl _ hp
    have hb2 := hp.heap hb rfl
    have hB2 := hB.trans (hp.below.mono (by omega))
    clear hb hB hp
    have hc : W.cell? ⟨w.heap.size, 0, none⟩ = some (.int .u64 (Dig.addF s pre)) := Boxed.cell hb2
    have hf : W.frozen? ⟨w.heap.size, 0, none⟩ = false := Boxed.frozen hb2
    have hd : 1 ≤ n - 1 - 1 := by omega
    gi_wp2_with (refine ⟨trivial, ?_⟩; gi_at_call 39; refine (CallsIn.inRound l (step_in _ _ _ _)).mono ?_; rintro e w' ⟨rfl, rfl⟩)
    refine ⟨(KeepsOthers.setCell _ _ _).from _, (Below.refl w.heap.size W).setCell (p := ⟨w.heap.size, 0, none⟩) (Nat.le_refl _) _, ?_, hB2.setCell (p := ⟨w.heap.size, 0, none⟩) (Nat.le_refl _) _⟩
    rw [Dig.addF_snoc]
    exact Boxed.set _ hb2
  case done =>
    rintro D ys A1 B1 W hD rfl ⟨hb, hB⟩ rfl hp hK
    have hb2 := hp.heap hb rfl
    have hB2 := hB.trans (hp.below.mono (by omega))
    clear hb hB hp
    have hc : W.cell? ⟨w.heap.size, 0, none⟩ = some (.int .u64 (Dig.addF s ys)) := Boxed.cell hb2
    gi_wp2
    refine ⟨by simp, .inl ⟨_, _, rfl, run_takeDeferred hK, ?_⟩⟩
    exact ⟨_, results_tmp rfl _ _ _, rfl, hB2.trans (belowK_b (w := w) (Nat.le_refl _) W D _ _ (by omega) hK rfl rfl)⟩
  case stop =>
    rintro D c pre A1 B1 W _ _ h _ _ _
    exact h.elim

set_option maxRecDepth 100000 in
set_option maxHeartbeats 2000000 in
/-- digest.Pair. -/
theorem Pair_in (n : Nat) (hn : 1 ≤ n) (a b : Int) (w : World) :
    CallsIn FW n Try.prog 22 #[.int .u64 a, .int .u64 b] w fun e w' => e = .returned (.int .u64 (Dig.pairF a b)) ∧ w = w' := by
  refine callsIn_of_wp Try.func22 rfl trivial ?_ rfl
  simp only [Try.ntmps22, List.size_toArray, List.length_cons, List.length_nil, Nat.reduceAdd, Nat.reduceSub, Array.replicate_succ, Array.replicate_zero, List.push_toArray, List.append_toArray, List.nil_append, List.cons_append]
  gi_wp2_with (refine ⟨trivial, ?_⟩; gi_at_call 39; refine (step_in _ _ _ _).mono ?_; rintro e w' ⟨rfl, rfl⟩)
  go_ret
  exact ⟨rfl, rfl⟩

/-- **digest.Pair**, in the form that its callers use. -/
theorem Pair_calls (a b : Int) (r : Int) (w : World) (h : some (Dig.pairF a b) = some r) :
    Calls Try.prog 22 #[.int .u64 a, .int .u64 b] w fun e w' => e = .returned (.int .u64 r) ∧ Drawn0 w w' := by
  obtain rfl := Option.some.inj h
  exact (callsIn_wide.1 (Pair_in 1 (Nat.le_refl _) a b w)).mono fun e w' ⟨he, hw⟩ => ⟨he, hw ▸ Drawn0.refl w⟩

/-- **digest.Add**, in the form that its callers use. -/
theorem Add_calls (s : Int) (A : Option Addr) (cap : Nat) (xs : List Int) (r : Int) (w : World) (hr : Kd.C (Kd.int .u8) w A xs.length xs) (_hc : xs.length ≤ cap) (h : some (Dig.addF s xs) = some r) :
    Calls Try.prog 18 #[.int .u64 s, .slice A xs.length cap] w fun e w' => e = .returned (.int .u64 r) ∧ Below w.heap.size w w' := by
  obtain rfl := Option.some.inj h
  exact callsIn_wide.1 (Add_in 3 (Nat.le_refl _) s A cap xs w hr)

end Go.Proofs.Ytnjhegcdjhklfaa.Hand
