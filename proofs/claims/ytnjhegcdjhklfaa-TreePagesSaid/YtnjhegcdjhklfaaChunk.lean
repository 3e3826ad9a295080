/- slices.Chunk at lists of digests, cut in twos: what its iterator hands over. -/
import Derived.Test.YtnjhegcdjhklfaaWalk
import Derived.Laws.Slices
namespace Go.Proofs.Ytnjhegcdjhklfaa.Hand
open Go Go.RowKit Go.Shelf Go.Proofs.YtnjhegcdjhklfaaW.PrintWords
open Rng Go.Proofs.YtnjhegcdjhklfaaW.PrintMore
attribute [local go_sem] Oper.semAt_some min2_int min_two

theorem chunk23 : (Try.prog.info? 23).map (fun i => i.size) = some 1 := by kernel_rfl

set_option maxRecDepth 100000 in
set_option maxHeartbeats 1000000 in
theorem chunk_in (m : Nat) (A : Option Addr) (len cap : Nat) (w : World) :
    CallsIn FW m Try.prog 53 #[.slice A len cap, .int .i64 2] w fun e w' => e = .returned (.func (.func 56) #[] #[.pointer (some ⟨w.heap.size, 0, none⟩), .pointer (some ⟨w.heap.size + 1, 0, none⟩)]) ∧
      w' = (w.alloc (.cells #[.slice A len cap] 33)).alloc (.cells #[.int .i64 2] 3) := by
  refine callsIn_of_wp Try.func53 rfl trivial ?_ rfl
  simp only [Try.ntmps53, List.size_toArray, List.length_cons, List.length_nil, Nat.reduceAdd, Nat.reduceSub, Array.replicate_succ, Array.replicate_zero, List.push_toArray, List.append_toArray, List.nil_append, List.cons_append]
  gi_wp2
  go_ret
  exact ⟨rfl, rfl⟩

theorem size23 (W : World) : (sizeOf 23).run Try.prog W = .ok 1 W := by
  obtain ⟨i0, hi, hz⟩ := Option.map_eq_some_iff.1 chunk23
  simp [sizeOf, typeInfo, hi, hz]

theorem elem33 : Try.prog.elem 33 = 23 := by kernel_rfl

/-- s[j:], of which the length alone is asked. -/
theorem cut_tail (g len cap j : Nat) (hj : j < len) (hc : len ≤ cap) (W : World) :
    (Instr.slice 33 (.slice (some ⟨g, 0, none⟩) len cap) (some (.int .i64 (j : Int))) none none).run Try.prog W = .ok (.slice (some ⟨g, j, none⟩) (len - j) (cap - j)) W := by
  have ht : Try.prog.underlying 33 = some (.slice (Try.prog.elem 33)) := by rw [elem33]; exact Try.underlying33
  rw [run_slice_l W 33 _ len cap ht .i64 (j : Int) (by omega) (by omega), elem33, size23]
  simp only [Result.andThen, sliced, Int.toNat_natCast, Nat.mul_one, Option.map_some]
  rw [if_neg (by omega)]
  simp [Addr.add]
  omega

/-- s[j:j+q:j+q]. -/
theorem cut_mid (g len cap j q : Nat) (hq : 0 < q) (hj : j + q ≤ len) (hc : len ≤ cap) (W : World) :
    (Instr.slice 33 (.slice (some ⟨g, 0, none⟩) len cap) (some (.int .i64 (j : Int))) (some (.int .i64 ((j : Int) + (q : Int)))) (some (.int .i64 ((j : Int) + (q : Int))))).run Try.prog W = .ok (.slice (some ⟨g, j, none⟩) q q) W := by
  have ht : Try.prog.underlying 33 = some (.slice (Try.prog.elem 33)) := by rw [elem33]; exact Try.underlying33
  rw [run_slice_lhm W 33 _ len cap ht .i64 .i64 .i64 (j : Int) ((j : Int) + (q : Int)) ((j : Int) + (q : Int)) (by omega) (by omega) (by omega) (by omega), elem33, size23]
  have e : ((j : Int) + (q : Int)).toNat = j + q := by omega
  simp only [Result.andThen, sliced, Int.toNat_natCast, Nat.mul_one, Option.map_some, e]
  rw [if_neg (by omega)]
  simp [Addr.add]
  omega

/-- Chunk number k of a row of len digests in block g. -/
def chunkV (g len k : Nat) : Value := .slice (some ⟨g, 2 * k, none⟩) (min 2 (len - 2 * k)) (min 2 (len - 2 * k))

set_option maxRecDepth 100000 in
set_option maxHeartbeats 4000000 in
theorem chunk1_in (m : Nat) (hm : 1 ≤ m) (l bs bn g len cap : Nat) (hcap : len ≤ cap) (hmax : len ≤ 140737488355328) (J Jx : List Nat → World → Prop)
    (hY : ∀ pre x A B, J pre A → Turn (fun _ => False) A B → pre = List.range x → 2 * x < len → YieldAt FW (m - 1) Try.prog l #[chunkV g len x] B fun e W' =>
      (e = .returned (.bool true) ∧ J (pre ++ [x]) W' ∧ (W'.heap[bs]? = B.heap[bs]? ∧ W'.heap[bn]? = B.heap[bn]?)) ∨ (e = .returned (.bool false) ∧ Jx (pre ++ [x]) W'))
    (W : World) (hbs : Boxed W bs 33 (.slice (some ⟨g, 0, none⟩) len cap)) (hbn : Boxed W bn 3 (.int .i64 2)) (h0 : J [] W) :
    CallsIn FW m Try.prog 56 #[.func (.yield l) #[] #[], .pointer (some ⟨bs, 0, none⟩), .pointer (some ⟨bn, 0, none⟩)] W (SeqEnd (fun ys => ys = List.range ((len + 1) / 2)) (fun _ => True) J Jx (Turn (fun _ => False))) := by
  refine callsIn_of_wp Try.func56 rfl trivial ?_ rfl
  simp only [Try.ntmps56, List.size_toArray, List.length_cons, List.length_nil, Nat.reduceAdd, Nat.reduceSub, Array.replicate_succ, Array.replicate_zero, List.push_toArray, List.append_toArray, List.nil_append, List.cons_append]
  gi_wp2
  gi_loopw [4] (fun i wr => ∃ (k j : Nat) (A : World), Hid (j = 2 * k) ∧ j ≤ len + 1 ∧ i = .int .i64 (j : Int) ∧ J (List.range k) A ∧ Turn (fun _ => False) A wr ∧ Boxed wr bs 33 (.slice (some ⟨g, 0, none⟩) len cap) ∧ Boxed wr bn 3 (.int .i64 2))
    (fun i _ => len + 1 - (intOf i).toNat)
  case atStart => exact ⟨0, 0, W, rfl, by omega, rfl, h0, Turn.refl _ _, hbs, hbn⟩
  case round =>
    obtain ⟨k, j, A, HJ, hj, rfl, hJ, hT, hb1, hb2⟩ := hrel
    have hc1 := hb1.cell
    have hc2 := hb2.cell
    by_cases hlt : j < len
    · have E1 := cut_tail g len cap j hlt hcap
      obtain ⟨q, hq⟩ : ∃ q, len - j = q := ⟨_, rfl⟩
      obtain ⟨p, hp⟩ : ∃ p, min 2 q = p := ⟨_, rfl⟩
      have hp0 : 0 < p := by omega
      have E2 := cut_mid g len cap j p hp0 (by omega) hcap
      have hif : (if ((q : Int)) < 2 then (q : Int) else 2) = (p : Int) := by split <;> omega
      rw [hq] at E1
      have hv : chunkV g len k = .slice (some ⟨g, j, none⟩) p p := by
        unfold chunkV
        rw [← HJ.out, hq, hp]
      have hlt2 : (j : Int) < len := by omega
      have hjp : (j : Int) + p ≤ len := by omega
      obtain ⟨fn, tmps, assign, body, hy, hR⟩ := hY (List.range k) k A wr.drew hJ (hT.trans (Turn.drew _)) rfl (by have := HJ.out; omega)
      rw [hv] at hy
      have HV := Lib.hid hv
      have HQ : Hid (len - j = q) := hq
      have HP : Hid (min 2 q = p) := hp
      clear hv hq hp
      gi_wp2
      gi_region
      gi_wp2
      refine hR.mono ?_
      rintro e W3 (⟨rfl, hJ3, hk1, hk2⟩ | ⟨rfl, hJx3⟩)
      · have hb1' : Boxed W3 bs 33 (.slice (some ⟨g, 0, none⟩) len cap) := hk1.trans hb1
        have hb2' : Boxed W3 bn 3 (.int .i64 2) := hk2.trans hb2
        clear hc1 hc2
        have hc2 := hb2'.cell
        gi_wp2
        go_roundw
        case rel => exact ⟨k + 1, j + 2, W3, (by have := HJ.out; show _ = _; omega), by omega, by simp, by rw [List.range_succ]; exact hJ3, Turn.refl _ _, hb1', hb2'⟩
        case measure => simp [intOf]; omega
      · gi_wp2
        refine bodyPost_ret (results_none rfl _ _ _) rfl ?_
        exact ⟨⟨_, rfl⟩, .inr ⟨_, W3, trivial, hJx3, Turn.refl _ _⟩⟩
    · have HL : Hid (List.range k = List.range ((len + 1) / 2)) := by
        have := HJ.out
        show List.range k = List.range ((len + 1) / 2)
        congr 1
        omega
      have hge : ¬ (j : Int) < len := by omega
      gi_wp2
      go_end0
      exact ⟨⟨_, rfl⟩, .inl ⟨_, A, HL.out, hJ, hT⟩⟩

end Go.Proofs.Ytnjhegcdjhklfaa.Hand
