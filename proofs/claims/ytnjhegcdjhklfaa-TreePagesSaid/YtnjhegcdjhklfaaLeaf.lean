/- tree's leaf of one page, and its test for pages: what they return. -/
import Derived.Test.YtnjhegcdjhklfaaHead
import Derived.Test.YtnjhegcdjhklfaaWMore
import Derived.LoopTactic
namespace Go.Proofs.Ytnjhegcdjhklfaa.Hand
open Go Go.RowKit Go.Shelf Go.Proofs.YtnjhegcdjhklfaaW.PrintWords
open Rng

/-- A page of pages that are read. -/
def rdL (xs : List (List Int)) (i : Nat) : List Int := xs.getD i []
theorem at_row {w : World} {A : Option Addr} {n : Nat} {xs : List (List Int)} (h : Kd.C (Kd.slice 5 (Kd.int .u8)) w A n xs) (i : Nat) (h1 : i < n) :
    ∃ ad A0 c0, A = some ad ∧ w.cell? (ad.add i) = some (.slice A0 (rdL xs i).length c0) ∧ (rdL xs i).length ≤ c0 ∧ (Kd.int .u8).C w A0 (rdL xs i).length (rdL xs i) := by
  obtain ⟨ad, c, e, _, hK, hc0⟩ := Kd.C_get h ([] : List Int) (i : Int) (by omega) (by omega)
  have hc : ∀ j u, c[j]? = some u → w.cell? (ad.add (((i : Int)).toNat * 1 + j)) = some u := hc0
  obtain ⟨A0, c0, rfl, l0, g0⟩ := hK
  exact ⟨ad, A0, c0, e, by have hq := hc 0 _ rfl; rwa [Nat.mul_one, Nat.add_zero] at hq, l0, g0⟩

set_option maxRecDepth 100000 in
set_option maxHeartbeats 2000000 in
/-- leaf(p), the only way in which it is called: one part. -/
theorem leaf_calls (b1 : Nat) (A : Option Addr) (cap : Nat) (xs : List Int) (w : World) (hb1 : w.cell? ⟨b1, 0, none⟩ = some (.slice A xs.length cap)) (hr : Kd.C (Kd.int .u8) w A xs.length xs) (hc : xs.length ≤ cap) :
    Calls Try.prog 45 #[.slice (some ⟨b1, 0, none⟩) 1 1] w fun e w' => e = .returned (.int .u64 (Dig.leafF xs)) ∧ Below w.heap.size w w' := by
  have HR := Lib.hid hr
  clear hr
  have hlt := World.block_lt_of_cell? _ _ hb1
  go_enter Try.func45, Try.ntmps45
  go_wp2_with fail
  refine (Sum_calls (some ⟨w.heap.size, 0, none⟩) 1 [0] _ (C_cells .u8 w [0] 5 (0, 0) (by simp)) (by simp)).mono ?_
  rintro e w1 ⟨rfl, hb⟩
  have HB := Lib.hid (((Below.refl w.heap.size w).alloc (Nat.le_refl _) (.cells #[.int .u8 0] 5)).trans (hb.mono (by simp)))
  have hb1' : w1.cell? ⟨b1, 0, none⟩ = some (.slice A xs.length cap) := (HB.out.cell (p := ⟨b1, 0, none⟩) hlt).trans hb1
  clear hb hb1
  go_wp2_with fail
  go_loopw [3, 10] (fun x i wr => (i = .int .i64 0 ∧ x = .int .u64 (Dig.addF 14695981039346656037 [0]) ∧ wr = w1) ∨ (i = .int .i64 1 ∧ x = .int .u64 (Dig.leafF xs) ∧ Below w.heap.size w wr)) (fun _ i _ => 1 - (intOf i).toNat)
  case atStart => exact .inl ⟨rfl, rfl, rfl⟩
  case round =>
    rcases hrel with ⟨rfl, rfl, rfl⟩ | ⟨rfl, rfl, hB⟩
    · go_wp2_with fail
      refine (Add_calls _ A cap xs _ wr (Kd.C_below HR.out HB.out) hc rfl).mono ?_
      rintro e w2 ⟨rfl, hb2⟩
      have HB2 := Lib.hid (HB.out.trans (hb2.mono HB.out.size))
      clear hb2
      go_wp2_with fail
      go_roundw
      case rel => exact .inr ⟨rfl, rfl, HB2.out⟩
      case measure => simp [intOf]
    · have HB2 := Lib.hid hB
      clear hB
      go_wp2_with fail
      go_ret
      exact ⟨rfl, HB2.out⟩

set_option maxRecDepth 100000 in
set_option maxHeartbeats 1000000 in
/-- The test of one page. -/
theorem long_calls (A : Option Addr) (n c : Nat) (w : World) :
    Calls Try.prog 51 #[.slice A n c] w fun e w' => e = .returned (.bool (decide (256 < n))) ∧ w = w' := by
  go_enter Try.func51, Try.ntmps51
  go_wp2
  go_ret
  exact ⟨by simp; omega, rfl⟩

/-- The first page that is too long, from page k on. -/
def firstLong (l : List (List Int)) : Nat → Nat → Int
  | 0, _ => -1
  | d + 1, k => if 256 < (rdL l k).length then (k : Int) else firstLong l d (k + 1)

theorem firstLong_neg (l : List (List Int)) (d : Nat) : ∀ k, l.length = k + d → (decide (0 ≤ firstLong l d k)) = !((l.drop k).all fun p => decide (p.length ≤ 256)) := by
  induction d with
  | zero => intro k hk; rw [List.drop_of_length_le (by omega)]; rfl
  | succ d ih =>
    intro k hk
    have hlt : k < l.length := by omega
    rw [List.drop_eq_getElem_cons hlt, List.all_cons, firstLong]
    have hr : rdL l k = l[k] := by simp [rdL, hlt]
    rw [hr]
    by_cases h : 256 < l[k].length
    · rw [if_pos h, decide_eq_true (by omega), decide_eq_false (by omega)]; rfl
    · rw [if_neg h, ih (k + 1) (by omega), decide_eq_true (by omega)]; rfl

set_option maxRecDepth 100000 in
set_option maxHeartbeats 2000000 in
theorem index_calls (A : Option Addr) (c : Nat) (l : List (List Int)) (w : World) (hr : Kd.C (Kd.slice 5 (Kd.int .u8)) w A l.length l) :
    Calls Try.prog 55 #[.slice A l.length c, .func (.func 51) #[] #[]] w fun e w' => e = .returned (.int .i64 (firstLong l l.length 0)) ∧ w = w' := by
  have hmax := Kd.C_max hr
  have HR := Lib.hid hr
  clear hr
  obtain ⟨F, hF⟩ : ∃ F, firstLong l l.length 0 = F := ⟨_, rfl⟩
  have HF := Lib.hid hF
  rw [hF]
  clear hF
  go_enter Try.func55, Try.ntmps55
  go_wp2
  go_loopw [8] (fun i wr => ∃ k d : Nat, i = .int .i64 k ∧ Hid (l.length = k + d ∧ firstLong l d k = F) ∧ wr = w) (fun i _ => l.length - (intOf i).toNat)
  case atStart => exact ⟨0, l.length, rfl, ⟨by omega, HF.out⟩, rfl⟩
  case round =>
    obtain ⟨k, d, rfl, HK, rfl⟩ := hrel
    cases d with
    | zero =>
      obtain ⟨h1, h2⟩ := HK.out
      have hge : ¬ k < l.length := by omega
      clear h1
      have h3 : (-1 : Int) = F := h2
      subst h3
      clear h2 HK HF
      go_wp2
      go_ret
      exact ⟨rfl, rfl⟩
    | succ d =>
      have hlt : k < l.length := by have := HK.out.1; omega
      obtain ⟨ad, A0, c0, rfl, hcell, hl0, hC⟩ := at_row HR.out k hlt
      have HC := Lib.hid hC
      clear hC
      by_cases hlong : 256 < (rdL l k).length
      · have h3 : (k : Int) = F := by
          have h := HK.out.2
          rw [firstLong, if_pos hlong] at h
          exact h
        subst h3
        clear HK HF
        have hdec : decide (256 < (rdL l k).length) = true := decide_eq_true hlong
        have hd2 := long_calls A0 (rdL l k).length c0 wr
        rw [hdec] at hd2
        have HD := Lib.hid hd2
        clear hd2 hdec
        go_wp2_with fail
        refine HD.out.mono ?_
        rintro e w' ⟨rfl, rfl⟩
        go_wp2_with fail
        go_ret
        exact ⟨rfl, rfl⟩
      · have h3 : Hid (l.length = (k + 1) + d ∧ firstLong l d (k + 1) = F) := by
          have h := HK.out
          rw [firstLong, if_neg hlong] at h
          exact ⟨by omega, h.2⟩
        clear HK
        have hdec : decide (256 < (rdL l k).length) = false := decide_eq_false hlong
        have hd2 := long_calls A0 (rdL l k).length c0 wr
        rw [hdec] at hd2
        have HD := Lib.hid hd2
        clear hd2 hdec
        go_wp2_with fail
        refine HD.out.mono ?_
        rintro e w' ⟨rfl, rfl⟩
        go_wp2_with fail
        go_roundw
        case rel => exact ⟨k + 1, d, by simp, h3, by simp⟩
        case measure => simp [intOf]; omega

set_option maxRecDepth 100000 in
set_option maxHeartbeats 2000000 in
theorem contains_calls (A : Option Addr) (c : Nat) (l : List (List Int)) (w : World) (hr : Kd.C (Kd.slice 5 (Kd.int .u8)) w A l.length l) :
    Calls Try.prog 50 #[.slice A l.length c, .func (.func 51) #[] #[]] w fun e w' => e = .returned (.bool (!(l.all fun p => decide (p.length ≤ 256)))) ∧ w = w' := by
  have hf := firstLong_neg l l.length 0 (by omega)
  rw [List.drop_zero] at hf
  have HF := Lib.hid hf
  have HR := Lib.hid hr
  clear hr hf
  go_enter Try.func50, Try.ntmps50
  go_wp2_with fail
  refine (index_calls A c l w HR.out).mono ?_
  rintro e w' ⟨rfl, rfl⟩
  go_wp2_with fail
  go_ret
  exact ⟨by rw [← HF.out]; rfl, rfl⟩

set_option maxRecDepth 100000 in
set_option maxHeartbeats 2000000 in
/-- **arePages.** -/
theorem pages_calls (A : Option Addr) (c : Nat) (l : List (List Int)) (w : World) (hr : Kd.C (Kd.slice 5 (Kd.int .u8)) w A l.length l) :
    Calls Try.prog 40 #[.slice A l.length c] w fun e w' => e = .returned (.bool (Dig.pagesB l)) ∧ w = w' := by
  have HR := Lib.hid hr
  clear hr
  by_cases h0 : 0 < l.length
  · by_cases h1 : l.length ≤ 16
    · have hp : Dig.pagesB l = (l.all fun p => decide (p.length ≤ 256)) := by unfold Dig.pagesB; rw [decide_eq_true h0, decide_eq_true h1]; rfl
      obtain ⟨b, hb⟩ : ∃ b, (l.all fun p => decide (p.length ≤ 256)) = b := ⟨_, rfl⟩
      have hcc := contains_calls A c l w HR.out
      rw [hb] at hcc hp
      have HC := Lib.hid hcc
      have HP := Lib.hid hp
      clear hcc hp hb
      go_enter Try.func40, Try.ntmps40
      go_wp2_with fail
      refine HC.out.mono ?_
      rintro e w' ⟨rfl, rfl⟩
      go_wp2_with fail
      go_ret
      exact ⟨by rw [HP.out]; simp, rfl⟩
    · have hp : Dig.pagesB l = false := by unfold Dig.pagesB; rw [decide_eq_false h1]; simp
      rw [hp]
      clear hp
      go_enter Try.func40, Try.ntmps40
      go_wp2_with fail
      go_ret
      exact ⟨rfl, rfl⟩
  · have hp : Dig.pagesB l = false := by unfold Dig.pagesB; rw [decide_eq_false h0]; rfl
    rw [hp]
    clear hp
    go_enter Try.func40, Try.ntmps40
    go_wp2_with fail
    go_ret
    exact ⟨rfl, rfl⟩

end Go.Proofs.Ytnjhegcdjhklfaa.Hand
