/- The examples at the head of the laws of the tree: printed walk up to region 11, the rest by hand: it returns true. -/
import Derived.Test.YtnjhegcdjhklfaaPheadx0
import Derived.Test.YtnjhegcdjhklfaaPheadx1
namespace Go.Proofs.Ytnjhegcdjhklfaa.Phead
open Go.RowKit Go.Proofs.YtnjhegcdjhklfaaW.PrintWords Go.Proofs.YtnjhegcdjhklfaaW.PrintLast Go.Proofs.YtnjhegcdjhklfaaW.PrintMore
attribute [local go_sem] max2_int min2_int max_two min_two max_three min_three max_four min_four   -- for this text's walks alone
set_option linter.unusedVariables false
set_option linter.unusedSimpArgs false

/-! ### slotmeshlaw35_head: function 24 -/
def slotmeshlaw35_head.j0 : Nat → List (List Int) → Int → Int → Int → Int → Int → List Int → List Int → List Int → Bool → Option (Bool)
  | 0, _, _, _, _, _, _, _, _, _, _ => none
  | k + 1, x1, x2, x3, x4, x5, x7, x9, x11, x13, x84 => if x84 = true then (some false) else (if x5 = x2 then ((digest_Pair.f x2 x3).bind fun t165 => ((digest_Pair.f t165 x4).bind fun t166 => (if x7 = t166 then ((slotmeshref35_Same.f k x9 (([x3, x4] : List Int))).bind fun t170 => (if t170 = true then ((slotmeshref35_Same.f k x11 (([x2, x4] : List Int))).bind fun t174 => (if t174 = true then ((digest_Pair.f x2 x3).bind fun t175 => ((slotmeshref35_Same.f k x13 (([t175] : List Int))).bind fun t179 => (if t179 = true then (if 1 < (x1.length : Int) then ((tree_Check.f x7 3 1 (rd_L1 x1 1) x11).bind fun t181 => (if t181 = true then ((tree_Check.f x7 3 1 (([2, 4] : List Int)) x11).bind fun t185 => (if t185 = true then (some false) else (if 1 ≤ (x11.length : Int) then ((tree_Check.f x7 3 1 (rd_L1 x1 1) (x11.take 1)).bind fun t192 => (some (!t192))) else (none)))) else (some false))) else (none)) else (some false)))) else (some false))) else (some false))) else (some false)))) else (some false))
def slotmeshlaw35_head.f (k : Nat)  : Option (Bool) := (some (([(([1] : List Int)), (([2, 3] : List Int)), []] : List (List Int)) : List (List Int))).bind fun y133 => (if 0 < (y133.length : Int) then ((slotmeshlaw35_leaf.f (rd_L1 y133 0)).bind fun t137 => (if 1 < (y133.length : Int) then ((slotmeshlaw35_leaf.f (rd_L1 y133 1)).bind fun t139 => (if 2 < (y133.length : Int) then ((slotmeshlaw35_leaf.f (rd_L1 y133 2)).bind fun t141 => (if 1 ≤ (y133.length : Int) then ((tree_Root.f (y133.take 1)).bind fun bt147 => ((tree_Root.f y133).bind fun bt149 => ((tree_Proof.f y133 0).bind fun bt151 => ((tree_Proof.f y133 1).bind fun bt155 => ((tree_Proof.f y133 2).bind fun bt159 => ((tree_Root.f ([] : List (List Int))).bind fun bt163 => (if bt147.2 = 0 then (if bt149.2 = 0 then (if bt151.2 = 0 then (if bt155.2 = 0 then (if bt159.2 = 0 then (slotmeshlaw35_head.j0 k y133 t137 t139 t141 bt147.1 bt149.1 bt151.1 bt155.1 bt159.1 (bt163.2 != 1)) else (slotmeshlaw35_head.j0 k y133 t137 t139 t141 bt147.1 bt149.1 bt151.1 bt155.1 bt159.1 true)) else (slotmeshlaw35_head.j0 k y133 t137 t139 t141 bt147.1 bt149.1 bt151.1 bt155.1 bt159.1 true)) else (slotmeshlaw35_head.j0 k y133 t137 t139 t141 bt147.1 bt149.1 bt151.1 bt155.1 bt159.1 true)) else (slotmeshlaw35_head.j0 k y133 t137 t139 t141 bt147.1 bt149.1 bt151.1 bt155.1 bt159.1 true)) else (slotmeshlaw35_head.j0 k y133 t137 t139 t141 bt147.1 bt149.1 bt151.1 bt155.1 bt159.1 true)))))))) else (none))) else (none))) else (none))) else (none))
theorem slotmeshlaw35_head.mono_l : ∀ k, (∀ y0 y1 y2 y3 y4 y5 y6 y7 y8 y9, LeO (slotmeshlaw35_head.j0 k y0 y1 y2 y3 y4 y5 y6 y7 y8 y9) (slotmeshlaw35_head.j0 (k + 1) y0 y1 y2 y3 y4 y5 y6 y7 y8 y9))
  | 0 => fun _ _ _ _ _ _ _ _ _ _ r h => by simp [slotmeshlaw35_head.j0] at h
  | k + 1 => by
    have ih0 := slotmeshlaw35_head.mono_l k
    · intro y0 y1 y2 y3 y4 y5 y6 y7 y8 y9
      unfold slotmeshlaw35_head.j0
      repeat' first
      | (with_reducible exact ih0 _ _ _ _ _ _ _ _ _ _)
      | (with_reducible exact slotmeshref35_Same.mono _ _ _)
      | (with_reducible exact LeO.refl _)
      | (with_reducible exact LeO.none _)
      | (with_reducible refine LeO.ite ?_ ?_)
      | (with_reducible refine LeO.bind ?_ (fun _ => ?_))
      | exact ih0 _ _ _ _ _ _ _ _ _ _
      | exact slotmeshref35_Same.mono _ _ _
      | exact LeO.none _
      | refine LeO.ite ?_ ?_
      | refine LeO.bind ?_ (fun _ => ?_)
theorem slotmeshlaw35_head.mono : ∀ k, LeO (slotmeshlaw35_head.f k ) (slotmeshlaw35_head.f (k + 1) ) := by
  intro  k
  have ih0 := slotmeshlaw35_head.mono_l k
  unfold slotmeshlaw35_head.f
  repeat' first
      | (with_reducible exact ih0 _ _ _ _ _ _ _ _ _ _)
      | (with_reducible exact slotmeshref35_Same.mono _ _ _)
      | (with_reducible exact LeO.refl _)
      | (with_reducible exact LeO.none _)
      | (with_reducible refine LeO.ite ?_ ?_)
      | (with_reducible refine LeO.bind ?_ (fun _ => ?_))
      | exact ih0 _ _ _ _ _ _ _ _ _ _
      | exact slotmeshref35_Same.mono _ _ _
      | exact LeO.none _
      | refine LeO.ite ?_ ?_
      | refine LeO.bind ?_ (fun _ => ?_)
def slotmeshlaw35_head.T2 : Bool × List (List Nat × List Nat) := (true, [([], []), ([0], [0]), ([1], [1]), ([2], [2]), ([], []), ([4], [4]), ([5], [5]), ([6, 3], [6]), ([], []), ([8], [8]), ([9], [9]), ([10, 7], [10]), ([3, 11, 0, 1, 2, 3], [3]), ([7, 12, 0, 1, 2, 3, 4, 5, 6, 7, 12], [7]), ([11, 13, 0, 1, 2, 3, 4, 5, 6, 7, 8, 9, 10, 11, 12, 13], [11])])
def slotmeshlaw35_head.B2 : List Nat := [0, 1, 3, 7, 0, 16, 48, 127, 0, 256, 768, 2047, 4095, 8191, 16383]
theorem slotmeshlaw35_head.tab2 : rtab .any (opsOf Try.f24 2) = slotmeshlaw35_head.T2 := by kernel_rfl
theorem slotmeshlaw35_head.bits2 : waitsOk slotmeshlaw35_head.T2.2 slotmeshlaw35_head.B2 = true := by kernel_rfl
def slotmeshlaw35_head.T12 : Bool × List (List Nat × List Nat) := (true, [([], []), ([0], [0]), ([1], [1]), ([1], [1]), ([3, 1], [1, 3]), ([4, 1], [1, 4]), ([1], [1]), ([2, 5, 6, 1, 1], [1, 2, 5, 6]), ([1, 7], [1, 7]), ([8, 7], [8]), ([9], [9]), ([9], [9]), ([9], [9]), ([10, 11, 12, 9, 9], [9, 10, 11, 12]), ([13, 9], [9, 13]), ([9, 14], [9, 14]), ([15, 13], [15]), ([16], [16]), ([16], [16]), ([18, 16], [16, 18]), ([19, 16], [16, 19]), ([16], [16]), ([21, 16], [16, 21]), ([17, 20, 22, 16, 16], [16, 17, 20, 22]), ([23, 16], [16, 23]), ([16, 24], [16, 24]), ([25, 23, 0, 1, 2, 3, 4, 5, 6, 7, 8, 9, 10, 11, 12, 13, 14, 15, 16, 17, 18, 19, 20, 21, 22, 23, 24, 25], [25])])
def slotmeshlaw35_head.B12 : List Nat := [0, 1, 3, 3, 11, 27, 3, 127, 255, 511, 1023, 1023, 1023, 8191, 16383, 32767, 65535, 131071, 131071, 393215, 917503, 131071, 2228223, 8388607, 16777215, 33554431, 67108863]
theorem slotmeshlaw35_head.tab12 : rtab .any (opsOf Try.f24 12) = slotmeshlaw35_head.T12 := by kernel_rfl
theorem slotmeshlaw35_head.bits12 : waitsOk slotmeshlaw35_head.T12.2 slotmeshlaw35_head.B12 = true := by kernel_rfl
set_option maxHeartbeats 8000000 in
set_option maxRecDepth 100000 in
theorem slotmeshlaw35_head.calls (k : Nat)  (r : Bool) (w : World) (h : slotmeshlaw35_head.f k  = some r) (hrt : r = true) :
    Calls Try.prog 24 #[] w fun e w' => e = .returned (.bool r) ∧ Below w.heap.size w w' := by
  have HRT := Aside0.mk hrt
  clear hrt
  have HB := Aside0.mk (Below.refl w.heap.size w)
  have H : ((some (([(([1] : List Int)), (([2, 3] : List Int)), []] : List (List Int)) : List (List Int))).bind fun y133 => (if 0 < (y133.length : Int) then ((slotmeshlaw35_leaf.f (rd_L1 y133 0)).bind fun t137 => (if 1 < (y133.length : Int) then ((slotmeshlaw35_leaf.f (rd_L1 y133 1)).bind fun t139 => (if 2 < (y133.length : Int) then ((slotmeshlaw35_leaf.f (rd_L1 y133 2)).bind fun t141 => (if 1 ≤ (y133.length : Int) then ((tree_Root.f (y133.take 1)).bind fun bt147 => ((tree_Root.f y133).bind fun bt149 => ((tree_Proof.f y133 0).bind fun bt151 => ((tree_Proof.f y133 1).bind fun bt155 => ((tree_Proof.f y133 2).bind fun bt159 => ((tree_Root.f ([] : List (List Int))).bind fun bt163 => (if bt147.2 = 0 then (if bt149.2 = 0 then (if bt151.2 = 0 then (if bt155.2 = 0 then (if bt159.2 = 0 then (slotmeshlaw35_head.j0 k y133 t137 t139 t141 bt147.1 bt149.1 bt151.1 bt155.1 bt159.1 (bt163.2 != 1)) else (slotmeshlaw35_head.j0 k y133 t137 t139 t141 bt147.1 bt149.1 bt151.1 bt155.1 bt159.1 true)) else (slotmeshlaw35_head.j0 k y133 t137 t139 t141 bt147.1 bt149.1 bt151.1 bt155.1 bt159.1 true)) else (slotmeshlaw35_head.j0 k y133 t137 t139 t141 bt147.1 bt149.1 bt151.1 bt155.1 bt159.1 true)) else (slotmeshlaw35_head.j0 k y133 t137 t139 t141 bt147.1 bt149.1 bt151.1 bt155.1 bt159.1 true)) else (slotmeshlaw35_head.j0 k y133 t137 t139 t141 bt147.1 bt149.1 bt151.1 bt155.1 bt159.1 true)))))))) else (none))) else (none))) else (none))) else (none))) = some r := h
  clear h
  obtain ⟨y127, hy127⟩ : ∃ y_ : List Int, y_ = (([1] : List Int)) := ⟨_, rfl⟩
  replace H : ((some (([y127, (([2, 3] : List Int)), []] : List (List Int)) : List (List Int))).bind fun y133 => (if 0 < (y133.length : Int) then ((slotmeshlaw35_leaf.f (rd_L1 y133 0)).bind fun t137 => (if 1 < (y133.length : Int) then ((slotmeshlaw35_leaf.f (rd_L1 y133 1)).bind fun t139 => (if 2 < (y133.length : Int) then ((slotmeshlaw35_leaf.f (rd_L1 y133 2)).bind fun t141 => (if 1 ≤ (y133.length : Int) then ((tree_Root.f (y133.take 1)).bind fun bt147 => ((tree_Root.f y133).bind fun bt149 => ((tree_Proof.f y133 0).bind fun bt151 => ((tree_Proof.f y133 1).bind fun bt155 => ((tree_Proof.f y133 2).bind fun bt159 => ((tree_Root.f ([] : List (List Int))).bind fun bt163 => (if bt147.2 = 0 then (if bt149.2 = 0 then (if bt151.2 = 0 then (if bt155.2 = 0 then (if bt159.2 = 0 then (slotmeshlaw35_head.j0 k y133 t137 t139 t141 bt147.1 bt149.1 bt151.1 bt155.1 bt159.1 (bt163.2 != 1)) else (slotmeshlaw35_head.j0 k y133 t137 t139 t141 bt147.1 bt149.1 bt151.1 bt155.1 bt159.1 true)) else (slotmeshlaw35_head.j0 k y133 t137 t139 t141 bt147.1 bt149.1 bt151.1 bt155.1 bt159.1 true)) else (slotmeshlaw35_head.j0 k y133 t137 t139 t141 bt147.1 bt149.1 bt151.1 bt155.1 bt159.1 true)) else (slotmeshlaw35_head.j0 k y133 t137 t139 t141 bt147.1 bt149.1 bt151.1 bt155.1 bt159.1 true)) else (slotmeshlaw35_head.j0 k y133 t137 t139 t141 bt147.1 bt149.1 bt151.1 bt155.1 bt159.1 true)))))))) else (none))) else (none))) else (none))) else (none))) = some r := by first | (rw [hy127]; with_reducible exact H) | (have H2_ := (Option.bind_some _ _).symm.trans H; rw [hy127]; with_reducible exact H2_) | (have H2_ := (Option.bind_some _ _).symm.trans H; with_reducible exact H2_) | with_reducible exact H | (rw [hy127]; exact H) | exact H
  have Ny127 := Aside0.mk hy127
  clear hy127
  obtain ⟨y130, hy130⟩ : ∃ y_ : List Int, y_ = (([2, 3] : List Int)) := ⟨_, rfl⟩
  replace H : ((some (([y127, y130, []] : List (List Int)) : List (List Int))).bind fun y133 => (if 0 < (y133.length : Int) then ((slotmeshlaw35_leaf.f (rd_L1 y133 0)).bind fun t137 => (if 1 < (y133.length : Int) then ((slotmeshlaw35_leaf.f (rd_L1 y133 1)).bind fun t139 => (if 2 < (y133.length : Int) then ((slotmeshlaw35_leaf.f (rd_L1 y133 2)).bind fun t141 => (if 1 ≤ (y133.length : Int) then ((tree_Root.f (y133.take 1)).bind fun bt147 => ((tree_Root.f y133).bind fun bt149 => ((tree_Proof.f y133 0).bind fun bt151 => ((tree_Proof.f y133 1).bind fun bt155 => ((tree_Proof.f y133 2).bind fun bt159 => ((tree_Root.f ([] : List (List Int))).bind fun bt163 => (if bt147.2 = 0 then (if bt149.2 = 0 then (if bt151.2 = 0 then (if bt155.2 = 0 then (if bt159.2 = 0 then (slotmeshlaw35_head.j0 k y133 t137 t139 t141 bt147.1 bt149.1 bt151.1 bt155.1 bt159.1 (bt163.2 != 1)) else (slotmeshlaw35_head.j0 k y133 t137 t139 t141 bt147.1 bt149.1 bt151.1 bt155.1 bt159.1 true)) else (slotmeshlaw35_head.j0 k y133 t137 t139 t141 bt147.1 bt149.1 bt151.1 bt155.1 bt159.1 true)) else (slotmeshlaw35_head.j0 k y133 t137 t139 t141 bt147.1 bt149.1 bt151.1 bt155.1 bt159.1 true)) else (slotmeshlaw35_head.j0 k y133 t137 t139 t141 bt147.1 bt149.1 bt151.1 bt155.1 bt159.1 true)) else (slotmeshlaw35_head.j0 k y133 t137 t139 t141 bt147.1 bt149.1 bt151.1 bt155.1 bt159.1 true)))))))) else (none))) else (none))) else (none))) else (none))) = some r := by first | (rw [hy130]; with_reducible exact H) | (have H2_ := (Option.bind_some _ _).symm.trans H; rw [hy130]; with_reducible exact H2_) | (have H2_ := (Option.bind_some _ _).symm.trans H; with_reducible exact H2_) | with_reducible exact H | (rw [hy130]; exact H) | exact H
  have Ny130 := Aside0.mk hy130
  clear hy130
  obtain ⟨y133, hy133⟩ : ∃ y_ : List (List Int), y_ = (([y127, y130, []] : List (List Int))) := ⟨_, rfl⟩
  replace H : (if 0 < (y133.length : Int) then ((slotmeshlaw35_leaf.f (rd_L1 y133 0)).bind fun t137 => (if 1 < (y133.length : Int) then ((slotmeshlaw35_leaf.f (rd_L1 y133 1)).bind fun t139 => (if 2 < (y133.length : Int) then ((slotmeshlaw35_leaf.f (rd_L1 y133 2)).bind fun t141 => (if 1 ≤ (y133.length : Int) then ((tree_Root.f (y133.take 1)).bind fun bt147 => ((tree_Root.f y133).bind fun bt149 => ((tree_Proof.f y133 0).bind fun bt151 => ((tree_Proof.f y133 1).bind fun bt155 => ((tree_Proof.f y133 2).bind fun bt159 => ((tree_Root.f ([] : List (List Int))).bind fun bt163 => (if bt147.2 = 0 then (if bt149.2 = 0 then (if bt151.2 = 0 then (if bt155.2 = 0 then (if bt159.2 = 0 then (slotmeshlaw35_head.j0 k y133 t137 t139 t141 bt147.1 bt149.1 bt151.1 bt155.1 bt159.1 (bt163.2 != 1)) else (slotmeshlaw35_head.j0 k y133 t137 t139 t141 bt147.1 bt149.1 bt151.1 bt155.1 bt159.1 true)) else (slotmeshlaw35_head.j0 k y133 t137 t139 t141 bt147.1 bt149.1 bt151.1 bt155.1 bt159.1 true)) else (slotmeshlaw35_head.j0 k y133 t137 t139 t141 bt147.1 bt149.1 bt151.1 bt155.1 bt159.1 true)) else (slotmeshlaw35_head.j0 k y133 t137 t139 t141 bt147.1 bt149.1 bt151.1 bt155.1 bt159.1 true)) else (slotmeshlaw35_head.j0 k y133 t137 t139 t141 bt147.1 bt149.1 bt151.1 bt155.1 bt159.1 true)))))))) else (none))) else (none))) else (none))) else (none)) = some r := by first | (rw [hy133]; with_reducible exact H) | (have H2_ := (Option.bind_some _ _).symm.trans H; rw [hy133]; with_reducible exact H2_) | (have H2_ := (Option.bind_some _ _).symm.trans H; with_reducible exact H2_) | with_reducible exact H | (rw [hy133]; exact H) | exact H
  have Ny133 := Aside0.mk hy133
  clear hy133
  by_cases c1 : 0 < (y133.length : Int)
  · rw [if_pos c1] at H
    have c1b0 : decide (0 < (y133.length : Int)) = true := decide_eq_true c1
    have c1b1 : decide (0 < y133.length) = true := decide_eq_true (by omega)
    clear c1
    replace H := Option.bind_eq_some_iff.mp H
    obtain ⟨t137, A20, H⟩ := H
    replace H : (if 1 < (y133.length : Int) then ((slotmeshlaw35_leaf.f (rd_L1 y133 1)).bind fun t139 => (if 2 < (y133.length : Int) then ((slotmeshlaw35_leaf.f (rd_L1 y133 2)).bind fun t141 => (if 1 ≤ (y133.length : Int) then ((tree_Root.f (y133.take 1)).bind fun bt147 => ((tree_Root.f y133).bind fun bt149 => ((tree_Proof.f y133 0).bind fun bt151 => ((tree_Proof.f y133 1).bind fun bt155 => ((tree_Proof.f y133 2).bind fun bt159 => ((tree_Root.f ([] : List (List Int))).bind fun bt163 => (if bt147.2 = 0 then (if bt149.2 = 0 then (if bt151.2 = 0 then (if bt155.2 = 0 then (if bt159.2 = 0 then (slotmeshlaw35_head.j0 k y133 t137 t139 t141 bt147.1 bt149.1 bt151.1 bt155.1 bt159.1 (bt163.2 != 1)) else (slotmeshlaw35_head.j0 k y133 t137 t139 t141 bt147.1 bt149.1 bt151.1 bt155.1 bt159.1 true)) else (slotmeshlaw35_head.j0 k y133 t137 t139 t141 bt147.1 bt149.1 bt151.1 bt155.1 bt159.1 true)) else (slotmeshlaw35_head.j0 k y133 t137 t139 t141 bt147.1 bt149.1 bt151.1 bt155.1 bt159.1 true)) else (slotmeshlaw35_head.j0 k y133 t137 t139 t141 bt147.1 bt149.1 bt151.1 bt155.1 bt159.1 true)) else (slotmeshlaw35_head.j0 k y133 t137 t139 t141 bt147.1 bt149.1 bt151.1 bt155.1 bt159.1 true)))))))) else (none))) else (none))) else (none)) = some r := H
    have A2 := Aside0.mk A20
    clear A20
    by_cases c3 : 1 < (y133.length : Int)
    · rw [if_pos c3] at H
      have c3b0 : decide (1 < (y133.length : Int)) = true := decide_eq_true c3
      have c3b1 : decide (1 < y133.length) = true := decide_eq_true (by omega)
      clear c3
      replace H := Option.bind_eq_some_iff.mp H
      obtain ⟨t139, A40, H⟩ := H
      replace H : (if 2 < (y133.length : Int) then ((slotmeshlaw35_leaf.f (rd_L1 y133 2)).bind fun t141 => (if 1 ≤ (y133.length : Int) then ((tree_Root.f (y133.take 1)).bind fun bt147 => ((tree_Root.f y133).bind fun bt149 => ((tree_Proof.f y133 0).bind fun bt151 => ((tree_Proof.f y133 1).bind fun bt155 => ((tree_Proof.f y133 2).bind fun bt159 => ((tree_Root.f ([] : List (List Int))).bind fun bt163 => (if bt147.2 = 0 then (if bt149.2 = 0 then (if bt151.2 = 0 then (if bt155.2 = 0 then (if bt159.2 = 0 then (slotmeshlaw35_head.j0 k y133 t137 t139 t141 bt147.1 bt149.1 bt151.1 bt155.1 bt159.1 (bt163.2 != 1)) else (slotmeshlaw35_head.j0 k y133 t137 t139 t141 bt147.1 bt149.1 bt151.1 bt155.1 bt159.1 true)) else (slotmeshlaw35_head.j0 k y133 t137 t139 t141 bt147.1 bt149.1 bt151.1 bt155.1 bt159.1 true)) else (slotmeshlaw35_head.j0 k y133 t137 t139 t141 bt147.1 bt149.1 bt151.1 bt155.1 bt159.1 true)) else (slotmeshlaw35_head.j0 k y133 t137 t139 t141 bt147.1 bt149.1 bt151.1 bt155.1 bt159.1 true)) else (slotmeshlaw35_head.j0 k y133 t137 t139 t141 bt147.1 bt149.1 bt151.1 bt155.1 bt159.1 true)))))))) else (none))) else (none)) = some r := H
      have A4 := Aside0.mk A40
      clear A40
      by_cases c5 : 2 < (y133.length : Int)
      · rw [if_pos c5] at H
        have c5b0 : decide (2 < (y133.length : Int)) = true := decide_eq_true c5
        have c5b1 : decide (2 < y133.length) = true := decide_eq_true (by omega)
        clear c5
        replace H := Option.bind_eq_some_iff.mp H
        obtain ⟨t141, A60, H⟩ := H
        replace H : (if 1 ≤ (y133.length : Int) then ((tree_Root.f (y133.take 1)).bind fun bt147 => ((tree_Root.f y133).bind fun bt149 => ((tree_Proof.f y133 0).bind fun bt151 => ((tree_Proof.f y133 1).bind fun bt155 => ((tree_Proof.f y133 2).bind fun bt159 => ((tree_Root.f ([] : List (List Int))).bind fun bt163 => (if bt147.2 = 0 then (if bt149.2 = 0 then (if bt151.2 = 0 then (if bt155.2 = 0 then (if bt159.2 = 0 then (slotmeshlaw35_head.j0 k y133 t137 t139 t141 bt147.1 bt149.1 bt151.1 bt155.1 bt159.1 (bt163.2 != 1)) else (slotmeshlaw35_head.j0 k y133 t137 t139 t141 bt147.1 bt149.1 bt151.1 bt155.1 bt159.1 true)) else (slotmeshlaw35_head.j0 k y133 t137 t139 t141 bt147.1 bt149.1 bt151.1 bt155.1 bt159.1 true)) else (slotmeshlaw35_head.j0 k y133 t137 t139 t141 bt147.1 bt149.1 bt151.1 bt155.1 bt159.1 true)) else (slotmeshlaw35_head.j0 k y133 t137 t139 t141 bt147.1 bt149.1 bt151.1 bt155.1 bt159.1 true)) else (slotmeshlaw35_head.j0 k y133 t137 t139 t141 bt147.1 bt149.1 bt151.1 bt155.1 bt159.1 true)))))))) else (none)) = some r := H
        have A6 := Aside0.mk A60
        clear A60
        by_cases c7 : 1 ≤ (y133.length : Int)
        · rw [if_pos c7] at H
          have c7b0 := eq_true c7
          have c7b1 : decide (1 ≤ (y133.length : Int)) = true := decide_eq_true c7
          clear c7
          obtain ⟨y142, hy142⟩ : ∃ y_ : List (List Int), y_ = (y133.take 1) := ⟨_, rfl⟩
          replace H : ((tree_Root.f y142).bind fun bt147 => ((tree_Root.f y133).bind fun bt149 => ((tree_Proof.f y133 0).bind fun bt151 => ((tree_Proof.f y133 1).bind fun bt155 => ((tree_Proof.f y133 2).bind fun bt159 => ((tree_Root.f ([] : List (List Int))).bind fun bt163 => (if bt147.2 = 0 then (if bt149.2 = 0 then (if bt151.2 = 0 then (if bt155.2 = 0 then (if bt159.2 = 0 then (slotmeshlaw35_head.j0 k y133 t137 t139 t141 bt147.1 bt149.1 bt151.1 bt155.1 bt159.1 (bt163.2 != 1)) else (slotmeshlaw35_head.j0 k y133 t137 t139 t141 bt147.1 bt149.1 bt151.1 bt155.1 bt159.1 true)) else (slotmeshlaw35_head.j0 k y133 t137 t139 t141 bt147.1 bt149.1 bt151.1 bt155.1 bt159.1 true)) else (slotmeshlaw35_head.j0 k y133 t137 t139 t141 bt147.1 bt149.1 bt151.1 bt155.1 bt159.1 true)) else (slotmeshlaw35_head.j0 k y133 t137 t139 t141 bt147.1 bt149.1 bt151.1 bt155.1 bt159.1 true)) else (slotmeshlaw35_head.j0 k y133 t137 t139 t141 bt147.1 bt149.1 bt151.1 bt155.1 bt159.1 true)))))))) = some r := by first | (rw [hy142]; with_reducible exact H) | (have H2_ := (Option.bind_some _ _).symm.trans H; rw [hy142]; with_reducible exact H2_) | (have H2_ := (Option.bind_some _ _).symm.trans H; with_reducible exact H2_) | with_reducible exact H | (rw [hy142]; exact H) | exact H
          have Ny142 := Aside0.mk hy142
          clear hy142
          replace H := Option.bind_eq_some_iff.mp H
          obtain ⟨⟨t147, t148⟩, A80, H⟩ := H
          replace H : ((tree_Root.f y133).bind fun bt149 => ((tree_Proof.f y133 0).bind fun bt151 => ((tree_Proof.f y133 1).bind fun bt155 => ((tree_Proof.f y133 2).bind fun bt159 => ((tree_Root.f ([] : List (List Int))).bind fun bt163 => (if t148 = 0 then (if bt149.2 = 0 then (if bt151.2 = 0 then (if bt155.2 = 0 then (if bt159.2 = 0 then (slotmeshlaw35_head.j0 k y133 t137 t139 t141 t147 bt149.1 bt151.1 bt155.1 bt159.1 (bt163.2 != 1)) else (slotmeshlaw35_head.j0 k y133 t137 t139 t141 t147 bt149.1 bt151.1 bt155.1 bt159.1 true)) else (slotmeshlaw35_head.j0 k y133 t137 t139 t141 t147 bt149.1 bt151.1 bt155.1 bt159.1 true)) else (slotmeshlaw35_head.j0 k y133 t137 t139 t141 t147 bt149.1 bt151.1 bt155.1 bt159.1 true)) else (slotmeshlaw35_head.j0 k y133 t137 t139 t141 t147 bt149.1 bt151.1 bt155.1 bt159.1 true)) else (slotmeshlaw35_head.j0 k y133 t137 t139 t141 t147 bt149.1 bt151.1 bt155.1 bt159.1 true))))))) = some r := H
          have A8 := Aside0.mk A80
          clear A80
          replace H := Option.bind_eq_some_iff.mp H
          obtain ⟨⟨t149, t150⟩, A90, H⟩ := H
          replace H : ((tree_Proof.f y133 0).bind fun bt151 => ((tree_Proof.f y133 1).bind fun bt155 => ((tree_Proof.f y133 2).bind fun bt159 => ((tree_Root.f ([] : List (List Int))).bind fun bt163 => (if t148 = 0 then (if t150 = 0 then (if bt151.2 = 0 then (if bt155.2 = 0 then (if bt159.2 = 0 then (slotmeshlaw35_head.j0 k y133 t137 t139 t141 t147 t149 bt151.1 bt155.1 bt159.1 (bt163.2 != 1)) else (slotmeshlaw35_head.j0 k y133 t137 t139 t141 t147 t149 bt151.1 bt155.1 bt159.1 true)) else (slotmeshlaw35_head.j0 k y133 t137 t139 t141 t147 t149 bt151.1 bt155.1 bt159.1 true)) else (slotmeshlaw35_head.j0 k y133 t137 t139 t141 t147 t149 bt151.1 bt155.1 bt159.1 true)) else (slotmeshlaw35_head.j0 k y133 t137 t139 t141 t147 t149 bt151.1 bt155.1 bt159.1 true)) else (slotmeshlaw35_head.j0 k y133 t137 t139 t141 t147 t149 bt151.1 bt155.1 bt159.1 true)))))) = some r := H
          have A9 := Aside0.mk A90
          clear A90
          replace H := Option.bind_eq_some_iff.mp H
          obtain ⟨⟨t151, t152⟩, A100, H⟩ := H
          replace H : ((tree_Proof.f y133 1).bind fun bt155 => ((tree_Proof.f y133 2).bind fun bt159 => ((tree_Root.f ([] : List (List Int))).bind fun bt163 => (if t148 = 0 then (if t150 = 0 then (if t152 = 0 then (if bt155.2 = 0 then (if bt159.2 = 0 then (slotmeshlaw35_head.j0 k y133 t137 t139 t141 t147 t149 t151 bt155.1 bt159.1 (bt163.2 != 1)) else (slotmeshlaw35_head.j0 k y133 t137 t139 t141 t147 t149 t151 bt155.1 bt159.1 true)) else (slotmeshlaw35_head.j0 k y133 t137 t139 t141 t147 t149 t151 bt155.1 bt159.1 true)) else (slotmeshlaw35_head.j0 k y133 t137 t139 t141 t147 t149 t151 bt155.1 bt159.1 true)) else (slotmeshlaw35_head.j0 k y133 t137 t139 t141 t147 t149 t151 bt155.1 bt159.1 true)) else (slotmeshlaw35_head.j0 k y133 t137 t139 t141 t147 t149 t151 bt155.1 bt159.1 true))))) = some r := H
          have A10 := Aside0.mk A100
          clear A100
          replace H := Option.bind_eq_some_iff.mp H
          obtain ⟨⟨t155, t156⟩, A110, H⟩ := H
          replace H : ((tree_Proof.f y133 2).bind fun bt159 => ((tree_Root.f ([] : List (List Int))).bind fun bt163 => (if t148 = 0 then (if t150 = 0 then (if t152 = 0 then (if t156 = 0 then (if bt159.2 = 0 then (slotmeshlaw35_head.j0 k y133 t137 t139 t141 t147 t149 t151 t155 bt159.1 (bt163.2 != 1)) else (slotmeshlaw35_head.j0 k y133 t137 t139 t141 t147 t149 t151 t155 bt159.1 true)) else (slotmeshlaw35_head.j0 k y133 t137 t139 t141 t147 t149 t151 t155 bt159.1 true)) else (slotmeshlaw35_head.j0 k y133 t137 t139 t141 t147 t149 t151 t155 bt159.1 true)) else (slotmeshlaw35_head.j0 k y133 t137 t139 t141 t147 t149 t151 t155 bt159.1 true)) else (slotmeshlaw35_head.j0 k y133 t137 t139 t141 t147 t149 t151 t155 bt159.1 true)))) = some r := H
          have A11 := Aside0.mk A110
          clear A110
          replace H := Option.bind_eq_some_iff.mp H
          obtain ⟨⟨t159, t160⟩, A120, H⟩ := H
          replace H : ((tree_Root.f ([] : List (List Int))).bind fun bt163 => (if t148 = 0 then (if t150 = 0 then (if t152 = 0 then (if t156 = 0 then (if t160 = 0 then (slotmeshlaw35_head.j0 k y133 t137 t139 t141 t147 t149 t151 t155 t159 (bt163.2 != 1)) else (slotmeshlaw35_head.j0 k y133 t137 t139 t141 t147 t149 t151 t155 t159 true)) else (slotmeshlaw35_head.j0 k y133 t137 t139 t141 t147 t149 t151 t155 t159 true)) else (slotmeshlaw35_head.j0 k y133 t137 t139 t141 t147 t149 t151 t155 t159 true)) else (slotmeshlaw35_head.j0 k y133 t137 t139 t141 t147 t149 t151 t155 t159 true)) else (slotmeshlaw35_head.j0 k y133 t137 t139 t141 t147 t149 t151 t155 t159 true))) = some r := H
          have A12 := Aside0.mk A120
          clear A120
          replace H := Option.bind_eq_some_iff.mp H
          obtain ⟨⟨t163, t164⟩, A130, H⟩ := H
          replace H : (if t148 = 0 then (if t150 = 0 then (if t152 = 0 then (if t156 = 0 then (if t160 = 0 then (slotmeshlaw35_head.j0 k y133 t137 t139 t141 t147 t149 t151 t155 t159 (t164 != 1)) else (slotmeshlaw35_head.j0 k y133 t137 t139 t141 t147 t149 t151 t155 t159 true)) else (slotmeshlaw35_head.j0 k y133 t137 t139 t141 t147 t149 t151 t155 t159 true)) else (slotmeshlaw35_head.j0 k y133 t137 t139 t141 t147 t149 t151 t155 t159 true)) else (slotmeshlaw35_head.j0 k y133 t137 t139 t141 t147 t149 t151 t155 t159 true)) else (slotmeshlaw35_head.j0 k y133 t137 t139 t141 t147 t149 t151 t155 t159 true)) = some r := H
          have A13 := Aside0.mk A130
          clear A130
          have HC14 := Aside0.mk H
          clear H
          go_enter Try.func24, Try.ntmps24
          try go_wp2_with (first | ((with_reducible refine gate_dst (N := 18) rfl ?_); (try (refine gate_guard (by rfl) ?_; dsimp only)); refine Kd.R_lit (Kd.int .u8) _ 5 ?hg (N := 18) ?hd (xs := ([1] : List Int)) (inner := [.int .u8 1]) (ok := fun _ => True) (okp := fun _ => True) ?hr ?hp (fun _ hk => hk) trivial (Below.refl _ _) (Nat.le_refl _) (by simp) ?_; (case hd => rfl); (case hg => rfl); (case hr => first | (go_simp; done) | (go_simp; rfl)); (case hp => exact (Reps.one (show Kd.M (Kd.int .u8) _ _ _ 1 [.int .u8 1] from rfl) (Reps.none _ _))); intro v128 w15 ho16 hb hg_ hnew_; clear hg_ hnew_; (first | rw [← Ny127.out] at ho16 | (simp only [Int.reduceToNat] at ho16; rw [← Ny127.out] at ho16)); have n0_ := Aside0.mk (Kd.R_lower ho16 (below_size (by repeat (first | (with_reducible first | exact HB.out | apply below_alloc | apply pw_below_drewN | apply below_drew1) | exact HB.out)))); have n1_ := Aside0.mk (below_step (by repeat (first | (with_reducible first | exact HB.out | apply below_alloc | apply pw_below_drewN | apply below_drew1) | exact HB.out)) hb); clear HB; have HO129 := n0_; have HB := n1_; clear n0_ n1_; clear hb ho16) | ((with_reducible refine gate_dst (N := 19) rfl ?_); (try (refine gate_guard (by rfl) ?_; dsimp only)); refine Kd.R_lit (Kd.int .u8) _ 5 ?hg (N := 19) ?hd (xs := ([2, 3] : List Int)) (inner := [.int .u8 2, .int .u8 3]) (ok := fun _ => True) (okp := fun _ => True) ?hr ?hp (fun _ hk => hk) trivial (Below.refl _ _) (Nat.le_refl _) (by simp) ?_; (case hd => rfl); (case hg => rfl); (case hr => first | (go_simp; done) | (go_simp; rfl)); (case hp => exact (Reps.one (show Kd.M (Kd.int .u8) _ _ _ 2 [.int .u8 2] from rfl) (Reps.one (show Kd.M (Kd.int .u8) _ _ _ 3 [.int .u8 3] from rfl) (Reps.none _ _)))); intro v131 w17 ho18 hb hg_ hnew_; clear hg_ hnew_; (first | rw [← Ny130.out] at ho18 | (simp only [Int.reduceToNat] at ho18; rw [← Ny130.out] at ho18)); have n0_ := Aside0.mk (Kd.R_elder' (by (with_reducible repeat (first | apply Kd.R_alloc | apply Kd.R_drewN | apply Kd.R_drew)); exact HO129.out) (Kd.R_base ho18) hb); have n1_ := Aside0.mk (Kd.R_lower (Kd.R_new' ho18 (Kd.R_lt (by (with_reducible repeat (first | apply Kd.R_alloc | apply Kd.R_drewN | apply Kd.R_drew)); exact HO129.out))) (below_size (by repeat (first | (with_reducible first | exact HB.out | apply below_alloc | apply pw_below_drewN | apply below_drew1) | exact HB.out)))); have n2_ := Aside0.mk (below_step (by repeat (first | (with_reducible first | exact HB.out | apply below_alloc | apply pw_below_drewN | apply below_drew1) | exact HB.out)) hb); clear HO129; clear HB; have HO129 := n0_; have HO132 := n1_; have HB := n2_; clear n0_ n1_ n2_; clear hb ho18; obtain ⟨Ao19, co19, eo19⟩ := Kd.R_slice HO129.out; subst eo19; obtain ⟨Ao20, co20, eo20⟩ := Kd.R_slice HO132.out; subst eo20) | ((with_reducible refine gate_dst (N := 20) rfl ?_); (try (refine gate_guard (by rfl) ?_; dsimp only)); refine Kd.N_lit (Kd.slice 5 (Kd.int .u8)) _ 22 ?hg (N' := 20) ?hd (xs := ([y127, y130, []] : List (List Int))) (inner := [.slice Ao19 y127.length co19, .slice Ao20 y130.length co20, .slice none 0 0]) (ok := (fun _ => True)) (okp := (fun _ => True)) ?hr ?hp (fun _ hk => hk) ((show ∀ k_, w17.heap.size ≤ k_ → (fun _ => True) k_ from fun k_ hk => trivial) _ (Nat.le_refl _)) (Below.refl _ _) (Nat.le_refl _) (by simp) ?_; (case hd => rfl); (case hg => rfl); (case hr => first | (go_simp; done) | (go_simp; rfl)); (case hp => exact (Reps.one (show Kd.FK (Kd.slice 5 (Kd.int .u8)) _ _ y127 [.slice Ao19 y127.length co19] from (Kd.FK_slice_mk (Kd.R_reads' (Kd.R_mono (ok' := (fun _ => True)) (HO129.out) (fun k_ hk => trivial))).2.1 (Kd.R_F (Kd.R_mono (ok' := (fun _ => True)) (HO129.out) (fun k_ hk => trivial))))) (Reps.one (show Kd.FK (Kd.slice 5 (Kd.int .u8)) _ _ y130 [.slice Ao20 y130.length co20] from (Kd.FK_slice_mk (Kd.R_reads' (Kd.R_mono (ok' := (fun _ => True)) (HO132.out) (fun k_ hk => trivial))).2.1 (Kd.R_F (Kd.R_mono (ok' := (fun _ => True)) (HO132.out) (fun k_ hk => trivial))))) (Reps.one (show Kd.FK (Kd.slice 5 (Kd.int .u8)) _ _ [] [.slice none 0 0] from (Kd.FK_slice_mk (Nat.le_refl _) (Kd.F_nil _ _ _))) (Reps.none _ _))))); intro v134 w21 ho22 hb hg_ hnew_; clear hg_ hnew_; (first | rw [← Ny133.out] at ho22 | (simp only [Int.reduceToNat] at ho22; rw [← Ny133.out] at ho22)); have n0_ := Aside0.mk (Kd.N_lower ho22 (below_size (by repeat (first | (with_reducible first | exact HB.out | apply below_alloc | apply pw_below_drewN | apply below_drew1) | exact HB.out)))); have n1_ := Aside0.mk (below_step (by repeat (first | (with_reducible first | exact HB.out | apply below_alloc | apply pw_below_drewN | apply below_drew1) | exact HB.out)) hb); clear HB; clear HO129; clear HO132; have HO135 := n0_; have HB := n1_; clear n0_ n1_; clear hb ho22))
          have n0_ := Aside0.mk (Kd.N_drew HO135.out)
          have n1_ := Aside0.mk (below_drew1 HB.out)
          clear HO135
          clear HB
          have HO135 := n0_
          have HB := n1_
          clear n0_ n1_
          obtain ⟨Ao24, co24, eo24⟩ := Kd.N_slice HO135.out
          (first | subst eo24 | (injection eo24 with f1_ f2_ f3_; have f4_ := f1_.symm; have f5_ := f3_.symm; clear f1_ f2_ f3_; subst f4_; subst f5_))
          have p136 : 0 ≤ (0 : Int) := (by omega)
          have q136 : 0 < (y133.length : Int) := of_decide_eq_true (by first | (with_reducible assumption) | assumption)
          obtain ⟨ad136, A136_0, c136_0, e136, hx136_0, hl136_0, hi136_0⟩ := at_L1 (Kd.N_reads' HO135.out).2.2 0 p136 q136
          cases e136
          obtain ⟨ce136, hce136, hMe136, hcc136⟩ := Kd.N_get HO135.out [] 0 p136 (by first | exact q136 | exact of_decide_eq_true (by first | (with_reducible assumption) | assumption) | (have e_ := (Kd.N_reads' HO135.out).1; omega))
          obtain ⟨ua136_0, uc136_0, rfl, ul136_0, ge136_0⟩ := Kd.FK_slice_open hMe136
          have hv136_0 := hcc136 0 _ rfl
          rw [Nat.add_zero, show ((Kd.slice 5 (Kd.int .u8))).sz = 1 from rfl, Nat.mul_one] at hv136_0
          replace hv136_0 := Option.some.inj (hv136_0.symm.trans hx136_0)
          injection hv136_0 with hva_ hvn_ hvc_
          rw [hva_] at ge136_0
          rw [hvc_] at ul136_0
          have HL136_0 := Aside0.mk (show Kd.V (Kd.int .u8) 5 _ w.heap.size _ _ (rd_L1 y133 0) from Kd.V_mk ul136_0 ge136_0)
          clear hva_ hvn_ hvc_ ge136_0 ul136_0
          clear hcc136 hce136
          have qi136 : (0 < y133.length) = True := eq_true (by omega)
          (try rw [show ((0 : Int)).toNat = 0 from rfl] at hx136_0)
          (try rw [Addr.add_zero'] at hx136_0)
          have HR136_0 := Aside0.mk hi136_0
          have HC136_0 := Aside0.mk hl136_0
          clear hi136_0 hl136_0
          replace p136 := eq_true p136
          replace q136 := eq_true q136
          have p138 : 0 ≤ (1 : Int) := (by omega)
          have q138 : 1 < (y133.length : Int) := of_decide_eq_true (by first | (with_reducible assumption) | assumption)
          obtain ⟨ad138, A138_0, c138_0, e138, hx138_0, hl138_0, hi138_0⟩ := at_L1 (Kd.N_reads' HO135.out).2.2 1 p138 q138
          obtain rfl : ad136 = ad138 := (by injection e138)
          obtain ⟨ce138, hce138, hMe138, hcc138⟩ := Kd.N_get HO135.out [] 1 p138 (by first | exact q138 | exact of_decide_eq_true (by first | (with_reducible assumption) | assumption) | (have e_ := (Kd.N_reads' HO135.out).1; omega))
          obtain ⟨ua138_0, uc138_0, rfl, ul138_0, ge138_0⟩ := Kd.FK_slice_open hMe138
          have hv138_0 := hcc138 0 _ rfl
          rw [Nat.add_zero, show ((Kd.slice 5 (Kd.int .u8))).sz = 1 from rfl, Nat.mul_one] at hv138_0
          replace hv138_0 := Option.some.inj (hv138_0.symm.trans hx138_0)
          injection hv138_0 with hva_ hvn_ hvc_
          rw [hva_] at ge138_0
          rw [hvc_] at ul138_0
          have HL138_0 := Aside0.mk (show Kd.V (Kd.int .u8) 5 _ w.heap.size _ _ (rd_L1 y133 1) from Kd.V_mk ul138_0 ge138_0)
          clear hva_ hvn_ hvc_ ge138_0 ul138_0
          clear hcc138 hce138
          (try simp only [show (1 : Int).toNat = 1 from rfl, Nat.reduceMul, Nat.reduceEqDiff, Go.Addr.add, ↓reduceIte] at hx138_0)
          have qi138 : (1 < y133.length) = True := eq_true (by omega)
          (try rw [show ((1 : Int)).toNat = 1 from rfl] at hx138_0)
          have HR138_0 := Aside0.mk hi138_0
          have HC138_0 := Aside0.mk hl138_0
          clear hi138_0 hl138_0
          replace p138 := eq_true p138
          replace q138 := eq_true q138
          have p140 : 0 ≤ (2 : Int) := (by omega)
          have q140 : 2 < (y133.length : Int) := of_decide_eq_true (by first | (with_reducible assumption) | assumption)
          obtain ⟨ad140, A140_0, c140_0, e140, hx140_0, hl140_0, hi140_0⟩ := at_L1 (Kd.N_reads' HO135.out).2.2 2 p140 q140
          obtain rfl : ad136 = ad140 := (by injection e140)
          obtain ⟨ce140, hce140, hMe140, hcc140⟩ := Kd.N_get HO135.out [] 2 p140 (by first | exact q140 | exact of_decide_eq_true (by first | (with_reducible assumption) | assumption) | (have e_ := (Kd.N_reads' HO135.out).1; omega))
          obtain ⟨ua140_0, uc140_0, rfl, ul140_0, ge140_0⟩ := Kd.FK_slice_open hMe140
          have hv140_0 := hcc140 0 _ rfl
          rw [Nat.add_zero, show ((Kd.slice 5 (Kd.int .u8))).sz = 1 from rfl, Nat.mul_one] at hv140_0
          replace hv140_0 := Option.some.inj (hv140_0.symm.trans hx140_0)
          injection hv140_0 with hva_ hvn_ hvc_
          rw [hva_] at ge140_0
          rw [hvc_] at ul140_0
          have HL140_0 := Aside0.mk (show Kd.V (Kd.int .u8) 5 _ w.heap.size _ _ (rd_L1 y133 2) from Kd.V_mk ul140_0 ge140_0)
          clear hva_ hvn_ hvc_ ge140_0 ul140_0
          clear hcc140 hce140
          (try simp only [show (2 : Int).toNat = 2 from rfl, Nat.reduceMul, Nat.reduceEqDiff, Go.Addr.add, ↓reduceIte] at hx140_0)
          have qi140 : (2 < y133.length) = True := eq_true (by omega)
          (try rw [show ((2 : Int)).toNat = 2 from rfl] at hx140_0)
          have HR140_0 := Aside0.mk hi140_0
          have HC140_0 := Aside0.mk hl140_0
          clear hi140_0 hl140_0
          replace p140 := eq_true p140
          replace q140 := eq_true q140
          refine start_ (n := 15) (S := fun w' => w'.cell? ad136 = some (.slice A136_0 (rd_L1 y133 0).length c136_0) ∧ w'.cell? ⟨ad136.block, ad136.off + 1, none⟩ = some (.slice A138_0 (rd_L1 y133 1).length c138_0) ∧ w'.cell? ⟨ad136.block, ad136.off + 2, none⟩ = some (.slice A140_0 (rd_L1 y133 2).length c140_0)) (ds := []) #[false, false, false, false, false, false, false, false, false, false, false, false, false, false, false] (by kernel_rfl) rfl rfl ⟨hx136_0, hx138_0, hx140_0⟩ (fun hHeld => ?_); refine with_tabW slotmeshlaw35_head.tab2 slotmeshlaw35_head.bits2 (fun HT_ HW_ => ?_)
          generalize w21.drew = w23 at HO135 HB HL136_0 HL138_0 HL140_0 HR136_0 HR138_0 HR140_0 hx136_0 hx138_0 hx140_0 hHeld ⊢
          refine pure_ (i := 0) (N := some 21) (v := ?_) (a' := ?_) #[true, false, false, false, false, false, false, false, false, false, false, false, false, false, false] rfl rfl (any_of HT_.out (by kernel_rfl)) (fun _ _ _ h => h) (Or.inl ⟨by rfl, ?_⟩) ?_ ?_
          rotate_left
          · intro w'
            go_simp
            with_reducible rfl
          rotate_left
          · simp only [Act.put, List.setIfInBounds_toArray, List.set_cons_zero, List.set_cons_succ, i64_w, i32_w]
            rfl
          refine pure_ (i := 1) (N := some 22) (v := ?_) (a' := ?_) #[true, true, false, false, false, false, false, false, false, false, false, false, false, false, false] rfl rfl (any_of HT_.out (by kernel_rfl)) (fun _ _ _ h => h) (Or.inl ⟨by rfl, ?_⟩) ?_ ?_
          rotate_left
          · intro w'
            go_simp
            with_reducible rfl
          rotate_left
          · simp only [Act.put, List.setIfInBounds_toArray, List.set_cons_zero, List.set_cons_succ, i64_w, i32_w]
            rfl
          refine pure_ (i := 4) (N := some 25) (v := ?_) (a' := ?_) #[true, true, false, false, true, false, false, false, false, false, false, false, false, false, false] rfl rfl (any_of HT_.out (by kernel_rfl)) (fun _ _ _ h => h) (Or.inl ⟨by rfl, ?_⟩) ?_ ?_
          rotate_left
          · intro w'
            go_simp
            with_reducible rfl
          rotate_left
          · simp only [Act.put, List.setIfInBounds_toArray, List.set_cons_zero, List.set_cons_succ, i64_w, i32_w]
            rfl
          refine pure_ (i := 5) (N := some 26) (v := ?_) (a' := ?_) #[true, true, false, false, true, true, false, false, false, false, false, false, false, false, false] rfl rfl (any_of HT_.out (by kernel_rfl)) (fun _ _ _ h => h) (Or.inl ⟨by rfl, ?_⟩) ?_ ?_
          rotate_left
          · intro w'
            go_simp
            with_reducible rfl
          rotate_left
          · simp only [Act.put, List.setIfInBounds_toArray, List.set_cons_zero, List.set_cons_succ, i64_w, i32_w]
            rfl
          refine pure_ (i := 8) (N := some 29) (v := ?_) (a' := ?_) #[true, true, false, false, true, true, false, false, true, false, false, false, false, false, false] rfl rfl (any_of HT_.out (by kernel_rfl)) (fun _ _ _ h => h) (Or.inl ⟨by rfl, ?_⟩) ?_ ?_
          rotate_left
          · intro w'
            go_simp
            with_reducible rfl
          rotate_left
          · simp only [Act.put, List.setIfInBounds_toArray, List.set_cons_zero, List.set_cons_succ, i64_w, i32_w]
            rfl
          refine pure_ (i := 9) (N := some 30) (v := ?_) (a' := ?_) #[true, true, false, false, true, true, false, false, true, true, false, false, false, false, false] rfl rfl (any_of HT_.out (by kernel_rfl)) (fun _ _ _ h => h) (Or.inl ⟨by rfl, ?_⟩) ?_ ?_
          rotate_left
          · intro w'
            go_simp
            with_reducible rfl
          rotate_left
          · simp only [Act.put, List.setIfInBounds_toArray, List.set_cons_zero, List.set_cons_succ, i64_w, i32_w]
            rfl
          refine take_ (i := 2) (N := some 23) (v := ?_) (a' := ?_) #[true, true, true, false, true, true, false, false, true, true, false, false, false, false, false] rfl rfl (take_ofW HT_.out HW_.out (by kernel_rfl)) (fun _ _ _ h => h) (Or.inl ⟨by rfl, ?_⟩) hHeld ?_ ?_
          rotate_left
          · rintro w' ⟨s0, s1, s2⟩
            go_simp
            with_reducible rfl
          rotate_left
          · simp only [Act.put, List.setIfInBounds_toArray, List.set_cons_zero, List.set_cons_succ, i64_w, i32_w]
            rfl
          refine take_ (i := 6) (N := some 27) (v := ?_) (a' := ?_) #[true, true, true, false, true, true, true, false, true, true, false, false, false, false, false] rfl rfl (take_ofW HT_.out HW_.out (by kernel_rfl)) (fun _ _ _ h => h) (Or.inl ⟨by rfl, ?_⟩) hHeld ?_ ?_
          rotate_left
          · rintro w' ⟨s0, s1, s2⟩
            go_simp
            with_reducible rfl
          rotate_left
          · simp only [Act.put, List.setIfInBounds_toArray, List.set_cons_zero, List.set_cons_succ, i64_w, i32_w]
            rfl
          refine take_ (i := 10) (N := some 31) (v := ?_) (a' := ?_) #[true, true, true, false, true, true, true, false, true, true, true, false, false, false, false] rfl rfl (take_ofW HT_.out HW_.out (by kernel_rfl)) (fun _ _ _ h => h) (Or.inl ⟨by rfl, ?_⟩) hHeld ?_ ?_
          rotate_left
          · rintro w' ⟨s0, s1, s2⟩
            go_simp
            with_reducible rfl
          rotate_left
          · simp only [Act.put, List.setIfInBounds_toArray, List.set_cons_zero, List.set_cons_succ, i64_w, i32_w]
            rfl
          refine one_ (i := 3) (N := some 24) #[true, true, true, true, true, true, true, false, true, true, true, false, false, false, false] rfl rfl (one_of HT_.out (by kernel_rfl)) (by decide) (fun K hK => ?_)
          refine goes_ Try.func29 (by kernel_rfl) rfl #[.slice A136_0 (rd_L1 y133 0).length c136_0] (by rfl) rfl rfl (by (try simp only [List.map_toArray, List.map_cons, List.map_nil]); first | done | rfl | (simp only [List.length_drop, List.length_take]; rfl)) ?_
          with_reducible refine (slotmeshlaw35_leaf.calls _ _ (rd_L1 y133 0) t137 _ ?side1 ?side2 A2.out).mono ?_
          (case side1 => repeat (first | exact (by repeat (first | (with_reducible exact HR136_0.out) | (with_reducible refine Kd.C_alloc ?_ _) | (with_reducible refine Kd.C_drewN ?_ _) | (with_reducible refine Kd.C_drew ?_) | exact HR136_0.out)) | (with_reducible refine Kd.C_alloc ?_ _) | (with_reducible refine Kd.C_drewN ?_ _) | (with_reducible refine Kd.C_drew ?_)))
          (case side2 => exact HC136_0.out)
          rintro e w25 ⟨rfl, hb⟩
          have HS0_ := (hb.cell (World.block_lt_of_cell? _ _ (hHeld.1))).trans (hHeld.1)
          have HS1_ := (hb.cell (World.block_lt_of_cell? _ _ (hHeld.2.1))).trans (hHeld.2.1)
          have HS2_ := (hb.cell (World.block_lt_of_cell? _ _ (hHeld.2.2))).trans (hHeld.2.2)
          refine ⟨_, rfl, ?_⟩
          have n0_ := Aside0.mk (Kd.N_below (by (with_reducible repeat (first | apply Kd.N_alloc | apply Kd.N_drewN | apply Kd.N_drew)); exact HO135.out) hb)
          have n1_ := Aside0.mk (Kd.V_below (by (with_reducible repeat (first | apply Kd.V_alloc | apply Kd.V_drewN | apply Kd.V_drew)); exact HL136_0.out) hb)
          have n2_ := Aside0.mk (Kd.V_below (by (with_reducible repeat (first | apply Kd.V_alloc | apply Kd.V_drewN | apply Kd.V_drew)); exact HL138_0.out) hb)
          have n3_ := Aside0.mk (Kd.V_below (by (with_reducible repeat (first | apply Kd.V_alloc | apply Kd.V_drewN | apply Kd.V_drew)); exact HL140_0.out) hb)
          have n4_ := Aside0.mk (Kd.C_below (by repeat (first | (with_reducible exact HR136_0.out) | (with_reducible refine Kd.C_alloc ?_ _) | (with_reducible refine Kd.C_drewN ?_ _) | (with_reducible refine Kd.C_drew ?_) | exact HR136_0.out)) hb)
          have n5_ := Aside0.mk (Kd.C_below (by repeat (first | (with_reducible exact HR138_0.out) | (with_reducible refine Kd.C_alloc ?_ _) | (with_reducible refine Kd.C_drewN ?_ _) | (with_reducible refine Kd.C_drew ?_) | exact HR138_0.out)) hb)
          have n6_ := Aside0.mk (Kd.C_below (by repeat (first | (with_reducible exact HR140_0.out) | (with_reducible refine Kd.C_alloc ?_ _) | (with_reducible refine Kd.C_drewN ?_ _) | (with_reducible refine Kd.C_drew ?_) | exact HR140_0.out)) hb)
          have n7_ := Aside0.mk (below_step (by repeat (first | (with_reducible first | exact HB.out | apply below_alloc | apply pw_below_drewN | apply below_drew1) | exact HB.out)) hb)
          clear HO135
          clear HL136_0
          clear HL138_0
          clear HL140_0
          clear HR136_0
          clear HR138_0
          clear HR140_0
          clear HB
          have HO135 := n0_
          have HL136_0 := n1_
          have HL138_0 := n2_
          have HL140_0 := n3_
          have HR136_0 := n4_
          have HR138_0 := n5_
          have HR140_0 := n6_
          have HB := n7_
          clear n0_ n1_ n2_ n3_ n4_ n5_ n6_ n7_
          (try clear hb)
          (try clear hb2)
          (try clear hk)
          (try clear hi)
          refine hK.out _ _ ⟨HS0_, HS1_, HS2_⟩ (fun hHeld => ?_)
          clear hK K
          refine norm_ (a' := ?_) ?_ ?_
          rotate_left
          · show Act.put _ (some 24) _ = _
            simp only [Act.put, List.setIfInBounds_toArray, List.set_cons_zero, List.set_cons_succ, i64_w, i32_w]
            rfl
          refine one_ (i := 7) (N := some 28) #[true, true, true, true, true, true, true, true, true, true, true, false, false, false, false] rfl rfl (one_of HT_.out (by kernel_rfl)) (by decide) (fun K hK => ?_)
          refine goes_ Try.func29 (by kernel_rfl) rfl #[.slice A138_0 (rd_L1 y133 1).length c138_0] (by rfl) rfl rfl (by (try simp only [List.map_toArray, List.map_cons, List.map_nil]); first | done | rfl | (simp only [List.length_drop, List.length_take]; rfl)) ?_
          with_reducible refine (slotmeshlaw35_leaf.calls _ _ (rd_L1 y133 1) t139 _ ?side1 ?side2 A4.out).mono ?_
          (case side1 => repeat (first | exact (by repeat (first | (with_reducible exact HR138_0.out) | (with_reducible refine Kd.C_alloc ?_ _) | (with_reducible refine Kd.C_drewN ?_ _) | (with_reducible refine Kd.C_drew ?_) | exact HR138_0.out)) | (with_reducible refine Kd.C_alloc ?_ _) | (with_reducible refine Kd.C_drewN ?_ _) | (with_reducible refine Kd.C_drew ?_)))
          (case side2 => exact HC138_0.out)
          rintro e w26 ⟨rfl, hb⟩
          have HS0_ := (hb.cell (World.block_lt_of_cell? _ _ (hHeld.1))).trans (hHeld.1)
          have HS1_ := (hb.cell (World.block_lt_of_cell? _ _ (hHeld.2.1))).trans (hHeld.2.1)
          have HS2_ := (hb.cell (World.block_lt_of_cell? _ _ (hHeld.2.2))).trans (hHeld.2.2)
          refine ⟨_, rfl, ?_⟩
          have n0_ := Aside0.mk (Kd.N_below (by (with_reducible repeat (first | apply Kd.N_alloc | apply Kd.N_drewN | apply Kd.N_drew)); exact HO135.out) hb)
          have n1_ := Aside0.mk (Kd.V_below (by (with_reducible repeat (first | apply Kd.V_alloc | apply Kd.V_drewN | apply Kd.V_drew)); exact HL136_0.out) hb)
          have n2_ := Aside0.mk (Kd.V_below (by (with_reducible repeat (first | apply Kd.V_alloc | apply Kd.V_drewN | apply Kd.V_drew)); exact HL138_0.out) hb)
          have n3_ := Aside0.mk (Kd.V_below (by (with_reducible repeat (first | apply Kd.V_alloc | apply Kd.V_drewN | apply Kd.V_drew)); exact HL140_0.out) hb)
          have n4_ := Aside0.mk (Kd.C_below (by repeat (first | (with_reducible exact HR136_0.out) | (with_reducible refine Kd.C_alloc ?_ _) | (with_reducible refine Kd.C_drewN ?_ _) | (with_reducible refine Kd.C_drew ?_) | exact HR136_0.out)) hb)
          have n5_ := Aside0.mk (Kd.C_below (by repeat (first | (with_reducible exact HR138_0.out) | (with_reducible refine Kd.C_alloc ?_ _) | (with_reducible refine Kd.C_drewN ?_ _) | (with_reducible refine Kd.C_drew ?_) | exact HR138_0.out)) hb)
          have n6_ := Aside0.mk (Kd.C_below (by repeat (first | (with_reducible exact HR140_0.out) | (with_reducible refine Kd.C_alloc ?_ _) | (with_reducible refine Kd.C_drewN ?_ _) | (with_reducible refine Kd.C_drew ?_) | exact HR140_0.out)) hb)
          have n7_ := Aside0.mk (below_step (by repeat (first | (with_reducible first | exact HB.out | apply below_alloc | apply pw_below_drewN | apply below_drew1) | exact HB.out)) hb)
          clear HO135
          clear HL136_0
          clear HL138_0
          clear HL140_0
          clear HR136_0
          clear HR138_0
          clear HR140_0
          clear HB
          have HO135 := n0_
          have HL136_0 := n1_
          have HL138_0 := n2_
          have HL140_0 := n3_
          have HR136_0 := n4_
          have HR138_0 := n5_
          have HR140_0 := n6_
          have HB := n7_
          clear n0_ n1_ n2_ n3_ n4_ n5_ n6_ n7_
          (try clear hb)
          (try clear hb2)
          (try clear hk)
          (try clear hi)
          refine hK.out _ _ ⟨HS0_, HS1_, HS2_⟩ (fun hHeld => ?_)
          clear hK K
          refine norm_ (a' := ?_) ?_ ?_
          rotate_left
          · show Act.put _ (some 28) _ = _
            simp only [Act.put, List.setIfInBounds_toArray, List.set_cons_zero, List.set_cons_succ, i64_w, i32_w]
            rfl
          refine one_ (i := 11) (N := some 32) #[true, true, true, true, true, true, true, true, true, true, true, true, false, false, false] rfl rfl (one_of HT_.out (by kernel_rfl)) (by decide) (fun K hK => ?_)
          refine goes_ Try.func29 (by kernel_rfl) rfl #[.slice A140_0 (rd_L1 y133 2).length c140_0] (by rfl) rfl rfl (by (try simp only [List.map_toArray, List.map_cons, List.map_nil]); first | done | rfl | (simp only [List.length_drop, List.length_take]; rfl)) ?_
          with_reducible refine (slotmeshlaw35_leaf.calls _ _ (rd_L1 y133 2) t141 _ ?side1 ?side2 A6.out).mono ?_
          (case side1 => repeat (first | exact (by repeat (first | (with_reducible exact HR140_0.out) | (with_reducible refine Kd.C_alloc ?_ _) | (with_reducible refine Kd.C_drewN ?_ _) | (with_reducible refine Kd.C_drew ?_) | exact HR140_0.out)) | (with_reducible refine Kd.C_alloc ?_ _) | (with_reducible refine Kd.C_drewN ?_ _) | (with_reducible refine Kd.C_drew ?_)))
          (case side2 => exact HC140_0.out)
          rintro e w27 ⟨rfl, hb⟩
          have HS0_ := (hb.cell (World.block_lt_of_cell? _ _ (hHeld.1))).trans (hHeld.1)
          have HS1_ := (hb.cell (World.block_lt_of_cell? _ _ (hHeld.2.1))).trans (hHeld.2.1)
          have HS2_ := (hb.cell (World.block_lt_of_cell? _ _ (hHeld.2.2))).trans (hHeld.2.2)
          refine ⟨_, rfl, ?_⟩
          have n0_ := Aside0.mk (Kd.N_below (by (with_reducible repeat (first | apply Kd.N_alloc | apply Kd.N_drewN | apply Kd.N_drew)); exact HO135.out) hb)
          have n1_ := Aside0.mk (Kd.V_below (by (with_reducible repeat (first | apply Kd.V_alloc | apply Kd.V_drewN | apply Kd.V_drew)); exact HL136_0.out) hb)
          have n2_ := Aside0.mk (Kd.V_below (by (with_reducible repeat (first | apply Kd.V_alloc | apply Kd.V_drewN | apply Kd.V_drew)); exact HL138_0.out) hb)
          have n3_ := Aside0.mk (Kd.V_below (by (with_reducible repeat (first | apply Kd.V_alloc | apply Kd.V_drewN | apply Kd.V_drew)); exact HL140_0.out) hb)
          have n4_ := Aside0.mk (Kd.C_below (by repeat (first | (with_reducible exact HR136_0.out) | (with_reducible refine Kd.C_alloc ?_ _) | (with_reducible refine Kd.C_drewN ?_ _) | (with_reducible refine Kd.C_drew ?_) | exact HR136_0.out)) hb)
          have n5_ := Aside0.mk (Kd.C_below (by repeat (first | (with_reducible exact HR138_0.out) | (with_reducible refine Kd.C_alloc ?_ _) | (with_reducible refine Kd.C_drewN ?_ _) | (with_reducible refine Kd.C_drew ?_) | exact HR138_0.out)) hb)
          have n6_ := Aside0.mk (Kd.C_below (by repeat (first | (with_reducible exact HR140_0.out) | (with_reducible refine Kd.C_alloc ?_ _) | (with_reducible refine Kd.C_drewN ?_ _) | (with_reducible refine Kd.C_drew ?_) | exact HR140_0.out)) hb)
          have n7_ := Aside0.mk (below_step (by repeat (first | (with_reducible first | exact HB.out | apply below_alloc | apply pw_below_drewN | apply below_drew1) | exact HB.out)) hb)
          clear HO135
          clear HL136_0
          clear HL138_0
          clear HL140_0
          clear HR136_0
          clear HR138_0
          clear HR140_0
          clear HB
          have HO135 := n0_
          have HL136_0 := n1_
          have HL138_0 := n2_
          have HL140_0 := n3_
          have HR136_0 := n4_
          have HR138_0 := n5_
          have HR140_0 := n6_
          have HB := n7_
          clear n0_ n1_ n2_ n3_ n4_ n5_ n6_ n7_
          (try clear hb)
          (try clear hb2)
          (try clear hk)
          (try clear hi)
          refine hK.out _ _ ⟨HS0_, HS1_, HS2_⟩ (fun hHeld => ?_)
          clear hK K
          refine norm_ (a' := ?_) ?_ ?_
          rotate_left
          · show Act.put _ (some 32) _ = _
            simp only [Act.put, List.setIfInBounds_toArray, List.set_cons_zero, List.set_cons_succ, i64_w, i32_w]
            rfl
          refine pure_ (i := 12) (N := some 2) (v := ?_) (a' := ?_) #[true, true, true, true, true, true, true, true, true, true, true, true, true, false, false] rfl rfl (any_of HT_.out (by kernel_rfl)) (fun _ _ _ h => h) (Or.inl ⟨by rfl, ?_⟩) ?_ ?_
          rotate_left
          · intro w'
            go_simp
            with_reducible rfl
          rotate_left
          · simp only [Act.put, List.setIfInBounds_toArray, List.set_cons_zero, List.set_cons_succ, i64_w, i32_w]
            rfl
          refine pure_ (i := 13) (N := some 3) (v := ?_) (a' := ?_) #[true, true, true, true, true, true, true, true, true, true, true, true, true, true, false] rfl rfl (any_of HT_.out (by kernel_rfl)) (fun _ _ _ h => h) (Or.inl ⟨by rfl, ?_⟩) ?_ ?_
          rotate_left
          · intro w'
            go_simp
            with_reducible rfl
          rotate_left
          · simp only [Act.put, List.setIfInBounds_toArray, List.set_cons_zero, List.set_cons_succ, i64_w, i32_w]
            rfl
          refine pure_ (i := 14) (N := some 4) (v := ?_) (a' := ?_) #[true, true, true, true, true, true, true, true, true, true, true, true, true, true, true] rfl rfl (any_of HT_.out (by kernel_rfl)) (fun _ _ _ h => h) (Or.inl ⟨by rfl, ?_⟩) ?_ ?_
          rotate_left
          · intro w'
            go_simp
            with_reducible rfl
          rotate_left
          · simp only [Act.put, List.setIfInBounds_toArray, List.set_cons_zero, List.set_cons_succ, i64_w, i32_w]
            rfl
          refine done_ (done_of HT_.out (by kernel_rfl)) ?_
          have q28 : (1 : Int) ≤ ((y133.length : Int) : Int) := of_decide_eq_true (by first | (with_reducible assumption) | assumption)
          obtain ⟨i028, hi028, _, hsz28, _⟩ := info_parts info22
          have hroom28 : y133.length ≤ co24 := (Kd.N_reads' HO135.out).2.1
          have hC28 : Kd.F (Kd.slice 5 (Kd.int .u8)) _ _ (some ad136) y133.length y133 := (Kd.V_at (base := w.heap.size) (Kd.N_V HO135.out)).2.2
          have hcut28 := cut_to (P := Try.prog) 32 22 .i64 Try.underlying32 hi028 (some ad136) y133.length co24 1 (by omega) q28 hroom28
          have hr28 := Kd.F_take (m := 1) hC28 (by omega)
          have hy28 : y142.length = (1 : Int).toNat := (by rw [Ny142.out, List.length_take]; omega)
          rw [← Ny142.out] at hr28
          rw [← hy28] at hcut28
          have HO146 := Aside0.mk (show Kd.V (Kd.slice 5 (Kd.int .u8)) 22 _ w.heap.size _ (.slice (some ad136) y142.length co24) y142 from Kd.V_mk (by omega) hr28)
          have HC146 := Aside0.mk (show y142.length ≤ co24 from by omega)
          clear hr28 hC28 hroom28 hi028 hsz28
          have KY28 := Aside0.mk hy28
          clear hy28
          replace q28 := eq_true q28
          go_upto_region 9 with (first | ((with_reducible refine gate_callee (f := 28) rfl ?_); refine goesL_ (some 36) rfl rfl Try.func28 (by kernel_rfl) rfl #[.slice (some ad136) y142.length co24] rfl (by (try simp only [List.map_toArray, List.map_cons, List.map_nil]); first | done | rfl | (simp only [List.length_drop, List.length_take]; rfl)) ?_; (with_reducible refine (tree_Root.calls _ _ y142 t147 t148 _ ?side1 ?side2 A8.out).mono ?_); (case side1 => repeat (first | exact (Kd.V_reads' HO146.out).2.2 | (with_reducible refine Kd.C_alloc ?_ _) | (with_reducible refine Kd.C_drewN ?_ _) | (with_reducible refine Kd.C_drew ?_))); (case side2 => exact (Kd.V_reads' HO146.out).2.1); rintro e w29 ⟨rfl, hb⟩; refine ⟨_, rfl, ?_⟩; have n0_ := Aside0.mk (Kd.N_below (by (with_reducible repeat (first | apply Kd.N_alloc | apply Kd.N_drewN | apply Kd.N_drew)); exact HO135.out) hb); have n1_ := Aside0.mk (Kd.V_below (by (with_reducible repeat (first | apply Kd.V_alloc | apply Kd.V_drewN | apply Kd.V_drew)); exact HL136_0.out) hb); have n2_ := Aside0.mk (Kd.V_below (by (with_reducible repeat (first | apply Kd.V_alloc | apply Kd.V_drewN | apply Kd.V_drew)); exact HL138_0.out) hb); have n3_ := Aside0.mk (Kd.V_below (by (with_reducible repeat (first | apply Kd.V_alloc | apply Kd.V_drewN | apply Kd.V_drew)); exact HL140_0.out) hb); have n4_ := Aside0.mk (Kd.V_below (by (with_reducible repeat (first | apply Kd.V_alloc | apply Kd.V_drewN | apply Kd.V_drew)); exact HO146.out) hb); have n5_ := Aside0.mk (Kd.C_below (by repeat (first | (with_reducible exact HR136_0.out) | (with_reducible refine Kd.C_alloc ?_ _) | (with_reducible refine Kd.C_drewN ?_ _) | (with_reducible refine Kd.C_drew ?_) | exact HR136_0.out)) hb); have n6_ := Aside0.mk (Kd.C_below (by repeat (first | (with_reducible exact HR138_0.out) | (with_reducible refine Kd.C_alloc ?_ _) | (with_reducible refine Kd.C_drewN ?_ _) | (with_reducible refine Kd.C_drew ?_) | exact HR138_0.out)) hb); have n7_ := Aside0.mk (Kd.C_below (by repeat (first | (with_reducible exact HR140_0.out) | (with_reducible refine Kd.C_alloc ?_ _) | (with_reducible refine Kd.C_drewN ?_ _) | (with_reducible refine Kd.C_drew ?_) | exact HR140_0.out)) hb); have n8_ := Aside0.mk (below_step (by repeat (first | (with_reducible first | exact HB.out | apply below_alloc | apply pw_below_drewN | apply below_drew1) | exact HB.out)) hb); clear HO135; clear HL136_0; clear HL138_0; clear HL140_0; clear HO146; clear HR136_0; clear HR138_0; clear HR140_0; clear HB; have HO135 := n0_; have HL136_0 := n1_; have HL138_0 := n2_; have HL140_0 := n3_; have HO146 := n4_; have HR136_0 := n5_; have HR138_0 := n6_; have HR140_0 := n7_; have HB := n8_; clear n0_ n1_ n2_ n3_ n4_ n5_ n6_ n7_ n8_; (try clear hb); (try clear hb2); (try clear hk); (try clear hi)) | ((with_reducible refine gate_callee (f := 28) rfl ?_); refine goesL_ (some 41) rfl rfl Try.func28 (by kernel_rfl) rfl #[.slice (some ad136) y133.length co24] rfl (by (try simp only [List.map_toArray, List.map_cons, List.map_nil]); first | done | rfl | (simp only [List.length_drop, List.length_take]; rfl)) ?_; (with_reducible refine (tree_Root.calls _ _ y133 t149 t150 _ ?side1 ?side2 A9.out).mono ?_); (case side1 => repeat (first | exact (Kd.N_reads' HO135.out).2.2 | (with_reducible refine Kd.C_alloc ?_ _) | (with_reducible refine Kd.C_drewN ?_ _) | (with_reducible refine Kd.C_drew ?_))); (case side2 => exact (Kd.N_reads' HO135.out).2.1); rintro e w30 ⟨rfl, hb⟩; refine ⟨_, rfl, ?_⟩; have n0_ := Aside0.mk (Kd.N_below (by (with_reducible repeat (first | apply Kd.N_alloc | apply Kd.N_drewN | apply Kd.N_drew)); exact HO135.out) hb); have n1_ := Aside0.mk (Kd.V_below (by (with_reducible repeat (first | apply Kd.V_alloc | apply Kd.V_drewN | apply Kd.V_drew)); exact HL136_0.out) hb); have n2_ := Aside0.mk (Kd.V_below (by (with_reducible repeat (first | apply Kd.V_alloc | apply Kd.V_drewN | apply Kd.V_drew)); exact HL138_0.out) hb); have n3_ := Aside0.mk (Kd.V_below (by (with_reducible repeat (first | apply Kd.V_alloc | apply Kd.V_drewN | apply Kd.V_drew)); exact HL140_0.out) hb); have n4_ := Aside0.mk (Kd.V_below (by (with_reducible repeat (first | apply Kd.V_alloc | apply Kd.V_drewN | apply Kd.V_drew)); exact HO146.out) hb); have n5_ := Aside0.mk (Kd.C_below (by repeat (first | (with_reducible exact HR136_0.out) | (with_reducible refine Kd.C_alloc ?_ _) | (with_reducible refine Kd.C_drewN ?_ _) | (with_reducible refine Kd.C_drew ?_) | exact HR136_0.out)) hb); have n6_ := Aside0.mk (Kd.C_below (by repeat (first | (with_reducible exact HR138_0.out) | (with_reducible refine Kd.C_alloc ?_ _) | (with_reducible refine Kd.C_drewN ?_ _) | (with_reducible refine Kd.C_drew ?_) | exact HR138_0.out)) hb); have n7_ := Aside0.mk (Kd.C_below (by repeat (first | (with_reducible exact HR140_0.out) | (with_reducible refine Kd.C_alloc ?_ _) | (with_reducible refine Kd.C_drewN ?_ _) | (with_reducible refine Kd.C_drew ?_) | exact HR140_0.out)) hb); have n8_ := Aside0.mk (below_step (by repeat (first | (with_reducible first | exact HB.out | apply below_alloc | apply pw_below_drewN | apply below_drew1) | exact HB.out)) hb); clear HO135; clear HL136_0; clear HL138_0; clear HL140_0; clear HO146; clear HR136_0; clear HR138_0; clear HR140_0; clear HB; have HO135 := n0_; have HL136_0 := n1_; have HL138_0 := n2_; have HL140_0 := n3_; have HO146 := n4_; have HR136_0 := n5_; have HR138_0 := n6_; have HR140_0 := n7_; have HB := n8_; clear n0_ n1_ n2_ n3_ n4_ n5_ n6_ n7_ n8_; (try clear hb); (try clear hb2); (try clear hk); (try clear hi)) | ((with_reducible refine gate_callee (f := 32) rfl ?_); refine goesL_ (some 46) rfl rfl Try.func32 (by kernel_rfl) rfl #[.slice (some ad136) y133.length co24, .int .i64 0] rfl (by (try simp only [List.map_toArray, List.map_cons, List.map_nil]); first | done | rfl | (simp only [List.length_drop, List.length_take]; rfl)) ?_; (with_reducible refine (tree_Proof.calls _ _ y133 0 t151 t152 _ ?side1 ?side2 A10.out).mono ?_); (case side1 => repeat (first | exact (Kd.N_reads' HO135.out).2.2 | (with_reducible refine Kd.C_alloc ?_ _) | (with_reducible refine Kd.C_drewN ?_ _) | (with_reducible refine Kd.C_drew ?_))); (case side2 => exact (Kd.N_reads' HO135.out).2.1); rintro e w31 ⟨v153, rfl, ho0, hb⟩; refine ⟨_, rfl, ?_⟩; have n0_ := Aside0.mk (Kd.N_elder' (by (with_reducible repeat (first | apply Kd.N_alloc | apply Kd.N_drewN | apply Kd.N_drew)); exact HO135.out) (Kd.R_base ho0) hb); have n1_ := Aside0.mk (Kd.V_elder' (by (with_reducible repeat (first | apply Kd.V_alloc | apply Kd.V_drewN | apply Kd.V_drew)); exact HL136_0.out) (Kd.R_base ho0) hb); have n2_ := Aside0.mk (Kd.V_elder' (by (with_reducible repeat (first | apply Kd.V_alloc | apply Kd.V_drewN | apply Kd.V_drew)); exact HL138_0.out) (Kd.R_base ho0) hb); have n3_ := Aside0.mk (Kd.V_elder' (by (with_reducible repeat (first | apply Kd.V_alloc | apply Kd.V_drewN | apply Kd.V_drew)); exact HL140_0.out) (Kd.R_base ho0) hb); have n4_ := Aside0.mk (Kd.V_elder' (by (with_reducible repeat (first | apply Kd.V_alloc | apply Kd.V_drewN | apply Kd.V_drew)); exact HO146.out) (Kd.R_base ho0) hb); have n5_ := Aside0.mk (Kd.R_lower ho0 (below_size (by repeat (first | (with_reducible first | exact HB.out | apply below_alloc | apply pw_below_drewN | apply below_drew1) | exact HB.out)))); have n6_ := Aside0.mk (Kd.C_below (by repeat (first | (with_reducible exact HR136_0.out) | (with_reducible refine Kd.C_alloc ?_ _) | (with_reducible refine Kd.C_drewN ?_ _) | (with_reducible refine Kd.C_drew ?_) | exact HR136_0.out)) hb); have n7_ := Aside0.mk (Kd.C_below (by repeat (first | (with_reducible exact HR138_0.out) | (with_reducible refine Kd.C_alloc ?_ _) | (with_reducible refine Kd.C_drewN ?_ _) | (with_reducible refine Kd.C_drew ?_) | exact HR138_0.out)) hb); have n8_ := Aside0.mk (Kd.C_below (by repeat (first | (with_reducible exact HR140_0.out) | (with_reducible refine Kd.C_alloc ?_ _) | (with_reducible refine Kd.C_drewN ?_ _) | (with_reducible refine Kd.C_drew ?_) | exact HR140_0.out)) hb); have n9_ := Aside0.mk (below_step (by repeat (first | (with_reducible first | exact HB.out | apply below_alloc | apply pw_below_drewN | apply below_drew1) | exact HB.out)) hb); clear HO135; clear HL136_0; clear HL138_0; clear HL140_0; clear HO146; clear HR136_0; clear HR138_0; clear HR140_0; clear HB; have HO135 := n0_; have HL136_0 := n1_; have HL138_0 := n2_; have HL140_0 := n3_; have HO146 := n4_; have HO154 := n5_; have HR136_0 := n6_; have HR138_0 := n7_; have HR140_0 := n8_; have HB := n9_; clear n0_ n1_ n2_ n3_ n4_ n5_ n6_ n7_ n8_ n9_; (try clear hb); (try clear hb2); (try clear hk); (try clear hi); (try clear ho0)) | ((with_reducible refine gate_callee (f := 32) rfl ?_); refine goesL_ (some 51) rfl rfl Try.func32 (by kernel_rfl) rfl #[.slice (some ad136) y133.length co24, .int .i64 1] rfl (by (try simp only [List.map_toArray, List.map_cons, List.map_nil]); first | done | rfl | (simp only [List.length_drop, List.length_take]; rfl)) ?_; (with_reducible refine (tree_Proof.calls _ _ y133 1 t155 t156 _ ?side1 ?side2 A11.out).mono ?_); (case side1 => repeat (first | exact (Kd.N_reads' HO135.out).2.2 | (with_reducible refine Kd.C_alloc ?_ _) | (with_reducible refine Kd.C_drewN ?_ _) | (with_reducible refine Kd.C_drew ?_))); (case side2 => exact (Kd.N_reads' HO135.out).2.1); rintro e w32 ⟨v157, rfl, ho0, hb⟩; refine ⟨_, rfl, ?_⟩; have n0_ := Aside0.mk (Kd.N_elder' (by (with_reducible repeat (first | apply Kd.N_alloc | apply Kd.N_drewN | apply Kd.N_drew)); exact HO135.out) (Kd.R_base ho0) hb); have n1_ := Aside0.mk (Kd.V_elder' (by (with_reducible repeat (first | apply Kd.V_alloc | apply Kd.V_drewN | apply Kd.V_drew)); exact HL136_0.out) (Kd.R_base ho0) hb); have n2_ := Aside0.mk (Kd.V_elder' (by (with_reducible repeat (first | apply Kd.V_alloc | apply Kd.V_drewN | apply Kd.V_drew)); exact HL138_0.out) (Kd.R_base ho0) hb); have n3_ := Aside0.mk (Kd.V_elder' (by (with_reducible repeat (first | apply Kd.V_alloc | apply Kd.V_drewN | apply Kd.V_drew)); exact HL140_0.out) (Kd.R_base ho0) hb); have n4_ := Aside0.mk (Kd.V_elder' (by (with_reducible repeat (first | apply Kd.V_alloc | apply Kd.V_drewN | apply Kd.V_drew)); exact HO146.out) (Kd.R_base ho0) hb); have n5_ := Aside0.mk (Kd.R_elder' (by (with_reducible repeat (first | apply Kd.R_alloc | apply Kd.R_drewN | apply Kd.R_drew)); exact HO154.out) (Kd.R_base ho0) hb); have n6_ := Aside0.mk (Kd.R_lower (Kd.R_new' ho0 (Kd.R_lt (by (with_reducible repeat (first | apply Kd.R_alloc | apply Kd.R_drewN | apply Kd.R_drew)); exact HO154.out))) (below_size (by repeat (first | (with_reducible first | exact HB.out | apply below_alloc | apply pw_below_drewN | apply below_drew1) | exact HB.out)))); have n7_ := Aside0.mk (Kd.C_below (by repeat (first | (with_reducible exact HR136_0.out) | (with_reducible refine Kd.C_alloc ?_ _) | (with_reducible refine Kd.C_drewN ?_ _) | (with_reducible refine Kd.C_drew ?_) | exact HR136_0.out)) hb); have n8_ := Aside0.mk (Kd.C_below (by repeat (first | (with_reducible exact HR138_0.out) | (with_reducible refine Kd.C_alloc ?_ _) | (with_reducible refine Kd.C_drewN ?_ _) | (with_reducible refine Kd.C_drew ?_) | exact HR138_0.out)) hb); have n9_ := Aside0.mk (Kd.C_below (by repeat (first | (with_reducible exact HR140_0.out) | (with_reducible refine Kd.C_alloc ?_ _) | (with_reducible refine Kd.C_drewN ?_ _) | (with_reducible refine Kd.C_drew ?_) | exact HR140_0.out)) hb); have n10_ := Aside0.mk (below_step (by repeat (first | (with_reducible first | exact HB.out | apply below_alloc | apply pw_below_drewN | apply below_drew1) | exact HB.out)) hb); clear HO135; clear HL136_0; clear HL138_0; clear HL140_0; clear HO146; clear HO154; clear HR136_0; clear HR138_0; clear HR140_0; clear HB; have HO135 := n0_; have HL136_0 := n1_; have HL138_0 := n2_; have HL140_0 := n3_; have HO146 := n4_; have HO154 := n5_; have HO158 := n6_; have HR136_0 := n7_; have HR138_0 := n8_; have HR140_0 := n9_; have HB := n10_; clear n0_ n1_ n2_ n3_ n4_ n5_ n6_ n7_ n8_ n9_ n10_; (try clear hb); (try clear hb2); (try clear hk); (try clear hi); (try clear ho0)) | ((with_reducible refine gate_callee (f := 32) rfl ?_); refine goesL_ (some 56) rfl rfl Try.func32 (by kernel_rfl) rfl #[.slice (some ad136) y133.length co24, .int .i64 2] rfl (by (try simp only [List.map_toArray, List.map_cons, List.map_nil]); first | done | rfl | (simp only [List.length_drop, List.length_take]; rfl)) ?_; (with_reducible refine (tree_Proof.calls _ _ y133 2 t159 t160 _ ?side1 ?side2 A12.out).mono ?_); (case side1 => repeat (first | exact (Kd.N_reads' HO135.out).2.2 | (with_reducible refine Kd.C_alloc ?_ _) | (with_reducible refine Kd.C_drewN ?_ _) | (with_reducible refine Kd.C_drew ?_))); (case side2 => exact (Kd.N_reads' HO135.out).2.1); rintro e w33 ⟨v161, rfl, ho0, hb⟩; refine ⟨_, rfl, ?_⟩; have n0_ := Aside0.mk (Kd.N_elder' (by (with_reducible repeat (first | apply Kd.N_alloc | apply Kd.N_drewN | apply Kd.N_drew)); exact HO135.out) (Kd.R_base ho0) hb); have n1_ := Aside0.mk (Kd.V_elder' (by (with_reducible repeat (first | apply Kd.V_alloc | apply Kd.V_drewN | apply Kd.V_drew)); exact HL136_0.out) (Kd.R_base ho0) hb); have n2_ := Aside0.mk (Kd.V_elder' (by (with_reducible repeat (first | apply Kd.V_alloc | apply Kd.V_drewN | apply Kd.V_drew)); exact HL138_0.out) (Kd.R_base ho0) hb); have n3_ := Aside0.mk (Kd.V_elder' (by (with_reducible repeat (first | apply Kd.V_alloc | apply Kd.V_drewN | apply Kd.V_drew)); exact HL140_0.out) (Kd.R_base ho0) hb); have n4_ := Aside0.mk (Kd.V_elder' (by (with_reducible repeat (first | apply Kd.V_alloc | apply Kd.V_drewN | apply Kd.V_drew)); exact HO146.out) (Kd.R_base ho0) hb); have n5_ := Aside0.mk (Kd.R_elder' (by (with_reducible repeat (first | apply Kd.R_alloc | apply Kd.R_drewN | apply Kd.R_drew)); exact HO154.out) (Kd.R_base ho0) hb); have n6_ := Aside0.mk (Kd.R_elder' (by (with_reducible repeat (first | apply Kd.R_alloc | apply Kd.R_drewN | apply Kd.R_drew)); exact HO158.out) (Kd.R_base ho0) hb); have n7_ := Aside0.mk (Kd.R_lower (Kd.R_new' (Kd.R_new' ho0 (Kd.R_lt (by (with_reducible repeat (first | apply Kd.R_alloc | apply Kd.R_drewN | apply Kd.R_drew)); exact HO154.out))) (Kd.R_lt (by (with_reducible repeat (first | apply Kd.R_alloc | apply Kd.R_drewN | apply Kd.R_drew)); exact HO158.out))) (below_size (by repeat (first | (with_reducible first | exact HB.out | apply below_alloc | apply pw_below_drewN | apply below_drew1) | exact HB.out)))); have n8_ := Aside0.mk (Kd.C_below (by repeat (first | (with_reducible exact HR136_0.out) | (with_reducible refine Kd.C_alloc ?_ _) | (with_reducible refine Kd.C_drewN ?_ _) | (with_reducible refine Kd.C_drew ?_) | exact HR136_0.out)) hb); have n9_ := Aside0.mk (Kd.C_below (by repeat (first | (with_reducible exact HR138_0.out) | (with_reducible refine Kd.C_alloc ?_ _) | (with_reducible refine Kd.C_drewN ?_ _) | (with_reducible refine Kd.C_drew ?_) | exact HR138_0.out)) hb); have n10_ := Aside0.mk (Kd.C_below (by repeat (first | (with_reducible exact HR140_0.out) | (with_reducible refine Kd.C_alloc ?_ _) | (with_reducible refine Kd.C_drewN ?_ _) | (with_reducible refine Kd.C_drew ?_) | exact HR140_0.out)) hb); have n11_ := Aside0.mk (below_step (by repeat (first | (with_reducible first | exact HB.out | apply below_alloc | apply pw_below_drewN | apply below_drew1) | exact HB.out)) hb); clear HO135; clear HL136_0; clear HL138_0; clear HL140_0; clear HO146; clear HO154; clear HO158; clear HR136_0; clear HR138_0; clear HR140_0; clear HB; have HO135 := n0_; have HL136_0 := n1_; have HL138_0 := n2_; have HL140_0 := n3_; have HO146 := n4_; have HO154 := n5_; have HO158 := n6_; have HO162 := n7_; have HR136_0 := n8_; have HR138_0 := n9_; have HR140_0 := n10_; have HB := n11_; clear n0_ n1_ n2_ n3_ n4_ n5_ n6_ n7_ n8_ n9_ n10_ n11_; (try clear hb); (try clear hb2); (try clear hk); (try clear hi); (try clear ho0)) | ((with_reducible refine gate_callee (f := 28) rfl ?_); refine goesL_ (some 60) rfl rfl Try.func28 (by kernel_rfl) rfl #[.slice none 0 0] rfl (by (try simp only [List.map_toArray, List.map_cons, List.map_nil]); first | done | rfl | (simp only [List.length_drop, List.length_take]; rfl)) ?_; (refine (tree_Root.calls _ _ ([] : List (List Int)) t163 t164 _ ?side1 ?side2 A13.out).mono ?_); (case side1 => exact Kd.C_nil _ _); (case side2 => exact Nat.le_refl _); rintro e w34 ⟨rfl, hb⟩; refine ⟨_, rfl, ?_⟩; have n0_ := Aside0.mk (Kd.N_below (by (with_reducible repeat (first | apply Kd.N_alloc | apply Kd.N_drewN | apply Kd.N_drew)); exact HO135.out) hb); have n1_ := Aside0.mk (Kd.V_below (by (with_reducible repeat (first | apply Kd.V_alloc | apply Kd.V_drewN | apply Kd.V_drew)); exact HL136_0.out) hb); have n2_ := Aside0.mk (Kd.V_below (by (with_reducible repeat (first | apply Kd.V_alloc | apply Kd.V_drewN | apply Kd.V_drew)); exact HL138_0.out) hb); have n3_ := Aside0.mk (Kd.V_below (by (with_reducible repeat (first | apply Kd.V_alloc | apply Kd.V_drewN | apply Kd.V_drew)); exact HL140_0.out) hb); have n4_ := Aside0.mk (Kd.V_below (by (with_reducible repeat (first | apply Kd.V_alloc | apply Kd.V_drewN | apply Kd.V_drew)); exact HO146.out) hb); have n5_ := Aside0.mk (Kd.R_below (by (with_reducible repeat (first | apply Kd.R_alloc | apply Kd.R_drewN | apply Kd.R_drew)); exact HO154.out) hb); have n6_ := Aside0.mk (Kd.R_below (by (with_reducible repeat (first | apply Kd.R_alloc | apply Kd.R_drewN | apply Kd.R_drew)); exact HO158.out) hb); have n7_ := Aside0.mk (Kd.R_below (by (with_reducible repeat (first | apply Kd.R_alloc | apply Kd.R_drewN | apply Kd.R_drew)); exact HO162.out) hb); have n8_ := Aside0.mk (Kd.C_below (by repeat (first | (with_reducible exact HR136_0.out) | (with_reducible refine Kd.C_alloc ?_ _) | (with_reducible refine Kd.C_drewN ?_ _) | (with_reducible refine Kd.C_drew ?_) | exact HR136_0.out)) hb); have n9_ := Aside0.mk (Kd.C_below (by repeat (first | (with_reducible exact HR138_0.out) | (with_reducible refine Kd.C_alloc ?_ _) | (with_reducible refine Kd.C_drewN ?_ _) | (with_reducible refine Kd.C_drew ?_) | exact HR138_0.out)) hb); have n10_ := Aside0.mk (Kd.C_below (by repeat (first | (with_reducible exact HR140_0.out) | (with_reducible refine Kd.C_alloc ?_ _) | (with_reducible refine Kd.C_drewN ?_ _) | (with_reducible refine Kd.C_drew ?_) | exact HR140_0.out)) hb); have n11_ := Aside0.mk (below_step (by repeat (first | (with_reducible first | exact HB.out | apply below_alloc | apply pw_below_drewN | apply below_drew1) | exact HB.out)) hb); clear HO135; clear HL136_0; clear HL138_0; clear HL140_0; clear HO146; clear HO154; clear HO158; clear HO162; clear HR136_0; clear HR138_0; clear HR140_0; clear HB; have HO135 := n0_; have HL136_0 := n1_; have HL138_0 := n2_; have HL140_0 := n3_; have HO146 := n4_; have HO154 := n5_; have HO158 := n6_; have HO162 := n7_; have HR136_0 := n8_; have HR138_0 := n9_; have HR140_0 := n10_; have HB := n11_; clear n0_ n1_ n2_ n3_ n4_ n5_ n6_ n7_ n8_ n9_ n10_ n11_; (try clear hb); (try clear hb2); (try clear hk); (try clear hi)))
          (try simp only [Act.put, List.setIfInBounds_toArray, List.set_cons_zero, List.set_cons_succ])
          go_cut [84] (fun v84 wc => ∃ (kq : Nat) (x84_13 : Bool), v84 = .bool x84_13 ∧ Aside0 (slotmeshlaw35_head.j0 kq y133 t137 t139 t141 t147 t149 t151 t155 t159 x84_13 = some r) ∧ Aside0 (kq ≤ k) ∧ Aside0 (Kd.N (Kd.slice 5 (Kd.int .u8)) 22 wc w.heap.size (fun k_ => some k_ ≠ (v153 : Value).ownBlock ∧ some k_ ≠ (v157 : Value).ownBlock ∧ some k_ ≠ (v161 : Value).ownBlock) (.slice (some ad136) y133.length co24) y133) ∧ Aside0 (Kd.R (Kd.int .u64) 23 wc w.heap.size (fun k_ => some k_ ≠ (v157 : Value).ownBlock ∧ some k_ ≠ (v161 : Value).ownBlock) v153 t151) ∧ Aside0 (Kd.R (Kd.int .u64) 23 wc w.heap.size (fun k_ => some k_ ≠ (v153 : Value).ownBlock ∧ some k_ ≠ (v161 : Value).ownBlock) v157 t155) ∧ Aside0 (Kd.R (Kd.int .u64) 23 wc w.heap.size (fun k_ => some k_ ≠ (v153 : Value).ownBlock ∧ some k_ ≠ (v157 : Value).ownBlock) v161 t159) ∧ Aside0 (Kd.C (Kd.int .u8) wc A136_0 (rd_L1 y133 0).length (rd_L1 y133 0)) ∧ Aside0 (Kd.C (Kd.int .u8) wc A138_0 (rd_L1 y133 1).length (rd_L1 y133 1)) ∧ Aside0 (Kd.C (Kd.int .u8) wc A140_0 (rd_L1 y133 2).length (rd_L1 y133 2)) ∧ Aside0 (Below w.heap.size w wc))
          case first =>
            have H := HC14.out
            clear HC14
            by_cases c35 : t148 = 0
            · rw [if_pos c35] at H
              have c35b0 : (t148 == 0) = true := beq_iff_eq.mpr c35
              have c35b1 : (t148 != 0) = false := bne_eq_false_iff_eq.mpr c35
              clear c35
              (first | rw [c35b0] | (simp only [i64_w, i32_w]; rw [c35b0]) | skip)
              by_cases c36 : t150 = 0
              · rw [if_pos c36] at H
                have c36b0 : (t150 == 0) = true := beq_iff_eq.mpr c36
                have c36b1 : (t150 != 0) = false := bne_eq_false_iff_eq.mpr c36
                clear c36
                by_cases c37 : t152 = 0
                · rw [if_pos c37] at H
                  have c37b0 : (t152 == 0) = true := beq_iff_eq.mpr c37
                  have c37b1 : (t152 != 0) = false := bne_eq_false_iff_eq.mpr c37
                  clear c37
                  by_cases c38 : t156 = 0
                  · rw [if_pos c38] at H
                    have c38b0 : (t156 == 0) = true := beq_iff_eq.mpr c38
                    have c38b1 : (t156 != 0) = false := bne_eq_false_iff_eq.mpr c38
                    clear c38
                    by_cases c39 : t160 = 0
                    · rw [if_pos c39] at H
                      have c39b0 : (t160 == 0) = true := beq_iff_eq.mpr c39
                      have c39b1 : (t160 != 0) = false := bne_eq_false_iff_eq.mpr c39
                      clear c39
                      have H' := Aside0.mk H
                      clear H
                      go_wp2
                      go_meet
                      case rel => exact ⟨_, ((t164 != 1)), (by first | rfl | (simp; done) | (simp [*]; done)), H', ⟨by first | omega | exact Nat.le_refl _⟩, ⟨by (with_reducible repeat (first | apply Kd.N_alloc | apply Kd.N_drewN | apply Kd.N_drew)); exact Kd.N_mono HO135.out (fun _ hk => ⟨hk.1.1.2, ⟨hk.1.2, hk.2⟩⟩)⟩, ⟨by (with_reducible repeat (first | apply Kd.R_alloc | apply Kd.R_drewN | apply Kd.R_drew)); exact Kd.R_mono HO154.out (fun _ hk => ⟨hk.1.2, hk.2⟩)⟩, ⟨by (with_reducible repeat (first | apply Kd.R_alloc | apply Kd.R_drewN | apply Kd.R_drew)); exact Kd.R_mono HO158.out (fun _ hk => ⟨hk.1.2, hk.2⟩)⟩, ⟨by (with_reducible repeat (first | apply Kd.R_alloc | apply Kd.R_drewN | apply Kd.R_drew)); exact Kd.R_mono HO162.out (fun _ hk => ⟨hk.1.2, hk.2⟩)⟩, ⟨by repeat (first | (with_reducible exact HR136_0.out) | (with_reducible refine Kd.C_alloc ?_ _) | (with_reducible refine Kd.C_drewN ?_ _) | (with_reducible refine Kd.C_drew ?_) | exact HR136_0.out)⟩, ⟨by repeat (first | (with_reducible exact HR138_0.out) | (with_reducible refine Kd.C_alloc ?_ _) | (with_reducible refine Kd.C_drewN ?_ _) | (with_reducible refine Kd.C_drew ?_) | exact HR138_0.out)⟩, ⟨by repeat (first | (with_reducible exact HR140_0.out) | (with_reducible refine Kd.C_alloc ?_ _) | (with_reducible refine Kd.C_drewN ?_ _) | (with_reducible refine Kd.C_drew ?_) | exact HR140_0.out)⟩, ⟨by repeat (first | (with_reducible first | exact HB.out | apply below_alloc | apply pw_below_drewN | apply below_drew1) | exact HB.out)⟩⟩
                    · rw [if_neg c39] at H
                      have c39b0 : (t160 == 0) = false := beq_eq_false_iff_ne.mpr c39
                      have c39b1 : (t160 != 0) = true := bne_iff_ne.mpr c39
                      have H' := Aside0.mk H
                      clear H
                      go_wp2
                      go_meet
                      case rel => exact ⟨_, (true), (by first | rfl | (simp; done) | (simp [*]; done)), H', ⟨by first | omega | exact Nat.le_refl _⟩, ⟨by (with_reducible repeat (first | apply Kd.N_alloc | apply Kd.N_drewN | apply Kd.N_drew)); exact Kd.N_mono HO135.out (fun _ hk => ⟨hk.1.1.2, ⟨hk.1.2, hk.2⟩⟩)⟩, ⟨by (with_reducible repeat (first | apply Kd.R_alloc | apply Kd.R_drewN | apply Kd.R_drew)); exact Kd.R_mono HO154.out (fun _ hk => ⟨hk.1.2, hk.2⟩)⟩, ⟨by (with_reducible repeat (first | apply Kd.R_alloc | apply Kd.R_drewN | apply Kd.R_drew)); exact Kd.R_mono HO158.out (fun _ hk => ⟨hk.1.2, hk.2⟩)⟩, ⟨by (with_reducible repeat (first | apply Kd.R_alloc | apply Kd.R_drewN | apply Kd.R_drew)); exact Kd.R_mono HO162.out (fun _ hk => ⟨hk.1.2, hk.2⟩)⟩, ⟨by repeat (first | (with_reducible exact HR136_0.out) | (with_reducible refine Kd.C_alloc ?_ _) | (with_reducible refine Kd.C_drewN ?_ _) | (with_reducible refine Kd.C_drew ?_) | exact HR136_0.out)⟩, ⟨by repeat (first | (with_reducible exact HR138_0.out) | (with_reducible refine Kd.C_alloc ?_ _) | (with_reducible refine Kd.C_drewN ?_ _) | (with_reducible refine Kd.C_drew ?_) | exact HR138_0.out)⟩, ⟨by repeat (first | (with_reducible exact HR140_0.out) | (with_reducible refine Kd.C_alloc ?_ _) | (with_reducible refine Kd.C_drewN ?_ _) | (with_reducible refine Kd.C_drew ?_) | exact HR140_0.out)⟩, ⟨by repeat (first | (with_reducible first | exact HB.out | apply below_alloc | apply pw_below_drewN | apply below_drew1) | exact HB.out)⟩⟩
                  · rw [if_neg c38] at H
                    have c38b0 : (t156 == 0) = false := beq_eq_false_iff_ne.mpr c38
                    have c38b1 : (t156 != 0) = true := bne_iff_ne.mpr c38
                    have H' := Aside0.mk H
                    clear H
                    go_wp2
                    go_meet
                    case rel => exact ⟨_, (true), (by first | rfl | (simp; done) | (simp [*]; done)), H', ⟨by first | omega | exact Nat.le_refl _⟩, ⟨by (with_reducible repeat (first | apply Kd.N_alloc | apply Kd.N_drewN | apply Kd.N_drew)); exact Kd.N_mono HO135.out (fun _ hk => ⟨hk.1.1.2, ⟨hk.1.2, hk.2⟩⟩)⟩, ⟨by (with_reducible repeat (first | apply Kd.R_alloc | apply Kd.R_drewN | apply Kd.R_drew)); exact Kd.R_mono HO154.out (fun _ hk => ⟨hk.1.2, hk.2⟩)⟩, ⟨by (with_reducible repeat (first | apply Kd.R_alloc | apply Kd.R_drewN | apply Kd.R_drew)); exact Kd.R_mono HO158.out (fun _ hk => ⟨hk.1.2, hk.2⟩)⟩, ⟨by (with_reducible repeat (first | apply Kd.R_alloc | apply Kd.R_drewN | apply Kd.R_drew)); exact Kd.R_mono HO162.out (fun _ hk => ⟨hk.1.2, hk.2⟩)⟩, ⟨by repeat (first | (with_reducible exact HR136_0.out) | (with_reducible refine Kd.C_alloc ?_ _) | (with_reducible refine Kd.C_drewN ?_ _) | (with_reducible refine Kd.C_drew ?_) | exact HR136_0.out)⟩, ⟨by repeat (first | (with_reducible exact HR138_0.out) | (with_reducible refine Kd.C_alloc ?_ _) | (with_reducible refine Kd.C_drewN ?_ _) | (with_reducible refine Kd.C_drew ?_) | exact HR138_0.out)⟩, ⟨by repeat (first | (with_reducible exact HR140_0.out) | (with_reducible refine Kd.C_alloc ?_ _) | (with_reducible refine Kd.C_drewN ?_ _) | (with_reducible refine Kd.C_drew ?_) | exact HR140_0.out)⟩, ⟨by repeat (first | (with_reducible first | exact HB.out | apply below_alloc | apply pw_below_drewN | apply below_drew1) | exact HB.out)⟩⟩
                · rw [if_neg c37] at H
                  have c37b0 : (t152 == 0) = false := beq_eq_false_iff_ne.mpr c37
                  have c37b1 : (t152 != 0) = true := bne_iff_ne.mpr c37
                  have H' := Aside0.mk H
                  clear H
                  go_wp2
                  go_meet
                  case rel => exact ⟨_, (true), (by first | rfl | (simp; done) | (simp [*]; done)), H', ⟨by first | omega | exact Nat.le_refl _⟩, ⟨by (with_reducible repeat (first | apply Kd.N_alloc | apply Kd.N_drewN | apply Kd.N_drew)); exact Kd.N_mono HO135.out (fun _ hk => ⟨hk.1.1.2, ⟨hk.1.2, hk.2⟩⟩)⟩, ⟨by (with_reducible repeat (first | apply Kd.R_alloc | apply Kd.R_drewN | apply Kd.R_drew)); exact Kd.R_mono HO154.out (fun _ hk => ⟨hk.1.2, hk.2⟩)⟩, ⟨by (with_reducible repeat (first | apply Kd.R_alloc | apply Kd.R_drewN | apply Kd.R_drew)); exact Kd.R_mono HO158.out (fun _ hk => ⟨hk.1.2, hk.2⟩)⟩, ⟨by (with_reducible repeat (first | apply Kd.R_alloc | apply Kd.R_drewN | apply Kd.R_drew)); exact Kd.R_mono HO162.out (fun _ hk => ⟨hk.1.2, hk.2⟩)⟩, ⟨by repeat (first | (with_reducible exact HR136_0.out) | (with_reducible refine Kd.C_alloc ?_ _) | (with_reducible refine Kd.C_drewN ?_ _) | (with_reducible refine Kd.C_drew ?_) | exact HR136_0.out)⟩, ⟨by repeat (first | (with_reducible exact HR138_0.out) | (with_reducible refine Kd.C_alloc ?_ _) | (with_reducible refine Kd.C_drewN ?_ _) | (with_reducible refine Kd.C_drew ?_) | exact HR138_0.out)⟩, ⟨by repeat (first | (with_reducible exact HR140_0.out) | (with_reducible refine Kd.C_alloc ?_ _) | (with_reducible refine Kd.C_drewN ?_ _) | (with_reducible refine Kd.C_drew ?_) | exact HR140_0.out)⟩, ⟨by repeat (first | (with_reducible first | exact HB.out | apply below_alloc | apply pw_below_drewN | apply below_drew1) | exact HB.out)⟩⟩
              · rw [if_neg c36] at H
                have c36b0 : (t150 == 0) = false := beq_eq_false_iff_ne.mpr c36
                have c36b1 : (t150 != 0) = true := bne_iff_ne.mpr c36
                have H' := Aside0.mk H
                clear H
                go_wp2
                go_meet
                case rel => exact ⟨_, (true), (by first | rfl | (simp; done) | (simp [*]; done)), H', ⟨by first | omega | exact Nat.le_refl _⟩, ⟨by (with_reducible repeat (first | apply Kd.N_alloc | apply Kd.N_drewN | apply Kd.N_drew)); exact Kd.N_mono HO135.out (fun _ hk => ⟨hk.1.1.2, ⟨hk.1.2, hk.2⟩⟩)⟩, ⟨by (with_reducible repeat (first | apply Kd.R_alloc | apply Kd.R_drewN | apply Kd.R_drew)); exact Kd.R_mono HO154.out (fun _ hk => ⟨hk.1.2, hk.2⟩)⟩, ⟨by (with_reducible repeat (first | apply Kd.R_alloc | apply Kd.R_drewN | apply Kd.R_drew)); exact Kd.R_mono HO158.out (fun _ hk => ⟨hk.1.2, hk.2⟩)⟩, ⟨by (with_reducible repeat (first | apply Kd.R_alloc | apply Kd.R_drewN | apply Kd.R_drew)); exact Kd.R_mono HO162.out (fun _ hk => ⟨hk.1.2, hk.2⟩)⟩, ⟨by repeat (first | (with_reducible exact HR136_0.out) | (with_reducible refine Kd.C_alloc ?_ _) | (with_reducible refine Kd.C_drewN ?_ _) | (with_reducible refine Kd.C_drew ?_) | exact HR136_0.out)⟩, ⟨by repeat (first | (with_reducible exact HR138_0.out) | (with_reducible refine Kd.C_alloc ?_ _) | (with_reducible refine Kd.C_drewN ?_ _) | (with_reducible refine Kd.C_drew ?_) | exact HR138_0.out)⟩, ⟨by repeat (first | (with_reducible exact HR140_0.out) | (with_reducible refine Kd.C_alloc ?_ _) | (with_reducible refine Kd.C_drewN ?_ _) | (with_reducible refine Kd.C_drew ?_) | exact HR140_0.out)⟩, ⟨by repeat (first | (with_reducible first | exact HB.out | apply below_alloc | apply pw_below_drewN | apply below_drew1) | exact HB.out)⟩⟩
            · rw [if_neg c35] at H
              have c35b0 : (t148 == 0) = false := beq_eq_false_iff_ne.mpr c35
              have c35b1 : (t148 != 0) = true := bne_iff_ne.mpr c35
              (first | rw [c35b0] | (simp only [i64_w, i32_w]; rw [c35b0]) | skip)
              have H' := Aside0.mk H
              clear H
              go_wp2
              go_meet
              case rel => exact ⟨_, (true), (by first | rfl | (simp; done) | (simp [*]; done)), H', ⟨by first | omega | exact Nat.le_refl _⟩, ⟨by (with_reducible repeat (first | apply Kd.N_alloc | apply Kd.N_drewN | apply Kd.N_drew)); exact Kd.N_mono HO135.out (fun _ hk => ⟨hk.1.1.2, ⟨hk.1.2, hk.2⟩⟩)⟩, ⟨by (with_reducible repeat (first | apply Kd.R_alloc | apply Kd.R_drewN | apply Kd.R_drew)); exact Kd.R_mono HO154.out (fun _ hk => ⟨hk.1.2, hk.2⟩)⟩, ⟨by (with_reducible repeat (first | apply Kd.R_alloc | apply Kd.R_drewN | apply Kd.R_drew)); exact Kd.R_mono HO158.out (fun _ hk => ⟨hk.1.2, hk.2⟩)⟩, ⟨by (with_reducible repeat (first | apply Kd.R_alloc | apply Kd.R_drewN | apply Kd.R_drew)); exact Kd.R_mono HO162.out (fun _ hk => ⟨hk.1.2, hk.2⟩)⟩, ⟨by repeat (first | (with_reducible exact HR136_0.out) | (with_reducible refine Kd.C_alloc ?_ _) | (with_reducible refine Kd.C_drewN ?_ _) | (with_reducible refine Kd.C_drew ?_) | exact HR136_0.out)⟩, ⟨by repeat (first | (with_reducible exact HR138_0.out) | (with_reducible refine Kd.C_alloc ?_ _) | (with_reducible refine Kd.C_drewN ?_ _) | (with_reducible refine Kd.C_drew ?_) | exact HR138_0.out)⟩, ⟨by repeat (first | (with_reducible exact HR140_0.out) | (with_reducible refine Kd.C_alloc ?_ _) | (with_reducible refine Kd.C_drewN ?_ _) | (with_reducible refine Kd.C_drew ?_) | exact HR140_0.out)⟩, ⟨by repeat (first | (with_reducible first | exact HB.out | apply below_alloc | apply pw_below_drewN | apply below_drew1) | exact HB.out)⟩⟩
          case rest =>
            clear HC14
            try clear c1
            try clear c1b0
            try clear c1b1
            try clear p1
            try clear q1
            try clear hx1
            try clear qi1
            try clear c2
            try clear p2
            try clear q2
            try clear c3
            try clear c3b0
            try clear c3b1
            try clear c5
            try clear c5b0
            try clear c5b1
            try clear c7
            try clear c7b0
            try clear c7b1
            try clear c13
            try clear p13
            try clear q13
            try clear hx13
            try clear qi13
            try clear c14
            try clear p14
            try clear q14
            try clear hx14
            try clear qi14
            try clear c24
            try clear c28
            try clear q28
            try clear c29
            try clear c32
            try clear c35
            try clear c35b0
            try clear c35b1
            try clear c36
            try clear c36b0
            try clear c36b1
            try clear c37
            try clear c37b0
            try clear c37b1
            try clear c38
            try clear c38b0
            try clear c38b1
            try clear c39
            try clear c39b0
            try clear c39b1
            try clear hx136_0
            try clear hx138_0
            try clear hx140_0
            try clear p136
            try clear p138
            try clear p140
            try clear q136
            try clear q138
            try clear q140
            try clear q28
            obtain ⟨kq, x84_13, rfl, HA, HJ13, HO_1, HO_9, HO_11, HO_13, HR136_0, HR138_0, HR140_0, HB⟩ := hcut
            cases kq with
            | zero => exact absurd HA.out (by simp [slotmeshlaw35_head.j0])
            | succ kj13 =>
              have H := HA.out
              clear HA
              simp only [slotmeshlaw35_head.j0] at H
              by_cases c40 : x84_13 = true
              · subst c40
                exact absurd H (by rw [if_pos rfl, HRT.out]; simp)
              · replace c40 := Bool.eq_false_iff.mpr c40
                subst c40
                have H1 : (if t147 = t137 then ((digest_Pair.f t137 t139).bind fun t165 => ((digest_Pair.f t165 t141).bind fun t166 => (if t149 = t166 then ((slotmeshref35_Same.f kj13 t151 (([t139, t141] : List Int))).bind fun t170 => (if t170 = true then ((slotmeshref35_Same.f kj13 t155 (([t137, t141] : List Int))).bind fun t174 => (if t174 = true then ((digest_Pair.f t137 t139).bind fun t175 => ((slotmeshref35_Same.f kj13 t159 (([t175] : List Int))).bind fun t179 => (if t179 = true then (if 1 < (y133.length : Int) then ((tree_Check.f t149 3 1 (rd_L1 y133 1) t155).bind fun t181 => (if t181 = true then ((tree_Check.f t149 3 1 (([2, 4] : List Int)) t155).bind fun t185 => (if t185 = true then (some false) else (if 1 ≤ (t155.length : Int) then ((tree_Check.f t149 3 1 (rd_L1 y133 1) (t155.take 1)).bind fun t192 => (some (!t192))) else (none)))) else (some false))) else (none)) else (some false)))) else (some false))) else (some false))) else (some false)))) else (some false)) = some r := by rw [if_neg (show ¬ (false = true) by decide)] at H; exact H
                clear H
                have H := H1
                clear H1
                by_cases c41 : t147 = t137
                · rw [if_pos c41] at H
                  have c41b0 : (t147 == t137) = true := beq_iff_eq.mpr c41
                  have c41b1 : (t147 != t137) = false := bne_eq_false_iff_eq.mpr c41
                  clear c41
                  replace H := Option.bind_eq_some_iff.mp H
                  obtain ⟨t165, A420, H⟩ := H
                  replace H : ((digest_Pair.f t165 t141).bind fun t166 => (if t149 = t166 then ((slotmeshref35_Same.f kj13 t151 (([t139, t141] : List Int))).bind fun t170 => (if t170 = true then ((slotmeshref35_Same.f kj13 t155 (([t137, t141] : List Int))).bind fun t174 => (if t174 = true then ((digest_Pair.f t137 t139).bind fun t175 => ((slotmeshref35_Same.f kj13 t159 (([t175] : List Int))).bind fun t179 => (if t179 = true then (if 1 < (y133.length : Int) then ((tree_Check.f t149 3 1 (rd_L1 y133 1) t155).bind fun t181 => (if t181 = true then ((tree_Check.f t149 3 1 (([2, 4] : List Int)) t155).bind fun t185 => (if t185 = true then (some false) else (if 1 ≤ (t155.length : Int) then ((tree_Check.f t149 3 1 (rd_L1 y133 1) (t155.take 1)).bind fun t192 => (some (!t192))) else (none)))) else (some false))) else (none)) else (some false)))) else (some false))) else (some false))) else (some false))) = some r := H
                  have A42 := Aside0.mk A420
                  clear A420
                  replace H := Option.bind_eq_some_iff.mp H
                  obtain ⟨t166, A430, H⟩ := H
                  replace H : (if t149 = t166 then ((slotmeshref35_Same.f kj13 t151 (([t139, t141] : List Int))).bind fun t170 => (if t170 = true then ((slotmeshref35_Same.f kj13 t155 (([t137, t141] : List Int))).bind fun t174 => (if t174 = true then ((digest_Pair.f t137 t139).bind fun t175 => ((slotmeshref35_Same.f kj13 t159 (([t175] : List Int))).bind fun t179 => (if t179 = true then (if 1 < (y133.length : Int) then ((tree_Check.f t149 3 1 (rd_L1 y133 1) t155).bind fun t181 => (if t181 = true then ((tree_Check.f t149 3 1 (([2, 4] : List Int)) t155).bind fun t185 => (if t185 = true then (some false) else (if 1 ≤ (t155.length : Int) then ((tree_Check.f t149 3 1 (rd_L1 y133 1) (t155.take 1)).bind fun t192 => (some (!t192))) else (none)))) else (some false))) else (none)) else (some false)))) else (some false))) else (some false))) else (some false)) = some r := H
                  have A43 := Aside0.mk A430
                  clear A430
                  by_cases c44 : t149 = t166
                  · rw [if_pos c44] at H
                    have c44b0 : (t149 == t166) = true := beq_iff_eq.mpr c44
                    have c44b1 : (t149 != t166) = false := bne_eq_false_iff_eq.mpr c44
                    clear c44
                    obtain ⟨y167, hy167⟩ : ∃ y_ : List Int, y_ = (([t139, t141] : List Int)) := ⟨_, rfl⟩
                    replace H : ((slotmeshref35_Same.f kj13 t151 y167).bind fun t170 => (if t170 = true then ((slotmeshref35_Same.f kj13 t155 (([t137, t141] : List Int))).bind fun t174 => (if t174 = true then ((digest_Pair.f t137 t139).bind fun t175 => ((slotmeshref35_Same.f kj13 t159 (([t175] : List Int))).bind fun t179 => (if t179 = true then (if 1 < (y133.length : Int) then ((tree_Check.f t149 3 1 (rd_L1 y133 1) t155).bind fun t181 => (if t181 = true then ((tree_Check.f t149 3 1 (([2, 4] : List Int)) t155).bind fun t185 => (if t185 = true then (some false) else (if 1 ≤ (t155.length : Int) then ((tree_Check.f t149 3 1 (rd_L1 y133 1) (t155.take 1)).bind fun t192 => (some (!t192))) else (none)))) else (some false))) else (none)) else (some false)))) else (some false))) else (some false))) = some r := by first | (rw [hy167]; with_reducible exact H) | (have H2_ := (Option.bind_some _ _).symm.trans H; rw [hy167]; with_reducible exact H2_) | (have H2_ := (Option.bind_some _ _).symm.trans H; with_reducible exact H2_) | with_reducible exact H | (rw [hy167]; exact H) | exact H
                    have Ny167 := Aside0.mk hy167
                    clear hy167
                    replace H := Option.bind_eq_some_iff.mp H
                    obtain ⟨t170, A450, H⟩ := H
                    replace H : (if t170 = true then ((slotmeshref35_Same.f kj13 t155 (([t137, t141] : List Int))).bind fun t174 => (if t174 = true then ((digest_Pair.f t137 t139).bind fun t175 => ((slotmeshref35_Same.f kj13 t159 (([t175] : List Int))).bind fun t179 => (if t179 = true then (if 1 < (y133.length : Int) then ((tree_Check.f t149 3 1 (rd_L1 y133 1) t155).bind fun t181 => (if t181 = true then ((tree_Check.f t149 3 1 (([2, 4] : List Int)) t155).bind fun t185 => (if t185 = true then (some false) else (if 1 ≤ (t155.length : Int) then ((tree_Check.f t149 3 1 (rd_L1 y133 1) (t155.take 1)).bind fun t192 => (some (!t192))) else (none)))) else (some false))) else (none)) else (some false)))) else (some false))) else (some false)) = some r := H
                    have A45 := Aside0.mk A450
                    clear A450
                    by_cases c46 : t170 = true
                    · subst c46
                      have H1 : ((slotmeshref35_Same.f kj13 t155 (([t137, t141] : List Int))).bind fun t174 => (if t174 = true then ((digest_Pair.f t137 t139).bind fun t175 => ((slotmeshref35_Same.f kj13 t159 (([t175] : List Int))).bind fun t179 => (if t179 = true then (if 1 < (y133.length : Int) then ((tree_Check.f t149 3 1 (rd_L1 y133 1) t155).bind fun t181 => (if t181 = true then ((tree_Check.f t149 3 1 (([2, 4] : List Int)) t155).bind fun t185 => (if t185 = true then (some false) else (if 1 ≤ (t155.length : Int) then ((tree_Check.f t149 3 1 (rd_L1 y133 1) (t155.take 1)).bind fun t192 => (some (!t192))) else (none)))) else (some false))) else (none)) else (some false)))) else (some false))) = some r := by rw [if_pos rfl] at H; exact H
                      clear H
                      have H := H1
                      clear H1
                      obtain ⟨y171, hy171⟩ : ∃ y_ : List Int, y_ = (([t137, t141] : List Int)) := ⟨_, rfl⟩
                      replace H : ((slotmeshref35_Same.f kj13 t155 y171).bind fun t174 => (if t174 = true then ((digest_Pair.f t137 t139).bind fun t175 => ((slotmeshref35_Same.f kj13 t159 (([t175] : List Int))).bind fun t179 => (if t179 = true then (if 1 < (y133.length : Int) then ((tree_Check.f t149 3 1 (rd_L1 y133 1) t155).bind fun t181 => (if t181 = true then ((tree_Check.f t149 3 1 (([2, 4] : List Int)) t155).bind fun t185 => (if t185 = true then (some false) else (if 1 ≤ (t155.length : Int) then ((tree_Check.f t149 3 1 (rd_L1 y133 1) (t155.take 1)).bind fun t192 => (some (!t192))) else (none)))) else (some false))) else (none)) else (some false)))) else (some false))) = some r := by first | (rw [hy171]; with_reducible exact H) | (have H2_ := (Option.bind_some _ _).symm.trans H; rw [hy171]; with_reducible exact H2_) | (have H2_ := (Option.bind_some _ _).symm.trans H; with_reducible exact H2_) | with_reducible exact H | (rw [hy171]; exact H) | exact H
                      have Ny171 := Aside0.mk hy171
                      clear hy171
                      replace H := Option.bind_eq_some_iff.mp H
                      obtain ⟨t174, A470, H⟩ := H
                      replace H : (if t174 = true then ((digest_Pair.f t137 t139).bind fun t175 => ((slotmeshref35_Same.f kj13 t159 (([t175] : List Int))).bind fun t179 => (if t179 = true then (if 1 < (y133.length : Int) then ((tree_Check.f t149 3 1 (rd_L1 y133 1) t155).bind fun t181 => (if t181 = true then ((tree_Check.f t149 3 1 (([2, 4] : List Int)) t155).bind fun t185 => (if t185 = true then (some false) else (if 1 ≤ (t155.length : Int) then ((tree_Check.f t149 3 1 (rd_L1 y133 1) (t155.take 1)).bind fun t192 => (some (!t192))) else (none)))) else (some false))) else (none)) else (some false)))) else (some false)) = some r := H
                      have A47 := Aside0.mk A470
                      clear A470
                      by_cases c48 : t174 = true
                      · subst c48
                        have H1 : ((digest_Pair.f t137 t139).bind fun t175 => ((slotmeshref35_Same.f kj13 t159 (([t175] : List Int))).bind fun t179 => (if t179 = true then (if 1 < (y133.length : Int) then ((tree_Check.f t149 3 1 (rd_L1 y133 1) t155).bind fun t181 => (if t181 = true then ((tree_Check.f t149 3 1 (([2, 4] : List Int)) t155).bind fun t185 => (if t185 = true then (some false) else (if 1 ≤ (t155.length : Int) then ((tree_Check.f t149 3 1 (rd_L1 y133 1) (t155.take 1)).bind fun t192 => (some (!t192))) else (none)))) else (some false))) else (none)) else (some false)))) = some r := by rw [if_pos rfl] at H; exact H
                        clear H
                        have H := H1
                        clear H1
                        replace H := Option.bind_eq_some_iff.mp H
                        obtain ⟨t175, A490, H⟩ := H
                        replace H : ((slotmeshref35_Same.f kj13 t159 (([t175] : List Int))).bind fun t179 => (if t179 = true then (if 1 < (y133.length : Int) then ((tree_Check.f t149 3 1 (rd_L1 y133 1) t155).bind fun t181 => (if t181 = true then ((tree_Check.f t149 3 1 (([2, 4] : List Int)) t155).bind fun t185 => (if t185 = true then (some false) else (if 1 ≤ (t155.length : Int) then ((tree_Check.f t149 3 1 (rd_L1 y133 1) (t155.take 1)).bind fun t192 => (some (!t192))) else (none)))) else (some false))) else (none)) else (some false))) = some r := H
                        have A49 := Aside0.mk A490
                        clear A490
                        obtain ⟨y176, hy176⟩ : ∃ y_ : List Int, y_ = (([t175] : List Int)) := ⟨_, rfl⟩
                        replace H : ((slotmeshref35_Same.f kj13 t159 y176).bind fun t179 => (if t179 = true then (if 1 < (y133.length : Int) then ((tree_Check.f t149 3 1 (rd_L1 y133 1) t155).bind fun t181 => (if t181 = true then ((tree_Check.f t149 3 1 (([2, 4] : List Int)) t155).bind fun t185 => (if t185 = true then (some false) else (if 1 ≤ (t155.length : Int) then ((tree_Check.f t149 3 1 (rd_L1 y133 1) (t155.take 1)).bind fun t192 => (some (!t192))) else (none)))) else (some false))) else (none)) else (some false))) = some r := by first | (rw [hy176]; with_reducible exact H) | (have H2_ := (Option.bind_some _ _).symm.trans H; rw [hy176]; with_reducible exact H2_) | (have H2_ := (Option.bind_some _ _).symm.trans H; with_reducible exact H2_) | with_reducible exact H | (rw [hy176]; exact H) | exact H
                        have Ny176 := Aside0.mk hy176
                        clear hy176
                        replace H := Option.bind_eq_some_iff.mp H
                        obtain ⟨t179, A500, H⟩ := H
                        replace H : (if t179 = true then (if 1 < (y133.length : Int) then ((tree_Check.f t149 3 1 (rd_L1 y133 1) t155).bind fun t181 => (if t181 = true then ((tree_Check.f t149 3 1 (([2, 4] : List Int)) t155).bind fun t185 => (if t185 = true then (some false) else (if 1 ≤ (t155.length : Int) then ((tree_Check.f t149 3 1 (rd_L1 y133 1) (t155.take 1)).bind fun t192 => (some (!t192))) else (none)))) else (some false))) else (none)) else (some false)) = some r := H
                        have A50 := Aside0.mk A500
                        clear A500
                        by_cases c51 : t179 = true
                        · subst c51
                          have H1 : (if 1 < (y133.length : Int) then ((tree_Check.f t149 3 1 (rd_L1 y133 1) t155).bind fun t181 => (if t181 = true then ((tree_Check.f t149 3 1 (([2, 4] : List Int)) t155).bind fun t185 => (if t185 = true then (some false) else (if 1 ≤ (t155.length : Int) then ((tree_Check.f t149 3 1 (rd_L1 y133 1) (t155.take 1)).bind fun t192 => (some (!t192))) else (none)))) else (some false))) else (none)) = some r := by rw [if_pos rfl] at H; exact H
                          clear H
                          have H := H1
                          clear H1
                          by_cases c52 : 1 < (y133.length : Int)
                          · rw [if_pos c52] at H
                            have c52b0 : decide (1 < (y133.length : Int)) = true := decide_eq_true c52
                            have c52b1 : decide (1 < y133.length) = true := decide_eq_true (by omega)
                            clear c52
                            replace H := Option.bind_eq_some_iff.mp H
                            obtain ⟨t181, A530, H⟩ := H
                            replace H : (if t181 = true then ((tree_Check.f t149 3 1 (([2, 4] : List Int)) t155).bind fun t185 => (if t185 = true then (some false) else (if 1 ≤ (t155.length : Int) then ((tree_Check.f t149 3 1 (rd_L1 y133 1) (t155.take 1)).bind fun t192 => (some (!t192))) else (none)))) else (some false)) = some r := H
                            have A53 := Aside0.mk A530
                            clear A530
                            by_cases c54 : t181 = true
                            · subst c54
                              have H1 : ((tree_Check.f t149 3 1 (([2, 4] : List Int)) t155).bind fun t185 => (if t185 = true then (some false) else (if 1 ≤ (t155.length : Int) then ((tree_Check.f t149 3 1 (rd_L1 y133 1) (t155.take 1)).bind fun t192 => (some (!t192))) else (none)))) = some r := by rw [if_pos rfl] at H; exact H
                              clear H
                              have H := H1
                              clear H1
                              obtain ⟨y182, hy182⟩ : ∃ y_ : List Int, y_ = (([2, 4] : List Int)) := ⟨_, rfl⟩
                              replace H : ((tree_Check.f t149 3 1 y182 t155).bind fun t185 => (if t185 = true then (some false) else (if 1 ≤ (t155.length : Int) then ((tree_Check.f t149 3 1 (rd_L1 y133 1) (t155.take 1)).bind fun t192 => (some (!t192))) else (none)))) = some r := by first | (rw [hy182]; with_reducible exact H) | (have H2_ := (Option.bind_some _ _).symm.trans H; rw [hy182]; with_reducible exact H2_) | (have H2_ := (Option.bind_some _ _).symm.trans H; with_reducible exact H2_) | with_reducible exact H | (rw [hy182]; exact H) | exact H
                              have Ny182 := Aside0.mk hy182
                              clear hy182
                              replace H := Option.bind_eq_some_iff.mp H
                              obtain ⟨t185, A550, H⟩ := H
                              replace H : (if t185 = true then (some false) else (if 1 ≤ (t155.length : Int) then ((tree_Check.f t149 3 1 (rd_L1 y133 1) (t155.take 1)).bind fun t192 => (some (!t192))) else (none))) = some r := H
                              have A55 := Aside0.mk A550
                              clear A550
                              by_cases c56 : t185 = true
                              · exact absurd H (by rw [if_pos c56, HRT.out]; simp)
                              · replace c56 := Bool.eq_false_iff.mpr c56
                                subst c56
                                have H1 : (if 1 ≤ (t155.length : Int) then ((tree_Check.f t149 3 1 (rd_L1 y133 1) (t155.take 1)).bind fun t192 => (some (!t192))) else (none)) = some r := by rw [if_neg (show ¬ (false = true) by decide)] at H; exact H
                                clear H
                                have H := H1
                                clear H1
                                by_cases c75 : 1 ≤ (t155.length : Int)
                                · rw [if_pos c75] at H
                                  have c75b0 := eq_true c75
                                  have c75b1 : decide (1 ≤ (t155.length : Int)) = true := decide_eq_true c75
                                  clear c75
                                  obtain ⟨y187, hy187⟩ : ∃ y_ : List Int, y_ = (t155.take 1) := ⟨_, rfl⟩
                                  replace H : ((tree_Check.f t149 3 1 (rd_L1 y133 1) y187).bind fun t192 => (some (!t192))) = some r := by first | (rw [hy187]; with_reducible exact H) | (have H2_ := (Option.bind_some _ _).symm.trans H; rw [hy187]; with_reducible exact H2_) | (have H2_ := (Option.bind_some _ _).symm.trans H; with_reducible exact H2_) | with_reducible exact H | (rw [hy187]; exact H) | exact H
                                  have Ny187 := Aside0.mk hy187
                                  clear hy187
                                  replace H := Option.bind_eq_some_iff.mp H
                                  obtain ⟨t192, A760, H⟩ := H
                                  replace H : (some (!t192)) = some r := H
                                  have A76 := Aside0.mk A760
                                  clear A760
                                  obtain rfl := Option.some.inj H
                                  obtain ⟨Ao79, co79, eo79, lo79, C79⟩ := Kd.R_reads HO_9.out
                                  obtain ⟨Ao83, co83, eo83, lo83, C83⟩ := Kd.R_reads HO_11.out
                                  obtain ⟨Ao87, co87, eo87, lo87, C87⟩ := Kd.R_reads HO_13.out
                                  subst eo79 eo83 eo87
                                  have CP := Aside0.mk (Kd.N_reads' HO_1.out).2.2
                                  have D79 := Aside0.mk C79
                                  have D83 := Aside0.mk C83
                                  have D87 := Aside0.mk C87
                                  have M79 := Aside0.mk lo79
                                  have M83 := Aside0.mk lo83
                                  have M87 := Aside0.mk lo87
                                  have HBw := HB
                                  clear HO_1 HO_9 HO_11 HO_13 HR136_0 HR138_0 HR140_0 HB C79 C83 C87 lo79 lo83 lo87
                                  have HB := Aside0.mk (Below.refl wc.heap.size wc)
                                  go_wp2_with fail
                                  refine (callsIn_wide.1 (Hand.Pair_in 1 (Nat.le_refl _) t137 t139 _)).mono ?_
                                  rintro e w' ⟨rfl, rfl⟩
                                  rw [show Dig.pairF t137 t139 = t165 from Option.some.inj A42.out]
                                  go_wp2_with fail
                                  refine (callsIn_wide.1 (Hand.Pair_in 1 (Nat.le_refl _) t165 t141 _)).mono ?_
                                  rintro e w' ⟨rfl, rfl⟩
                                  rw [show Dig.pairF t165 t141 = t166 from Option.some.inj A43.out]
                                  go_wp2_with fail
                                  have b1 := HB.out.alloc (Nat.le_refl _) (.cells #[.int .u64 t139, .int .u64 t141] 23)
                                  refine (slotmeshref35_Same.calls kj13 _ _ t151 _ _ [t139, t141] true _ (Kd.C_below D79.out b1) M79.out (Hand.C_cells .u64 wc [t139, t141] 23 (0, 0) (by simp)) (Nat.le_refl _) (by rw [← Ny167.out]; exact A45.out)).mono ?_
                                  rintro e w1 ⟨rfl, hd1⟩
                                  have HB1 := Aside0.mk (below_step b1 hd1.below)
                                  clear b1 hd1
                                  go_wp2_with fail
                                  have b2 := HB1.out.alloc HB1.out.size (.cells #[.int .u64 t137, .int .u64 t141] 23)
                                  refine (slotmeshref35_Same.calls kj13 _ _ t155 _ _ [t137, t141] true _ (Kd.C_below D83.out b2) M83.out (Hand.C_cells .u64 w1 [t137, t141] 23 (0, 0) (by simp)) (Nat.le_refl _) (by rw [← Ny171.out]; exact A47.out)).mono ?_
                                  rintro e w2 ⟨rfl, hd2⟩
                                  have HB2 := Aside0.mk (below_step b2 hd2.below)
                                  clear b2 hd2
                                  go_wp2_with fail
                                  refine (callsIn_wide.1 (Hand.Pair_in 1 (Nat.le_refl _) t137 t139 _)).mono ?_
                                  rintro e w' ⟨rfl, rfl⟩
                                  rw [show Dig.pairF t137 t139 = t175 from Option.some.inj A49.out]
                                  go_wp2_with fail
                                  have b3 := HB2.out.alloc HB2.out.size (.cells #[.int .u64 t175] 23)
                                  refine (slotmeshref35_Same.calls kj13 _ _ t159 _ _ [t175] true _ (Kd.C_below D87.out b3) M87.out (Hand.C_cells .u64 w2 [t175] 23 (0, 0) (by simp)) (Nat.le_refl _) (by rw [← Ny176.out]; exact A50.out)).mono ?_
                                  rintro e w3 ⟨rfl, hd3⟩
                                  have HB3 := Aside0.mk (below_step b3 hd3.below)
                                  clear b3 hd3
                                  go_wp2_with fail
                                  have q180 : (1 : Int) < (y133.length : Int) := of_decide_eq_true c52b0
                                  obtain ⟨ad180, A180, c180, e180, hx180, hl180, hi180⟩ := at_L1 CP.out 1 (by omega) q180
                                  obtain rfl : ad136 = ad180 := (by injection e180)
                                  (try simp only [show (1 : Int).toNat = 1 from rfl, Nat.reduceMul, Nat.reduceEqDiff, Go.Addr.add, ↓reduceIte] at hx180)
                                  have HRe := Aside0.mk hi180
                                  have HCe := Aside0.mk hl180
                                  have qi180 : (1 < y133.length) = True := eq_true (by omega)
                                  have hx3 := (HB3.out.cell (World.block_lt_of_cell? _ _ hx180)).trans hx180
                                  have q75 : (1 : Int) ≤ ((t155.length : Int) : Int) := of_decide_eq_true c75b1
                                  have HY := Aside0.mk (show Kd.C (Kd.int .u64) wc Ao83 y187.length y187 from by rw [Ny187.out]; exact Kd.C_take D83.out (by omega))
                                  have hy95 : y187.length = (1 : Int).toNat := (by rw [Ny187.out, List.length_take]; omega)
                                  have HYC := Aside0.mk (show y187.length ≤ co83 from by have := M83.out; omega)
                                  obtain ⟨i095, hi095, _, hsz95, _⟩ := info_parts info23
                                  have hcut95 := cut_to (P := Try.prog) 33 23 .i64 Try.underlying33 hi095 Ao83 t155.length co83 1 (by omega) q75 M83.out
                                  rw [← hy95] at hcut95
                                  clear hi180 hl180 hx180 hi095 hsz95 e180 CP hy95
                                  have HB4 := Aside0.mk (below_drew1 HB3.out)
                                  refine start_ (n := 27) (S := fun w' => w'.cell? ⟨ad136.block, ad136.off + 1, none⟩ = some (.slice A180 (rd_L1 y133 1).length c180)) (ds := []) #[false, false, false, false, false, false, false, false, false, false, false, false, false, false, false, false, false, false, false, false, false, false, false, false, false, false, false] (by kernel_rfl) rfl rfl hx3 (fun hHeld => ?_); refine with_tabW slotmeshlaw35_head.tab12 slotmeshlaw35_head.bits12 (fun HT_ HW_ => ?_)
                                  generalize w3.drew = w4 at HB4 hHeld ⊢
                                  clear hx3
                                  refine pure_ (i := 0) (N := some 119) (v := ?_) (a' := ?_) #[true, false, false, false, false, false, false, false, false, false, false, false, false, false, false, false, false, false, false, false, false, false, false, false, false, false, false] rfl rfl (any_of HT_.out (by kernel_rfl)) (fun _ _ _ h => h) (Or.inl ⟨by rfl, ?_⟩) ?_ ?_
                                  rotate_left
                                  · intro w'
                                    go_simp
                                    with_reducible rfl
                                  rotate_left
                                  · simp only [Act.put, List.setIfInBounds_toArray, List.set_cons_zero, List.set_cons_succ, i64_w, i32_w]
                                    rfl
                                  refine pure_ (i := 1) (N := some 120) (v := ?_) (a' := ?_) #[true, true, false, false, false, false, false, false, false, false, false, false, false, false, false, false, false, false, false, false, false, false, false, false, false, false, false] rfl rfl (any_of HT_.out (by kernel_rfl)) (fun _ _ _ h => h) (Or.inl ⟨by rfl, ?_⟩) ?_ ?_
                                  rotate_left
                                  · intro w'
                                    go_simp
                                    with_reducible rfl
                                  rotate_left
                                  · simp only [Act.put, List.setIfInBounds_toArray, List.set_cons_zero, List.set_cons_succ, i64_w, i32_w]
                                    rfl
                                  refine pure_ (i := 2) (N := some 121) (v := ?_) (a' := ?_) #[true, true, true, false, false, false, false, false, false, false, false, false, false, false, false, false, false, false, false, false, false, false, false, false, false, false, false] rfl rfl (any_of HT_.out (by kernel_rfl)) (fun _ _ _ h => h) (Or.inl ⟨by rfl, ?_⟩) ?_ ?_
                                  rotate_left
                                  · intro w'
                                    go_simp
                                    with_reducible rfl
                                  rotate_left
                                  · simp only [Act.put, List.setIfInBounds_toArray, List.set_cons_zero, List.set_cons_succ, i64_w, i32_w]
                                    rfl
                                  refine pure_ (i := 3) (N := some 122) (v := ?_) (a' := ?_) #[true, true, true, true, false, false, false, false, false, false, false, false, false, false, false, false, false, false, false, false, false, false, false, false, false, false, false] rfl rfl (any_of HT_.out (by kernel_rfl)) (fun _ _ _ h => h) (Or.inl ⟨by rfl, ?_⟩) ?_ ?_
                                  rotate_left
                                  · intro w'
                                    go_simp
                                    with_reducible rfl
                                  rotate_left
                                  · simp only [Act.put, List.setIfInBounds_toArray, List.set_cons_zero, List.set_cons_succ, i64_w, i32_w]
                                    rfl
                                  refine pure_ (i := 4) (N := some 123) (v := ?_) (a' := ?_) #[true, true, true, true, true, false, false, false, false, false, false, false, false, false, false, false, false, false, false, false, false, false, false, false, false, false, false] rfl rfl (any_of HT_.out (by kernel_rfl)) (fun _ _ _ h => h) (Or.inl ⟨by rfl, ?_⟩) ?_ ?_
                                  rotate_left
                                  · intro w'
                                    go_simp
                                    with_reducible rfl
                                  rotate_left
                                  · simp only [Act.put, List.setIfInBounds_toArray, List.set_cons_zero, List.set_cons_succ, i64_w, i32_w]
                                    rfl
                                  refine pure_ (i := 6) (N := some 125) (v := ?_) (a' := ?_) #[true, true, true, true, true, false, true, false, false, false, false, false, false, false, false, false, false, false, false, false, false, false, false, false, false, false, false] rfl rfl (any_of HT_.out (by kernel_rfl)) (fun _ _ _ h => h) (Or.inl ⟨by rfl, ?_⟩) ?_ ?_
                                  rotate_left
                                  · intro w'
                                    go_simp
                                    with_reducible rfl
                                  rotate_left
                                  · simp only [Act.put, List.setIfInBounds_toArray, List.set_cons_zero, List.set_cons_succ, i64_w, i32_w]
                                    rfl
                                  refine take_ (i := 5) (N := some 124) (v := ?_) (a' := ?_) #[true, true, true, true, true, true, true, false, false, false, false, false, false, false, false, false, false, false, false, false, false, false, false, false, false, false, false] rfl rfl (take_ofW HT_.out HW_.out (by kernel_rfl)) (fun _ _ _ h => h) (Or.inl ⟨by rfl, ?_⟩) hHeld ?_ ?_
                                  rotate_left
                                  · rintro w' s0
                                    go_simp
                                    with_reducible rfl
                                  rotate_left
                                  · simp only [Act.put, List.setIfInBounds_toArray, List.set_cons_zero, List.set_cons_succ, i64_w, i32_w]
                                    rfl
                                  refine one_ (i := 7) (N := some 126) #[true, true, true, true, true, true, true, true, false, false, false, false, false, false, false, false, false, false, false, false, false, false, false, false, false, false, false] rfl rfl (one_of HT_.out (by kernel_rfl)) (by decide) (fun K hK => ?_)
                                  refine goes_ Try.func35 (by kernel_rfl) rfl #[.int .u64 t149, .int .i64 3, .int .i64 1, .slice A180 (rd_L1 y133 1).length c180, .slice Ao83 t155.length co83] (by rfl) rfl rfl (by (try simp only [List.map_toArray, List.map_cons, List.map_nil]); first | done | rfl | (simp only [List.length_drop, List.length_take]; rfl)) ?_
                                  with_reducible refine (tree_Check.calls t149 3 1 _ _ (rd_L1 y133 1) _ _ t155 true _ (Kd.C_below HRe.out HB4.out) HCe.out (Kd.C_below D83.out HB4.out) M83.out A53.out).mono ?_
                                  rintro e w5 ⟨rfl, hb⟩
                                  have HS0_ := (hb.cell (World.block_lt_of_cell? _ _ hHeld)).trans hHeld
                                  have HB5 := Aside0.mk (below_step HB4.out hb)
                                  refine ⟨_, rfl, ?_⟩
                                  refine hK.out _ _ HS0_ (fun hHeld => ?_)
                                  clear hb
                                  clear hK K
                                  refine norm_ (a' := ?_) ?_ ?_
                                  rotate_left
                                  · show Act.put _ (some 126) _ = _
                                    simp only [Act.put, List.setIfInBounds_toArray, List.set_cons_zero, List.set_cons_succ, i64_w, i32_w]
                                    rfl
                                  refine pure_ (i := 8) (N := some 127) (v := ?_) (a' := ?_) #[true, true, true, true, true, true, true, true, true, false, false, false, false, false, false, false, false, false, false, false, false, false, false, false, false, false, false] rfl rfl (any_of HT_.out (by kernel_rfl)) (fun _ _ _ h => h) (Or.inl ⟨by rfl, ?_⟩) ?_ ?_
                                  rotate_left
                                  · intro w'
                                    go_simp
                                    with_reducible rfl
                                  rotate_left
                                  · simp only [Act.put, List.setIfInBounds_toArray, List.set_cons_zero, List.set_cons_succ, i64_w, i32_w]
                                    rfl
                                  refine pure_ (i := 9) (N := some 128) (v := ?_) (a' := ?_) #[true, true, true, true, true, true, true, true, true, true, false, false, false, false, false, false, false, false, false, false, false, false, false, false, false, false, false] rfl rfl (any_of HT_.out (by kernel_rfl)) (fun _ _ _ h => h) (Or.inl ⟨by rfl, ?_⟩) ?_ ?_
                                  rotate_left
                                  · intro w'
                                    go_simp
                                    with_reducible rfl
                                  rotate_left
                                  · simp only [Act.put, List.setIfInBounds_toArray, List.set_cons_zero, List.set_cons_succ, i64_w, i32_w]
                                    rfl
                                  refine pure_ (i := 10) (N := some 129) (v := ?_) (a' := ?_) #[true, true, true, true, true, true, true, true, true, true, true, false, false, false, false, false, false, false, false, false, false, false, false, false, false, false, false] rfl rfl (any_of HT_.out (by kernel_rfl)) (fun _ _ _ h => h) (Or.inl ⟨by rfl, ?_⟩) ?_ ?_
                                  rotate_left
                                  · intro w'
                                    go_simp
                                    with_reducible rfl
                                  rotate_left
                                  · simp only [Act.put, List.setIfInBounds_toArray, List.set_cons_zero, List.set_cons_succ, i64_w, i32_w]
                                    rfl
                                  refine pure_ (i := 12) (N := some 131) (v := ?_) (a' := ?_) #[true, true, true, true, true, true, true, true, true, true, true, false, true, false, false, false, false, false, false, false, false, false, false, false, false, false, false] rfl rfl (any_of HT_.out (by kernel_rfl)) (fun _ _ _ h => h) (Or.inl ⟨by rfl, ?_⟩) ?_ ?_
                                  rotate_left
                                  · intro w'
                                    go_simp
                                    with_reducible rfl
                                  rotate_left
                                  · simp only [Act.put, List.setIfInBounds_toArray, List.set_cons_zero, List.set_cons_succ, i64_w, i32_w]
                                    rfl
                                  refine one_ (i := 11) (N := some 130) #[true, true, true, true, true, true, true, true, true, true, true, true, true, false, false, false, false, false, false, false, false, false, false, false, false, false, false] rfl rfl (one_of HT_.out (by kernel_rfl)) (by decide) (fun K hK => ?_)
                                  refine Kd.R_lit_step (Kd.int .u8) _ 5 ?hg (N := 130) ?hd (xs := ([2, 4] : List Int)) (inner := [.int .u8 2, .int .u8 4]) (ok := fun _ => True) (okp := fun _ => True) ?hr ?hp (fun _ hk => hk) trivial (Below.refl _ _) (Nat.le_refl _) (by simp) ?_; (case hd => rfl); (case hg => rfl); (case hr => first | (go_simp; done) | (go_simp; rfl)); (case hp => exact (Reps.one (show Kd.M (Kd.int .u8) _ _ _ 2 [.int .u8 2] from rfl) (Reps.one (show Kd.M (Kd.int .u8) _ _ _ 4 [.int .u8 4] from rfl) (Reps.none _ _))))
                                  intro v183 w6 ho92 hb hg_ hnew_
                                  have HS0_ := (hb.cell (World.block_lt_of_cell? _ _ hHeld)).trans hHeld
                                  obtain ⟨Ao93, co93, eo93, lo93, C93⟩ := Kd.R_reads ho92
                                  subst eo93
                                  have HB6 := Aside0.mk (below_step HB5.out hb)
                                  have D93 := Aside0.mk C93
                                  have M93 := Aside0.mk lo93
                                  clear hg_ hnew_ hb ho92 C93 lo93
                                  refine hK.out _ _ HS0_ (fun hHeld => ?_)
                                  clear hK K
                                  refine norm_ (a' := ?_) ?_ ?_
                                  rotate_left
                                  · show Act.put _ (some 130) _ = _
                                    simp only [Act.put, List.setIfInBounds_toArray, List.set_cons_zero, List.set_cons_succ, i64_w, i32_w]
                                    rfl
                                  refine one_ (i := 13) (N := some 132) #[true, true, true, true, true, true, true, true, true, true, true, true, true, true, false, false, false, false, false, false, false, false, false, false, false, false, false] rfl rfl (one_of HT_.out (by kernel_rfl)) (by decide) (fun K hK => ?_)
                                  refine goes_ Try.func35 (by kernel_rfl) rfl #[.int .u64 t149, .int .i64 3, .int .i64 1, .slice Ao93 ([2, 4] : List Int).length co93, .slice Ao83 t155.length co83] (by rfl) rfl rfl (by (try simp only [List.map_toArray, List.map_cons, List.map_nil]); first | done | rfl | (simp only [List.length_drop, List.length_take]; rfl)) ?_
                                  with_reducible refine (tree_Check.calls t149 3 1 _ _ [2, 4] _ _ t155 false _ D93.out M93.out (Kd.C_below D83.out HB6.out) M83.out (by rw [← Ny182.out]; exact A55.out)).mono ?_
                                  rintro e w7 ⟨rfl, hb⟩
                                  have HS0_ := (hb.cell (World.block_lt_of_cell? _ _ hHeld)).trans hHeld
                                  have HB7 := Aside0.mk (below_step HB6.out hb)
                                  refine ⟨_, rfl, ?_⟩
                                  refine hK.out _ _ HS0_ (fun hHeld => ?_)
                                  clear hb
                                  clear hK K
                                  refine norm_ (a' := ?_) ?_ ?_
                                  rotate_left
                                  · show Act.put _ (some 132) _ = _
                                    simp only [Act.put, List.setIfInBounds_toArray, List.set_cons_zero, List.set_cons_succ, i64_w, i32_w]
                                    rfl
                                  refine pure_ (i := 14) (N := some 133) (v := ?_) (a' := ?_) #[true, true, true, true, true, true, true, true, true, true, true, true, true, true, true, false, false, false, false, false, false, false, false, false, false, false, false] rfl rfl (any_of HT_.out (by kernel_rfl)) (fun _ _ _ h => h) (Or.inl ⟨by rfl, ?_⟩) ?_ ?_
                                  rotate_left
                                  · intro w'
                                    go_simp
                                    with_reducible rfl
                                  rotate_left
                                  · simp only [Act.put, List.setIfInBounds_toArray, List.set_cons_zero, List.set_cons_succ, i64_w, i32_w]
                                    rfl
                                  refine pure_ (i := 15) (N := some 134) (v := ?_) (a' := ?_) #[true, true, true, true, true, true, true, true, true, true, true, true, true, true, true, true, false, false, false, false, false, false, false, false, false, false, false] rfl rfl (any_of HT_.out (by kernel_rfl)) (fun _ _ _ h => h) (Or.inl ⟨by rfl, ?_⟩) ?_ ?_
                                  rotate_left
                                  · intro w'
                                    go_simp
                                    with_reducible rfl
                                  rotate_left
                                  · simp only [Act.put, List.setIfInBounds_toArray, List.set_cons_zero, List.set_cons_succ, i64_w, i32_w]
                                    rfl
                                  refine pure_ (i := 16) (N := some 135) (v := ?_) (a' := ?_) #[true, true, true, true, true, true, true, true, true, true, true, true, true, true, true, true, true, false, false, false, false, false, false, false, false, false, false] rfl rfl (any_of HT_.out (by kernel_rfl)) (fun _ _ _ h => h) (Or.inl ⟨by rfl, ?_⟩) ?_ ?_
                                  rotate_left
                                  · intro w'
                                    go_simp
                                    with_reducible rfl
                                  rotate_left
                                  · simp only [Act.put, List.setIfInBounds_toArray, List.set_cons_zero, List.set_cons_succ, i64_w, i32_w]
                                    rfl
                                  refine pure_ (i := 17) (N := some 136) (v := ?_) (a' := ?_) #[true, true, true, true, true, true, true, true, true, true, true, true, true, true, true, true, true, true, false, false, false, false, false, false, false, false, false] rfl rfl (any_of HT_.out (by kernel_rfl)) (fun _ _ _ h => h) (Or.inl ⟨by rfl, ?_⟩) ?_ ?_
                                  rotate_left
                                  · intro w'
                                    go_simp
                                    with_reducible rfl
                                  rotate_left
                                  · simp only [Act.put, List.setIfInBounds_toArray, List.set_cons_zero, List.set_cons_succ, i64_w, i32_w]
                                    rfl
                                  refine pure_ (i := 18) (N := some 137) (v := ?_) (a' := ?_) #[true, true, true, true, true, true, true, true, true, true, true, true, true, true, true, true, true, true, true, false, false, false, false, false, false, false, false] rfl rfl (any_of HT_.out (by kernel_rfl)) (fun _ _ _ h => h) (Or.inl ⟨by rfl, ?_⟩) ?_ ?_
                                  rotate_left
                                  · intro w'
                                    go_simp
                                    with_reducible rfl
                                  rotate_left
                                  · simp only [Act.put, List.setIfInBounds_toArray, List.set_cons_zero, List.set_cons_succ, i64_w, i32_w]
                                    rfl
                                  refine pure_ (i := 19) (N := some 138) (v := ?_) (a' := ?_) #[true, true, true, true, true, true, true, true, true, true, true, true, true, true, true, true, true, true, true, true, false, false, false, false, false, false, false] rfl rfl (any_of HT_.out (by kernel_rfl)) (fun _ _ _ h => h) (Or.inl ⟨by rfl, ?_⟩) ?_ ?_
                                  rotate_left
                                  · intro w'
                                    go_simp
                                    with_reducible rfl
                                  rotate_left
                                  · simp only [Act.put, List.setIfInBounds_toArray, List.set_cons_zero, List.set_cons_succ, i64_w, i32_w]
                                    rfl
                                  refine pure_ (i := 21) (N := some 140) (v := ?_) (a' := ?_) #[true, true, true, true, true, true, true, true, true, true, true, true, true, true, true, true, true, true, true, true, false, true, false, false, false, false, false] rfl rfl (any_of HT_.out (by kernel_rfl)) (fun _ _ _ h => h) (Or.inl ⟨by rfl, ?_⟩) ?_ ?_
                                  rotate_left
                                  · intro w'
                                    go_simp
                                    with_reducible rfl
                                  rotate_left
                                  · simp only [Act.put, List.setIfInBounds_toArray, List.set_cons_zero, List.set_cons_succ, i64_w, i32_w]
                                    rfl
                                  refine pure_ (i := 22) (N := some 141) (v := ?_) (a' := ?_) #[true, true, true, true, true, true, true, true, true, true, true, true, true, true, true, true, true, true, true, true, false, true, true, false, false, false, false] rfl rfl (any_of HT_.out (by kernel_rfl)) (fun _ _ _ h => h) (Or.inl ⟨by rfl, ?_⟩) ?_ ?_
                                  rotate_left
                                  · intro w'
                                    go_simp
                                    with_reducible rfl
                                  rotate_left
                                  · simp only [Act.put, List.setIfInBounds_toArray, List.set_cons_zero, List.set_cons_succ, i64_w, i32_w]
                                    rfl
                                  refine take_ (i := 20) (N := some 139) (v := ?_) (a' := ?_) #[true, true, true, true, true, true, true, true, true, true, true, true, true, true, true, true, true, true, true, true, true, true, true, false, false, false, false] rfl rfl (take_ofW HT_.out HW_.out (by kernel_rfl)) (fun _ _ _ h => h) (Or.inl ⟨by rfl, ?_⟩) hHeld ?_ ?_
                                  rotate_left
                                  · rintro w' s0
                                    go_simp
                                    with_reducible rfl
                                  rotate_left
                                  · simp only [Act.put, List.setIfInBounds_toArray, List.set_cons_zero, List.set_cons_succ, i64_w, i32_w]
                                    rfl
                                  refine one_ (i := 23) (N := some 142) #[true, true, true, true, true, true, true, true, true, true, true, true, true, true, true, true, true, true, true, true, true, true, true, true, false, false, false] rfl rfl (one_of HT_.out (by kernel_rfl)) (by decide) (fun K hK => ?_)
                                  refine goes_ Try.func35 (by kernel_rfl) rfl #[.int .u64 t149, .int .i64 3, .int .i64 1, .slice A180 (rd_L1 y133 1).length c180, .slice Ao83 y187.length co83] (by rfl) rfl rfl (by (try simp only [List.map_toArray, List.map_cons, List.map_nil]); first | done | rfl | (simp only [List.length_drop, List.length_take]; rfl)) ?_
                                  with_reducible refine (tree_Check.calls t149 3 1 _ _ (rd_L1 y133 1) _ _ y187 t192 _ (Kd.C_below HRe.out HB7.out) HCe.out (Kd.C_below HY.out HB7.out) HYC.out A76.out).mono ?_
                                  rintro e w8 ⟨rfl, hb⟩
                                  have HS0_ := (hb.cell (World.block_lt_of_cell? _ _ hHeld)).trans hHeld
                                  have HB8 := Aside0.mk (below_step HB7.out hb)
                                  refine ⟨_, rfl, ?_⟩
                                  refine hK.out _ _ HS0_ (fun hHeld => ?_)
                                  clear hb
                                  clear hK K
                                  refine norm_ (a' := ?_) ?_ ?_
                                  rotate_left
                                  · show Act.put _ (some 142) _ = _
                                    simp only [Act.put, List.setIfInBounds_toArray, List.set_cons_zero, List.set_cons_succ, i64_w, i32_w]
                                    rfl
                                  refine pure_ (i := 24) (N := some 143) (v := ?_) (a' := ?_) #[true, true, true, true, true, true, true, true, true, true, true, true, true, true, true, true, true, true, true, true, true, true, true, true, true, false, false] rfl rfl (any_of HT_.out (by kernel_rfl)) (fun _ _ _ h => h) (Or.inl ⟨by rfl, ?_⟩) ?_ ?_
                                  rotate_left
                                  · intro w'
                                    go_simp
                                    with_reducible rfl
                                  rotate_left
                                  · simp only [Act.put, List.setIfInBounds_toArray, List.set_cons_zero, List.set_cons_succ, i64_w, i32_w]
                                    rfl
                                  refine pure_ (i := 25) (N := some 144) (v := ?_) (a' := ?_) #[true, true, true, true, true, true, true, true, true, true, true, true, true, true, true, true, true, true, true, true, true, true, true, true, true, true, false] rfl rfl (any_of HT_.out (by kernel_rfl)) (fun _ _ _ h => h) (Or.inl ⟨by rfl, ?_⟩) ?_ ?_
                                  rotate_left
                                  · intro w'
                                    go_simp
                                    with_reducible rfl
                                  rotate_left
                                  · simp only [Act.put, List.setIfInBounds_toArray, List.set_cons_zero, List.set_cons_succ, i64_w, i32_w]
                                    rfl
                                  refine pure_ (i := 26) (N := some 0) (v := ?_) (a' := ?_) #[true, true, true, true, true, true, true, true, true, true, true, true, true, true, true, true, true, true, true, true, true, true, true, true, true, true, true] rfl rfl (any_of HT_.out (by kernel_rfl)) (fun _ _ _ h => h) (Or.inl ⟨by rfl, ?_⟩) ?_ ?_
                                  rotate_left
                                  · intro w'
                                    go_simp
                                    with_reducible rfl
                                  rotate_left
                                  · simp only [Act.put, List.setIfInBounds_toArray, List.set_cons_zero, List.set_cons_succ, i64_w, i32_w]
                                    rfl
                                  refine done_ (done_of HT_.out (by kernel_rfl)) ?_
                                  try go_wp2
                                  go_ret
                                  exact ⟨rfl, below_step HBw.out HB8.out⟩
                                · rw [if_neg c75] at H
                                  exact absurd H (by simp)
                            · exact absurd H (by rw [if_neg c54, HRT.out]; simp)
                          · rw [if_neg c52] at H
                            exact absurd H (by simp)
                        · exact absurd H (by rw [if_neg c51, HRT.out]; simp)
                      · exact absurd H (by rw [if_neg c48, HRT.out]; simp)
                    · exact absurd H (by rw [if_neg c46, HRT.out]; simp)
                  · exact absurd H (by rw [if_neg c44, HRT.out]; simp)
                · exact absurd H (by rw [if_neg c41, HRT.out]; simp)
        · rw [if_neg c7] at H
          exact absurd H (by simp)
      · rw [if_neg c5] at H
        exact absurd H (by simp)
    · rw [if_neg c3] at H
      exact absurd H (by simp)
  · rw [if_neg c1] at H
    exact absurd H (by simp)

end Go.Proofs.Ytnjhegcdjhklfaa.Phead
