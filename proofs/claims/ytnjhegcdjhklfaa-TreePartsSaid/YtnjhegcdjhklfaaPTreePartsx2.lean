/- Functions and contracts (of the statement TreeParts): written by the kit's print over stand-ins for the functions that it does not take; their contracts are proved by hand in the texts that this one imports. -/
import Derived.Test.YtnjhegcdjhklfaaPTreePartsx0
import Derived.Test.YtnjhegcdjhklfaaPTreePartsx1
import Derived.Test.YtnjhegcdjhklfaaPgs
namespace Go.Proofs.Ytnjhegcdjhklfaa.PTreeParts
open Go.RowKit Go.Proofs.YtnjhegcdjhklfaaW.PrintWords Go.Proofs.YtnjhegcdjhklfaaW.PrintLast Go.Proofs.YtnjhegcdjhklfaaW.PrintMore
attribute [local go_sem] max2_int min2_int max_two min_two max_three min_three max_four min_four   -- for this text's walks alone
set_option linter.unusedVariables false
set_option linter.unusedSimpArgs false

/-! ### slotmeshlaw35_TreeParts: function 7 -/
mutual
def slotmeshlaw35_TreeParts.j0 : Nat → List (List Int) → List Int → Bool → Bool → Option (Bool)
  | 0, _, _, _, _ => none
  | k + 1, x0, x1, x5, x28 => if x28 = true then (some x5) else (slotmeshlaw35_TreeParts.l0 k x0 x1 x5 1)
def slotmeshlaw35_TreeParts.l0 : Nat → List (List Int) → List Int → Bool → Int → Option (Bool)
  | 0, _, _, _, _ => none
  | k + 1, x0, x1, x5, x6 => if (wrap64 (2 * x6)) ≤ (x0.length : Int) then (slotmeshlaw35_TreeParts.l0 k x0 x1 x5 (wrap64 (x6 * 2))) else (if 0 ≤ x6 then (if x6 ≤ (x0.length : Int) then ((tree_Root.f (x0.take (x6 : Int).toNat)).bind fun bt139 => (if bt139.2 = 0 then (if x6 > 1 then (if 0 ≤ (wrap64 (Int.tdiv x6 2)) then (if (wrap64 (Int.tdiv x6 2)) ≤ (x0.length : Int) then ((tree_Root.f (x0.take ((wrap64 (Int.tdiv x6 2)) : Int).toNat)).bind fun bt145 => (if (wrap64 (Int.tdiv x6 2)) ≤ x6 then ((tree_Root.f ((x0.take (x6 : Int).toNat).drop ((wrap64 (Int.tdiv x6 2)) : Int).toNat)).bind fun bt151 => (if bt145.2 = 0 then (if bt151.2 = 0 then ((digest_Pair.f bt145.1 bt151.1).bind fun t153 => (if bt139.1 = t153 then (slotmeshlaw35_TreeParts.j2 k x0 x1 x5 x6 bt139.1) else (some false))) else (some false)) else (some false))) else (none))) else (none)) else (none)) else (slotmeshlaw35_TreeParts.j2 k x0 x1 x5 x6 bt139.1)) else (some false))) else (none)) else (none))
def slotmeshlaw35_TreeParts.j2 : Nat → List (List Int) → List Int → Bool → Int → Int → Option (Bool)
  | 0, _, _, _, _, _ => none
  | k + 1, x0, x1, x5, x6, x7 => if x6 = 16 then (some x5) else (if 0 ≤ x6 ∧ x6 ≤ 16 then (if x6 ≤ (x0.length : Int) then ((tree_Root.f (x0.take (x6 : Int).toNat ++ [x1])).bind fun bt158 => (if x5 = true then (if bt158.2 = 0 then ((slotmeshlaw35_leaf.f x1).bind fun t160 => ((digest_Pair.f x7 t160).bind fun t161 => (some (bt158.1 == t161)))) else (some false)) else (some false))) else (none)) else (none))
end
def slotmeshlaw35_TreeParts.f (k : Nat) (l0 : List (List Int)) (l1 : List Int) : Option (Bool) := (slotmeshlaw35_head.f).bind fun t132 => ((slotmeshlaw35_few.f k l0).bind fun t133 => (if t133 = true then ((slotmeshref35_Pages.f k l0).bind fun t134 => (if t134 = true then (slotmeshlaw35_TreeParts.j0 k l0 l1 t132 (decide ((l1.length : Int) > 256))) else (slotmeshlaw35_TreeParts.j0 k l0 l1 t132 true))) else (slotmeshlaw35_TreeParts.j0 k l0 l1 t132 true)))
theorem slotmeshlaw35_TreeParts.mono_l : ∀ k, (∀ y0 y1 y2 y3, LeO (slotmeshlaw35_TreeParts.j0 k y0 y1 y2 y3) (slotmeshlaw35_TreeParts.j0 (k + 1) y0 y1 y2 y3)) ∧ (∀ y0 y1 y2 y3, LeO (slotmeshlaw35_TreeParts.l0 k y0 y1 y2 y3) (slotmeshlaw35_TreeParts.l0 (k + 1) y0 y1 y2 y3)) ∧ (∀ y0 y1 y2 y3 y4, LeO (slotmeshlaw35_TreeParts.j2 k y0 y1 y2 y3 y4) (slotmeshlaw35_TreeParts.j2 (k + 1) y0 y1 y2 y3 y4))
  | 0 => ⟨fun _ _ _ _ r h => by simp [slotmeshlaw35_TreeParts.j0] at h, fun _ _ _ _ r h => by simp [slotmeshlaw35_TreeParts.l0] at h, fun _ _ _ _ _ r h => by simp [slotmeshlaw35_TreeParts.j2] at h⟩
  | k + 1 => by
    obtain ⟨ih0, ih1, ih2⟩ := slotmeshlaw35_TreeParts.mono_l k
    refine ⟨?_, ?_, ?_⟩
    · intro y0 y1 y2 y3
      unfold slotmeshlaw35_TreeParts.j0
      repeat' first
      | (with_reducible exact ih0 _ _ _ _)
      | (with_reducible exact ih1 _ _ _ _)
      | (with_reducible exact ih2 _ _ _ _ _)
      | (with_reducible exact slotmeshlaw35_few.mono _ _)
      | (with_reducible exact slotmeshref35_Pages.mono _ _)
      | (with_reducible exact LeO.refl _)
      | (with_reducible exact LeO.none _)
      | (with_reducible refine LeO.ite ?_ ?_)
      | (with_reducible refine LeO.bind ?_ (fun _ => ?_))
      | exact ih0 _ _ _ _
      | exact ih1 _ _ _ _
      | exact ih2 _ _ _ _ _
      | exact slotmeshlaw35_few.mono _ _
      | exact slotmeshref35_Pages.mono _ _
      | exact LeO.none _
      | refine LeO.ite ?_ ?_
      | refine LeO.bind ?_ (fun _ => ?_)
    · intro y0 y1 y2 y3
      unfold slotmeshlaw35_TreeParts.l0
      repeat' first
      | (with_reducible exact ih0 _ _ _ _)
      | (with_reducible exact ih1 _ _ _ _)
      | (with_reducible exact ih2 _ _ _ _ _)
      | (with_reducible exact slotmeshlaw35_few.mono _ _)
      | (with_reducible exact slotmeshref35_Pages.mono _ _)
      | (with_reducible exact LeO.refl _)
      | (with_reducible exact LeO.none _)
      | (with_reducible refine LeO.ite ?_ ?_)
      | (with_reducible refine LeO.bind ?_ (fun _ => ?_))
      | exact ih0 _ _ _ _
      | exact ih1 _ _ _ _
      | exact ih2 _ _ _ _ _
      | exact slotmeshlaw35_few.mono _ _
      | exact slotmeshref35_Pages.mono _ _
      | exact LeO.none _
      | refine LeO.ite ?_ ?_
      | refine LeO.bind ?_ (fun _ => ?_)
    · intro y0 y1 y2 y3 y4
      unfold slotmeshlaw35_TreeParts.j2
      repeat' first
      | (with_reducible exact ih0 _ _ _ _)
      | (with_reducible exact ih1 _ _ _ _)
      | (with_reducible exact ih2 _ _ _ _ _)
      | (with_reducible exact slotmeshlaw35_few.mono _ _)
      | (with_reducible exact slotmeshref35_Pages.mono _ _)
      | (with_reducible exact LeO.refl _)
      | (with_reducible exact LeO.none _)
      | (with_reducible refine LeO.ite ?_ ?_)
      | (with_reducible refine LeO.bind ?_ (fun _ => ?_))
      | exact ih0 _ _ _ _
      | exact ih1 _ _ _ _
      | exact ih2 _ _ _ _ _
      | exact slotmeshlaw35_few.mono _ _
      | exact slotmeshref35_Pages.mono _ _
      | exact LeO.none _
      | refine LeO.ite ?_ ?_
      | refine LeO.bind ?_ (fun _ => ?_)
theorem slotmeshlaw35_TreeParts.mono : ∀ a0 a1 k, LeO (slotmeshlaw35_TreeParts.f k a0 a1) (slotmeshlaw35_TreeParts.f (k + 1) a0 a1) := by
  intro a0 a1 k
  obtain ⟨ih0, ih1, ih2⟩ := slotmeshlaw35_TreeParts.mono_l k
  unfold slotmeshlaw35_TreeParts.f
  repeat' first
      | (with_reducible exact ih0 _ _ _ _)
      | (with_reducible exact ih1 _ _ _ _)
      | (with_reducible exact ih2 _ _ _ _ _)
      | (with_reducible exact slotmeshlaw35_few.mono _ _)
      | (with_reducible exact slotmeshref35_Pages.mono _ _)
      | (with_reducible exact LeO.refl _)
      | (with_reducible exact LeO.none _)
      | (with_reducible refine LeO.ite ?_ ?_)
      | (with_reducible refine LeO.bind ?_ (fun _ => ?_))
      | exact ih0 _ _ _ _
      | exact ih1 _ _ _ _
      | exact ih2 _ _ _ _ _
      | exact slotmeshlaw35_few.mono _ _
      | exact slotmeshref35_Pages.mono _ _
      | exact LeO.none _
      | refine LeO.ite ?_ ?_
      | refine LeO.bind ?_ (fun _ => ?_)
set_option maxHeartbeats 8000000 in
set_option maxRecDepth 100000 in
theorem slotmeshlaw35_TreeParts.calls (k : Nat) (A0 : Option Addr) (c0 : Nat) (l0 : List (List Int)) (A1 : Option Addr) (c1 : Nat) (l1 : List Int) (r : Bool) (w : World) (hr0 : Kd.C (Kd.slice 5 (Kd.int .u8)) w A0 l0.length l0) (hc0 : l0.length ≤ c0) (hr1 : Kd.C (Kd.int .u8) w A1 l1.length l1) (hc1 : l1.length ≤ c1) (h : slotmeshlaw35_TreeParts.f k l0 l1 = some r) :
    Calls Try.prog 7 #[.slice A0 l0.length c0, .slice A1 l1.length c1] w fun e w' => e = .returned (.bool r) ∧ Below w.heap.size w w' := by
  have HR0 := Aside0.mk hr0
  have HC0 := Aside0.mk hc0
  clear hr0 hc0
  have HR1 := Aside0.mk hr1
  have HC1 := Aside0.mk hc1
  clear hr1 hc1
  have HB := Aside0.mk (Below.refl w.heap.size w)
  have H : ((slotmeshlaw35_head.f).bind fun t132 => ((slotmeshlaw35_few.f k l0).bind fun t133 => (if t133 = true then ((slotmeshref35_Pages.f k l0).bind fun t134 => (if t134 = true then (slotmeshlaw35_TreeParts.j0 k l0 l1 t132 (decide ((l1.length : Int) > 256))) else (slotmeshlaw35_TreeParts.j0 k l0 l1 t132 true))) else (slotmeshlaw35_TreeParts.j0 k l0 l1 t132 true)))) = some r := h
  clear h
  replace H := Option.bind_eq_some_iff.mp H
  obtain ⟨t132, A30, H⟩ := H
  replace H : ((slotmeshlaw35_few.f k l0).bind fun t133 => (if t133 = true then ((slotmeshref35_Pages.f k l0).bind fun t134 => (if t134 = true then (slotmeshlaw35_TreeParts.j0 k l0 l1 t132 (decide ((l1.length : Int) > 256))) else (slotmeshlaw35_TreeParts.j0 k l0 l1 t132 true))) else (slotmeshlaw35_TreeParts.j0 k l0 l1 t132 true))) = some r := H
  have A3 := Aside0.mk A30
  clear A30
  have HC4 := Aside0.mk H
  clear H
  go_enter Try.func7, Try.ntmps7
  go_upto_region 2 with (first | ((with_reducible refine gate_callee (f := 24) rfl ?_); refine goesL_ (some 15) rfl rfl Try.func24 (by kernel_rfl) rfl #[] rfl (by (try simp only [List.map_toArray, List.map_cons, List.map_nil]); first | done | rfl | (simp only [List.length_drop, List.length_take]; rfl)) ?_; (with_reducible refine (slotmeshlaw35_head.calls  t132 _ A3.out).mono ?_); rintro e w5 ⟨rfl, hb⟩; refine ⟨_, rfl, ?_⟩; have n0_ := Aside0.mk (below_step (by repeat (first | (with_reducible first | exact HB.out | apply below_alloc | apply pw_below_drewN | apply below_drew1) | exact HB.out)) hb); clear HB; have HB := n0_; clear n0_; (try clear hb); (try clear hb2); (try clear hk); (try clear hi)))
  (try simp only [Act.put, List.setIfInBounds_toArray, List.set_cons_zero, List.set_cons_succ])
  go_cut [28] (fun v28 wc => ∃ (kq : Nat) (x28_3 : Bool), v28 = .bool x28_3 ∧ Aside0 (slotmeshlaw35_TreeParts.j0 kq l0 l1 t132 x28_3 = some r) ∧ Aside0 (kq ≤ k) ∧ Aside0 (Below w.heap.size w wc))
  case first =>
    have H := HC4.out
    clear HC4
    replace H := Option.bind_eq_some_iff.mp H
    obtain ⟨t133, A60, H⟩ := H
    replace H : (if t133 = true then ((slotmeshref35_Pages.f k l0).bind fun t134 => (if t134 = true then (slotmeshlaw35_TreeParts.j0 k l0 l1 t132 (decide ((l1.length : Int) > 256))) else (slotmeshlaw35_TreeParts.j0 k l0 l1 t132 true))) else (slotmeshlaw35_TreeParts.j0 k l0 l1 t132 true)) = some r := H
    have A6 := Aside0.mk A60
    clear A60
    by_cases c7 : t133 = true
    · subst c7
      have H1 : ((slotmeshref35_Pages.f k l0).bind fun t134 => (if t134 = true then (slotmeshlaw35_TreeParts.j0 k l0 l1 t132 (decide ((l1.length : Int) > 256))) else (slotmeshlaw35_TreeParts.j0 k l0 l1 t132 true))) = some r := by rw [if_pos rfl] at H; exact H
      clear H
      have H := H1
      clear H1
      replace H := Option.bind_eq_some_iff.mp H
      obtain ⟨t134, A80, H⟩ := H
      replace H : (if t134 = true then (slotmeshlaw35_TreeParts.j0 k l0 l1 t132 (decide ((l1.length : Int) > 256))) else (slotmeshlaw35_TreeParts.j0 k l0 l1 t132 true)) = some r := H
      have A8 := Aside0.mk A80
      clear A80
      by_cases c9 : t134 = true
      · subst c9
        have H1 : (slotmeshlaw35_TreeParts.j0 k l0 l1 t132 (decide ((l1.length : Int) > 256))) = some r := by rw [if_pos rfl] at H; exact H
        clear H
        have H := H1
        clear H1
        have H' := Aside0.mk H
        clear H
        go_wp2_with (first | ((with_reducible refine gate_callee (f := 26) rfl ?_); refine goesL_ (some 17) rfl rfl Try.func26 (by kernel_rfl) rfl #[.slice A0 l0.length c0] rfl (by (try simp only [List.map_toArray, List.map_cons, List.map_nil]); first | done | rfl | (simp only [List.length_drop, List.length_take]; rfl)) ?_; (with_reducible refine (slotmeshlaw35_few.calls k _ _ l0 true _ ?side1 ?side2 A6.out).mono ?_); (case side1 => repeat (first | exact (Kd.C_below HR0.out HB.out) | (with_reducible refine Kd.C_alloc ?_ _) | (with_reducible refine Kd.C_drewN ?_ _) | (with_reducible refine Kd.C_drew ?_))); (case side2 => exact HC0.out); rintro e w' ⟨rfl, ⟨nd, rfl⟩⟩; refine ⟨_, rfl, ?_⟩) | (go_at_call 27; (with_reducible refine (slotmeshref35_Pages.calls k _ _ l0 true _ ?side1 ?side2 A8.out).mono ?_); (case side1 => repeat (first | exact (Kd.C_below HR0.out (by repeat (first | (with_reducible first | exact HB.out | apply below_alloc | apply pw_below_drewN | apply below_drew1) | exact HB.out))) | (with_reducible refine Kd.C_alloc ?_ _) | (with_reducible refine Kd.C_drewN ?_ _) | (with_reducible refine Kd.C_drew ?_))); (case side2 => exact HC0.out); rintro e w' ⟨rfl, ⟨nd, rfl⟩⟩))
        go_meet
        case rel => exact ⟨_, (decide ((l1.length : Int) > 256)), (by first | rfl | (simp; done) | (simp [*]; done)), H', ⟨by first | omega | exact Nat.le_refl _⟩, ⟨by repeat (first | (with_reducible first | exact HB.out | apply below_alloc | apply pw_below_drewN | apply below_drew1) | exact HB.out)⟩⟩
      · replace c9 := Bool.eq_false_iff.mpr c9
        subst c9
        have H1 : (slotmeshlaw35_TreeParts.j0 k l0 l1 t132 true) = some r := by rw [if_neg (show ¬ (false = true) by decide)] at H; exact H
        clear H
        have H := H1
        clear H1
        have H' := Aside0.mk H
        clear H
        go_wp2_with (first | ((with_reducible refine gate_callee (f := 26) rfl ?_); refine goesL_ (some 17) rfl rfl Try.func26 (by kernel_rfl) rfl #[.slice A0 l0.length c0] rfl (by (try simp only [List.map_toArray, List.map_cons, List.map_nil]); first | done | rfl | (simp only [List.length_drop, List.length_take]; rfl)) ?_; (with_reducible refine (slotmeshlaw35_few.calls k _ _ l0 true _ ?side1 ?side2 A6.out).mono ?_); (case side1 => repeat (first | exact (Kd.C_below HR0.out HB.out) | (with_reducible refine Kd.C_alloc ?_ _) | (with_reducible refine Kd.C_drewN ?_ _) | (with_reducible refine Kd.C_drew ?_))); (case side2 => exact HC0.out); rintro e w' ⟨rfl, ⟨nd, rfl⟩⟩; refine ⟨_, rfl, ?_⟩) | (go_at_call 27; (with_reducible refine (slotmeshref35_Pages.calls k _ _ l0 false _ ?side1 ?side2 A8.out).mono ?_); (case side1 => repeat (first | exact (Kd.C_below HR0.out (by repeat (first | (with_reducible first | exact HB.out | apply below_alloc | apply pw_below_drewN | apply below_drew1) | exact HB.out))) | (with_reducible refine Kd.C_alloc ?_ _) | (with_reducible refine Kd.C_drewN ?_ _) | (with_reducible refine Kd.C_drew ?_))); (case side2 => exact HC0.out); rintro e w' ⟨rfl, ⟨nd, rfl⟩⟩))
        go_meet
        case rel => exact ⟨_, (true), (by first | rfl | (simp; done) | (simp [*]; done)), H', ⟨by first | omega | exact Nat.le_refl _⟩, ⟨by repeat (first | (with_reducible first | exact HB.out | apply below_alloc | apply pw_below_drewN | apply below_drew1) | exact HB.out)⟩⟩
    · replace c7 := Bool.eq_false_iff.mpr c7
      subst c7
      have H1 : (slotmeshlaw35_TreeParts.j0 k l0 l1 t132 true) = some r := by rw [if_neg (show ¬ (false = true) by decide)] at H; exact H
      clear H
      have H := H1
      clear H1
      have H' := Aside0.mk H
      clear H
      go_wp2_with (first | ((with_reducible refine gate_callee (f := 26) rfl ?_); refine goesL_ (some 17) rfl rfl Try.func26 (by kernel_rfl) rfl #[.slice A0 l0.length c0] rfl (by (try simp only [List.map_toArray, List.map_cons, List.map_nil]); first | done | rfl | (simp only [List.length_drop, List.length_take]; rfl)) ?_; (with_reducible refine (slotmeshlaw35_few.calls k _ _ l0 false _ ?side1 ?side2 A6.out).mono ?_); (case side1 => repeat (first | exact (Kd.C_below HR0.out HB.out) | (with_reducible refine Kd.C_alloc ?_ _) | (with_reducible refine Kd.C_drewN ?_ _) | (with_reducible refine Kd.C_drew ?_))); (case side2 => exact HC0.out); rintro e w' ⟨rfl, ⟨nd, rfl⟩⟩; refine ⟨_, rfl, ?_⟩))
      go_meet
      case rel => exact ⟨_, (true), (by first | rfl | (simp; done) | (simp [*]; done)), H', ⟨by first | omega | exact Nat.le_refl _⟩, ⟨by repeat (first | (with_reducible first | exact HB.out | apply below_alloc | apply pw_below_drewN | apply below_drew1) | exact HB.out)⟩⟩
  case rest =>
    clear HC4
    try clear c1
    try clear c2
    try clear p2
    try clear c7
    try clear c9
    obtain ⟨kq, x28_3, rfl, HA, HJ3, HB⟩ := hcut
    cases kq with
    | zero => exact absurd HA.out (by simp [slotmeshlaw35_TreeParts.j0])
    | succ kj3 =>
      have H := HA.out
      clear HA
      simp only [slotmeshlaw35_TreeParts.j0] at H
      by_cases c10 : x28_3 = true
      · subst c10
        have H1 : (some t132) = some r := by rw [if_pos rfl] at H; exact H
        clear H
        have H := H1
        clear H1
        obtain rfl := Option.some.inj H
        go_wp2
        go_ret
        exact ⟨by first | rfl | (simp [errW_none, errW_some] <;> rfl) | (simp [*, errW_none, errW_some] <;> rfl), by repeat (first | (with_reducible first | exact HB.out | apply below_alloc | apply pw_below_drewN | apply below_drew1) | exact HB.out)⟩
      · replace c10 := Bool.eq_false_iff.mpr c10
        subst c10
        have H1 : (slotmeshlaw35_TreeParts.l0 kj3 l0 l1 t132 1) = some r := by rw [if_neg (show ¬ (false = true) by decide)] at H; exact H
        clear H
        have H := H1
        clear H1
        have H' := Aside0.mk H
        clear H
        go_wp2
        go_loopg [6] kj3 (fun kq v6 w' => ∃ (x6_2 : Int), v6 = .int .i64 x6_2 ∧ Aside0 (slotmeshlaw35_TreeParts.l0 kq l0 l1 t132 x6_2 = some r) ∧ Aside0 (kq ≤ kj3) ∧ Aside0 (Below w.heap.size w w'))
        case atStart => exact ⟨(1), (by first | rfl | (simp; done) | (simp [*]; done)), H', ⟨Nat.le_refl _⟩, ⟨by repeat (first | (with_reducible first | exact HB.out | apply below_alloc | apply pw_below_drewN | apply below_drew1) | exact HB.out)⟩⟩
        case round =>
          clear H'
          try clear c1
          try clear c2
          try clear p2
          try clear c7
          try clear c9
          try clear c10
          try clear p2
          obtain ⟨x6_2, rfl, HA, HK2, HB⟩ := hrel
          cases gk with
          | zero => exact absurd HA.out (by simp [slotmeshlaw35_TreeParts.l0])
          | succ k2 =>
            have H := HA.out
            clear HA
            simp only [slotmeshlaw35_TreeParts.l0] at H
            by_cases c11 : (wrap64 (2 * x6_2)) ≤ (l0.length : Int)
            · rw [if_pos c11] at H
              have c11b0 : decide ((wrap64 (2 * x6_2)) ≤ (l0.length : Int)) = true := decide_eq_true c11
              clear c11
              have H' := Aside0.mk H
              clear H
              go_wp2
              go_roundg k2
              case measure => have := HJ3.out; have := HK2.out; omega
              case rel => exact ⟨(wrap64 (x6_2 * 2)), (by first | rfl | (simp; done) | (simp [*]; done)), H', ⟨by have := HJ3.out; have := HK2.out; omega⟩, ⟨by repeat (first | (with_reducible first | exact HB.out | apply below_alloc | apply pw_below_drewN | apply below_drew1) | exact HB.out)⟩⟩
            · rw [if_neg c11] at H
              have c11b0 : decide ((wrap64 (2 * x6_2)) ≤ (l0.length : Int)) = false := decide_eq_false c11
              clear c11
              by_cases c12 : 0 ≤ x6_2
              · rw [if_pos c12] at H
                have c12b0 := eq_true c12
                have c12b1 : decide (0 ≤ x6_2) = true := decide_eq_true c12
                clear c12
                by_cases c13 : x6_2 ≤ (l0.length : Int)
                · rw [if_pos c13] at H
                  have c13b0 := eq_true c13
                  have c13b1 : decide (x6_2 ≤ (l0.length : Int)) = true := decide_eq_true c13
                  clear c13
                  obtain ⟨y135, hy135⟩ : ∃ y_ : List (List Int), y_ = (l0.take (x6_2 : Int).toNat) := ⟨_, rfl⟩
                  replace H : ((tree_Root.f y135).bind fun bt139 => (if bt139.2 = 0 then (if x6_2 > 1 then (if 0 ≤ (wrap64 (Int.tdiv x6_2 2)) then (if (wrap64 (Int.tdiv x6_2 2)) ≤ (l0.length : Int) then ((tree_Root.f (l0.take ((wrap64 (Int.tdiv x6_2 2)) : Int).toNat)).bind fun bt145 => (if (wrap64 (Int.tdiv x6_2 2)) ≤ x6_2 then ((tree_Root.f ((l0.take (x6_2 : Int).toNat).drop ((wrap64 (Int.tdiv x6_2 2)) : Int).toNat)).bind fun bt151 => (if bt145.2 = 0 then (if bt151.2 = 0 then ((digest_Pair.f bt145.1 bt151.1).bind fun t153 => (if bt139.1 = t153 then (slotmeshlaw35_TreeParts.j2 k2 l0 l1 t132 x6_2 bt139.1) else (some false))) else (some false)) else (some false))) else (none))) else (none)) else (none)) else (slotmeshlaw35_TreeParts.j2 k2 l0 l1 t132 x6_2 bt139.1)) else (some false))) = some r := by first | (rw [hy135]; with_reducible exact H) | (have H2_ := (Option.bind_some _ _).symm.trans H; rw [hy135]; with_reducible exact H2_) | (have H2_ := (Option.bind_some _ _).symm.trans H; with_reducible exact H2_) | with_reducible exact H | (rw [hy135]; exact H) | exact H
                  have Ny135 := Aside0.mk hy135
                  clear hy135
                  replace H := Option.bind_eq_some_iff.mp H
                  obtain ⟨⟨t139, t140⟩, A140, H⟩ := H
                  replace H : (if t140 = 0 then (if x6_2 > 1 then (if 0 ≤ (wrap64 (Int.tdiv x6_2 2)) then (if (wrap64 (Int.tdiv x6_2 2)) ≤ (l0.length : Int) then ((tree_Root.f (l0.take ((wrap64 (Int.tdiv x6_2 2)) : Int).toNat)).bind fun bt145 => (if (wrap64 (Int.tdiv x6_2 2)) ≤ x6_2 then ((tree_Root.f ((l0.take (x6_2 : Int).toNat).drop ((wrap64 (Int.tdiv x6_2 2)) : Int).toNat)).bind fun bt151 => (if bt145.2 = 0 then (if bt151.2 = 0 then ((digest_Pair.f bt145.1 bt151.1).bind fun t153 => (if t139 = t153 then (slotmeshlaw35_TreeParts.j2 k2 l0 l1 t132 x6_2 t139) else (some false))) else (some false)) else (some false))) else (none))) else (none)) else (none)) else (slotmeshlaw35_TreeParts.j2 k2 l0 l1 t132 x6_2 t139)) else (some false)) = some r := H
                  have A14 := Aside0.mk A140
                  clear A140
                  by_cases c15 : t140 = 0
                  · rw [if_pos c15] at H
                    have c15b0 : (t140 == 0) = true := beq_iff_eq.mpr c15
                    have c15b1 : (t140 != 0) = false := bne_eq_false_iff_eq.mpr c15
                    clear c15
                    have HC16 := Aside0.mk H
                    clear H
                    have q17 : (x6_2 : Int) ≤ ((l0.length : Int) : Int) := of_decide_eq_true (by first | (with_reducible assumption) | assumption)
                    obtain ⟨i017, hi017, _, hsz17, _⟩ := info_parts info22
                    have hroom17 : l0.length ≤ c0 := HC0.out
                    have hC17 : Kd.C (Kd.slice 5 (Kd.int .u8)) _ A0 l0.length l0 := HR0.out
                    have hcut17 := cut_to (P := Try.prog) 32 22 .i64 Try.underlying32 hi017 A0 l0.length c0 x6_2 (of_decide_eq_true (by first | (with_reducible assumption) | assumption)) q17 hroom17
                    have hr17 := Kd.C_take (m := (x6_2 : Int).toNat) hC17 (by omega)
                    have hy17 : y135.length = (x6_2 : Int).toNat := (by rw [Ny135.out, List.length_take]; omega)
                    rw [← Ny135.out] at hr17
                    rw [← hy17] at hcut17
                    have HR138 := Aside0.mk hr17
                    have HC138 := Aside0.mk (show y135.length ≤ c0 from by omega)
                    clear hr17 hC17 hroom17 hi017 hsz17
                    have KY17 := Aside0.mk hy17
                    clear hy17
                    replace q17 := eq_true q17
                    go_upto_if 47 with (first | ((with_reducible refine gate_callee (f := 28) rfl ?_); refine goesL_ (some 41) rfl rfl Try.func28 (by kernel_rfl) rfl #[.slice A0 y135.length c0] rfl (by (try simp only [List.map_toArray, List.map_cons, List.map_nil]); first | done | rfl | (simp only [List.length_drop, List.length_take]; rfl)) ?_; (with_reducible refine (tree_Root.calls _ _ y135 t139 t140 _ ?side1 ?side2 A14.out).mono ?_); (case side1 => repeat (first | exact (Kd.C_below HR138.out HB.out) | (with_reducible refine Kd.C_alloc ?_ _) | (with_reducible refine Kd.C_drewN ?_ _) | (with_reducible refine Kd.C_drew ?_))); (case side2 => exact HC138.out); rintro e w18 ⟨rfl, hb⟩; refine ⟨_, rfl, ?_⟩; have n0_ := Aside0.mk (below_step (by repeat (first | (with_reducible first | exact HB.out | apply below_alloc | apply pw_below_drewN | apply below_drew1) | exact HB.out)) hb); clear HB; have HB := n0_; clear n0_; (try clear hb); (try clear hb2); (try clear hk); (try clear hi)))
                    (try simp only [Act.put, List.setIfInBounds_toArray, List.set_cons_zero, List.set_cons_succ])
                    go_cut [] (fun wc => ∃ (kq : Nat), Aside0 (slotmeshlaw35_TreeParts.j2 kq l0 l1 t132 x6_2 t139 = some r) ∧ Aside0 (kq ≤ k2) ∧ Aside0 (Below w.heap.size w wc))
                    case first =>
                      have H := HC16.out
                      clear HC16
                      by_cases c19 : x6_2 > 1
                      · rw [if_pos c19] at H
                        have c19b0 : decide (1 < x6_2) = true := decide_eq_true c19
                        clear c19
                        (first | rw [c19b0] | (simp only [i64_w, i32_w]; rw [c19b0]) | skip)
                        obtain ⟨ji20, hji20⟩ : ∃ j_ : Int, (wrap64 (Int.tdiv x6_2 2)) = j_ := ⟨_, rfl⟩
                        replace H : (if 0 ≤ (ji20) then (if (ji20) ≤ (l0.length : Int) then ((tree_Root.f (l0.take ((ji20) : Int).toNat)).bind fun bt145 => (if (ji20) ≤ x6_2 then ((tree_Root.f ((l0.take (x6_2 : Int).toNat).drop ((ji20) : Int).toNat)).bind fun bt151 => (if bt145.2 = 0 then (if bt151.2 = 0 then ((digest_Pair.f bt145.1 bt151.1).bind fun t153 => (if t139 = t153 then (slotmeshlaw35_TreeParts.j2 k2 l0 l1 t132 x6_2 t139) else (some false))) else (some false)) else (some false))) else (none))) else (none)) else (none)) = some r := by first | (rw [hji20] at H; exact H) | (simp only [hji20] at H ⊢; exact H)
                        have hji20w : (IntKind.i64.wrap (Int.tdiv x6_2 2)) = ji20 := (i64_w _).trans hji20
                        by_cases c21 : 0 ≤ (ji20)
                        · rw [if_pos c21] at H
                          have c21b0 := eq_true c21
                          have c21b1 : decide (0 ≤ (ji20)) = true := decide_eq_true c21
                          clear c21
                          by_cases c22 : (ji20) ≤ (l0.length : Int)
                          · rw [if_pos c22] at H
                            have c22b0 := eq_true c22
                            have c22b1 : decide ((ji20) ≤ (l0.length : Int)) = true := decide_eq_true c22
                            clear c22
                            obtain ⟨y141, hy141⟩ : ∃ y_ : List (List Int), y_ = (l0.take ((ji20) : Int).toNat) := ⟨_, rfl⟩
                            replace H : ((tree_Root.f y141).bind fun bt145 => (if (ji20) ≤ x6_2 then ((tree_Root.f ((l0.take (x6_2 : Int).toNat).drop ((ji20) : Int).toNat)).bind fun bt151 => (if bt145.2 = 0 then (if bt151.2 = 0 then ((digest_Pair.f bt145.1 bt151.1).bind fun t153 => (if t139 = t153 then (slotmeshlaw35_TreeParts.j2 k2 l0 l1 t132 x6_2 t139) else (some false))) else (some false)) else (some false))) else (none))) = some r := by first | (rw [hy141]; with_reducible exact H) | (have H2_ := (Option.bind_some _ _).symm.trans H; rw [hy141]; with_reducible exact H2_) | (have H2_ := (Option.bind_some _ _).symm.trans H; with_reducible exact H2_) | with_reducible exact H | (rw [hy141]; exact H) | exact H
                            have Ny141 := Aside0.mk hy141
                            clear hy141
                            replace H := Option.bind_eq_some_iff.mp H
                            obtain ⟨⟨t145, t146⟩, A230, H⟩ := H
                            replace H : (if (ji20) ≤ x6_2 then ((tree_Root.f ((l0.take (x6_2 : Int).toNat).drop ((ji20) : Int).toNat)).bind fun bt151 => (if t146 = 0 then (if bt151.2 = 0 then ((digest_Pair.f t145 bt151.1).bind fun t153 => (if t139 = t153 then (slotmeshlaw35_TreeParts.j2 k2 l0 l1 t132 x6_2 t139) else (some false))) else (some false)) else (some false))) else (none)) = some r := H
                            have A23 := Aside0.mk A230
                            clear A230
                            have c24b0 := eq_true (of_decide_eq_true (by first | (with_reducible assumption) | assumption) : 0 ≤ (ji20))
                            by_cases c25 : (ji20) ≤ x6_2
                            · rw [if_pos c25] at H
                              have c25b0 := eq_true c25
                              have c25b1 : decide ((ji20) ≤ x6_2) = true := decide_eq_true c25
                              clear c25
                              have c26b0 := eq_true (of_decide_eq_true (by first | (with_reducible assumption) | assumption) : x6_2 ≤ (l0.length : Int))
                              obtain ⟨y147, hy147⟩ : ∃ y_ : List (List Int), y_ = ((l0.take (x6_2 : Int).toNat).drop ((ji20) : Int).toNat) := ⟨_, rfl⟩
                              replace H : ((tree_Root.f y147).bind fun bt151 => (if t146 = 0 then (if bt151.2 = 0 then ((digest_Pair.f t145 bt151.1).bind fun t153 => (if t139 = t153 then (slotmeshlaw35_TreeParts.j2 k2 l0 l1 t132 x6_2 t139) else (some false))) else (some false)) else (some false))) = some r := by first | (rw [hy147]; with_reducible exact H) | (have H2_ := (Option.bind_some _ _).symm.trans H; rw [hy147]; with_reducible exact H2_) | (have H2_ := (Option.bind_some _ _).symm.trans H; with_reducible exact H2_) | with_reducible exact H | (rw [hy147]; exact H) | exact H
                              have Ny147 := Aside0.mk hy147
                              clear hy147
                              replace H := Option.bind_eq_some_iff.mp H
                              obtain ⟨⟨t151, t152⟩, A270, H⟩ := H
                              replace H : (if t146 = 0 then (if t152 = 0 then ((digest_Pair.f t145 t151).bind fun t153 => (if t139 = t153 then (slotmeshlaw35_TreeParts.j2 k2 l0 l1 t132 x6_2 t139) else (some false))) else (some false)) else (some false)) = some r := H
                              have A27 := Aside0.mk A270
                              clear A270
                              by_cases c28 : t146 = 0
                              · rw [if_pos c28] at H
                                have c28b0 : (t146 == 0) = true := beq_iff_eq.mpr c28
                                have c28b1 : (t146 != 0) = false := bne_eq_false_iff_eq.mpr c28
                                clear c28
                                by_cases c29 : t152 = 0
                                · rw [if_pos c29] at H
                                  have c29b0 : (t152 == 0) = true := beq_iff_eq.mpr c29
                                  have c29b1 : (t152 != 0) = false := bne_eq_false_iff_eq.mpr c29
                                  clear c29
                                  replace H := Option.bind_eq_some_iff.mp H
                                  obtain ⟨t153, A300, H⟩ := H
                                  replace H : (if t139 = t153 then (slotmeshlaw35_TreeParts.j2 k2 l0 l1 t132 x6_2 t139) else (some false)) = some r := H
                                  have A30 := Aside0.mk A300
                                  clear A300
                                  by_cases c31 : t139 = t153
                                  · rw [if_pos c31] at H
                                    have c31b0 : (t139 == t153) = true := beq_iff_eq.mpr c31
                                    have c31b1 : (t139 != t153) = false := bne_eq_false_iff_eq.mpr c31
                                    clear c31
                                    have H' := Aside0.mk H
                                    clear H
                                    have q32 : ((ji20) : Int) ≤ ((l0.length : Int) : Int) := of_decide_eq_true (by first | (with_reducible assumption) | assumption)
                                    obtain ⟨i032, hi032, _, hsz32, _⟩ := info_parts info22
                                    have hroom32 : l0.length ≤ c0 := HC0.out
                                    have hC32 : Kd.C (Kd.slice 5 (Kd.int .u8)) _ A0 l0.length l0 := HR0.out
                                    have hcut32 := cut_to (P := Try.prog) 32 22 .i64 Try.underlying32 hi032 A0 l0.length c0 (ji20) (of_decide_eq_true (by first | (with_reducible assumption) | assumption)) q32 hroom32
                                    have hr32 := Kd.C_take (m := ((ji20) : Int).toNat) hC32 (by omega)
                                    have hy32 : y141.length = ((ji20) : Int).toNat := (by rw [Ny141.out, List.length_take]; omega)
                                    rw [← Ny141.out] at hr32
                                    rw [← hy32] at hcut32
                                    have HR144 := Aside0.mk hr32
                                    have HC144 := Aside0.mk (show y141.length ≤ c0 from by omega)
                                    clear hr32 hC32 hroom32 hi032 hsz32
                                    have KY32 := Aside0.mk hy32
                                    clear hy32
                                    replace q32 := eq_true q32
                                    go_wp2_with (first | ((with_reducible refine gate_callee (f := 28) rfl ?_); refine goesL_ (some 53) rfl rfl Try.func28 (by kernel_rfl) rfl #[.slice A0 y141.length c0] rfl (by (try simp only [List.map_toArray, List.map_cons, List.map_nil]); first | done | rfl | (simp only [List.length_drop, List.length_take]; rfl)) ?_; (with_reducible refine (tree_Root.calls _ _ y141 t145 t146 _ ?side1 ?side2 A23.out).mono ?_); (case side1 => repeat (first | exact (Kd.C_below HR144.out HB.out) | (with_reducible refine Kd.C_alloc ?_ _) | (with_reducible refine Kd.C_drewN ?_ _) | (with_reducible refine Kd.C_drew ?_))); (case side2 => exact HC144.out); rintro e w33 ⟨rfl, hb⟩; refine ⟨_, rfl, ?_⟩; have n0_ := Aside0.mk (below_step (by repeat (first | (with_reducible first | exact HB.out | apply below_alloc | apply pw_below_drewN | apply below_drew1) | exact HB.out)) hb); clear HB; have HB := n0_; clear n0_; (try clear hb); (try clear hb2); (try clear hk); (try clear hi); have q34 : (x6_2 : Int) ≤ ((l0.length : Int) : Int) := of_decide_eq_true (by first | (with_reducible assumption) | assumption); obtain ⟨i034, hi034, _, hsz34, _⟩ := info_parts info22; have hroom34 : l0.length ≤ c0 := HC0.out; have hC34 : Kd.C (Kd.slice 5 (Kd.int .u8)) _ A0 l0.length l0 := HR0.out; have ql34 : ((ji20) : Int) ≤ (x6_2 : Int) := of_decide_eq_true (by first | (with_reducible assumption) | assumption); have q034 : (0 : Int) ≤ ((ji20) : Int) := of_decide_eq_true (by first | (with_reducible assumption) | assumption); have hcut34 := cut_mid (P := Try.prog) 32 22 .i64 .i64 Try.underlying32 hi034 1 hsz34 A0 l0.length c0 (ji20) x6_2 q034 ql34 q34 hroom34; have hr34 := Kd.C_mid (lo := ((ji20) : Int).toNat) (hi := (x6_2 : Int).toNat) (c := c0) hC34 (by omega) (by omega) hroom34; obtain ⟨A34, hA34⟩ : ∃ A1, A1 = (if c0 = ((ji20) : Int).toNat then A0 else (A0 : Option Addr).map (·.add (((ji20) : Int).toNat * 1))) := ⟨_, rfl⟩; obtain ⟨c34, hc34⟩ : ∃ c1, c1 = c0 - ((ji20) : Int).toNat := ⟨_, rfl⟩; have hy34 : y147.length = (x6_2 : Int).toNat - ((ji20) : Int).toNat := (by rw [Ny147.out, List.length_drop, List.length_take] <;> omega); rw [show ((l0).take (x6_2 : Int).toNat).drop ((ji20) : Int).toNat = y147 from Ny147.out.symm] at hr34; replace hr34 : Kd.C (Kd.slice 5 (Kd.int .u8)) _ A34 y147.length y147 := (by rw [hA34]; exact hr34); rw [← hy34, ← hA34, ← hc34] at hcut34; have HR150 := Aside0.mk hr34; have HC150 := Aside0.mk (show y147.length ≤ c34 from by rw [hy34, hc34]; exact Nat.sub_le_sub_right (Nat.le_trans (by omega) hroom34) _); clear hr34 hC34 hroom34 hi034 hsz34 hc34; have KY34 := Aside0.mk hy34; have KA34 := Aside0.mk hA34; clear hy34 hA34; replace q34 := eq_true q34) | ((with_reducible refine gate_callee (f := 28) rfl ?_); refine goesL_ (some 62) rfl rfl Try.func28 (by kernel_rfl) rfl #[.slice A34 y147.length c34] rfl (by (try simp only [List.map_toArray, List.map_cons, List.map_nil]); first | done | rfl | (simp only [List.length_drop, List.length_take]; rfl)) ?_; (with_reducible refine (tree_Root.calls _ _ y147 t151 t152 _ ?side1 ?side2 A27.out).mono ?_); (case side1 => repeat (first | exact (Kd.C_below HR150.out HB.out) | (with_reducible refine Kd.C_alloc ?_ _) | (with_reducible refine Kd.C_drewN ?_ _) | (with_reducible refine Kd.C_drew ?_))); (case side2 => exact HC150.out); rintro e w35 ⟨rfl, hb⟩; refine ⟨_, rfl, ?_⟩; have n0_ := Aside0.mk (below_step (by repeat (first | (with_reducible first | exact HB.out | apply below_alloc | apply pw_below_drewN | apply below_drew1) | exact HB.out)) hb); clear HB; have HB := n0_; clear n0_; (try clear hb); (try clear hb2); (try clear hk); (try clear hi)) | (go_at_call 22; (with_reducible refine (digest_Pair.calls t145 t151 t153 _ A30.out).mono ?_); rintro e w' ⟨rfl, ⟨nd, rfl⟩⟩))
                                    go_meet
                                    case rel => exact ⟨_, H', ⟨by have := HJ3.out; have := HK2.out; first | omega | exact Nat.le_refl _⟩, ⟨by repeat (first | (with_reducible first | exact HB.out | apply below_alloc | apply pw_below_drewN | apply below_drew1) | exact HB.out)⟩⟩
                                  · rw [if_neg c31] at H
                                    have c31b0 : (t139 == t153) = false := beq_eq_false_iff_ne.mpr c31
                                    have c31b1 : (t139 != t153) = true := bne_iff_ne.mpr c31
                                    obtain rfl := Option.some.inj H
                                    have q36 : ((ji20) : Int) ≤ ((l0.length : Int) : Int) := of_decide_eq_true (by first | (with_reducible assumption) | assumption)
                                    obtain ⟨i036, hi036, _, hsz36, _⟩ := info_parts info22
                                    have hroom36 : l0.length ≤ c0 := HC0.out
                                    have hC36 : Kd.C (Kd.slice 5 (Kd.int .u8)) _ A0 l0.length l0 := HR0.out
                                    have hcut36 := cut_to (P := Try.prog) 32 22 .i64 Try.underlying32 hi036 A0 l0.length c0 (ji20) (of_decide_eq_true (by first | (with_reducible assumption) | assumption)) q36 hroom36
                                    have hr36 := Kd.C_take (m := ((ji20) : Int).toNat) hC36 (by omega)
                                    have hy36 : y141.length = ((ji20) : Int).toNat := (by rw [Ny141.out, List.length_take]; omega)
                                    rw [← Ny141.out] at hr36
                                    rw [← hy36] at hcut36
                                    have HR144 := Aside0.mk hr36
                                    have HC144 := Aside0.mk (show y141.length ≤ c0 from by omega)
                                    clear hr36 hC36 hroom36 hi036 hsz36
                                    have KY36 := Aside0.mk hy36
                                    clear hy36
                                    replace q36 := eq_true q36
                                    go_wp2_with (first | ((with_reducible refine gate_callee (f := 28) rfl ?_); refine goesL_ (some 53) rfl rfl Try.func28 (by kernel_rfl) rfl #[.slice A0 y141.length c0] rfl (by (try simp only [List.map_toArray, List.map_cons, List.map_nil]); first | done | rfl | (simp only [List.length_drop, List.length_take]; rfl)) ?_; (with_reducible refine (tree_Root.calls _ _ y141 t145 t146 _ ?side1 ?side2 A23.out).mono ?_); (case side1 => repeat (first | exact (Kd.C_below HR144.out HB.out) | (with_reducible refine Kd.C_alloc ?_ _) | (with_reducible refine Kd.C_drewN ?_ _) | (with_reducible refine Kd.C_drew ?_))); (case side2 => exact HC144.out); rintro e w37 ⟨rfl, hb⟩; refine ⟨_, rfl, ?_⟩; have n0_ := Aside0.mk (below_step (by repeat (first | (with_reducible first | exact HB.out | apply below_alloc | apply pw_below_drewN | apply below_drew1) | exact HB.out)) hb); clear HB; have HB := n0_; clear n0_; (try clear hb); (try clear hb2); (try clear hk); (try clear hi); have q38 : (x6_2 : Int) ≤ ((l0.length : Int) : Int) := of_decide_eq_true (by first | (with_reducible assumption) | assumption); obtain ⟨i038, hi038, _, hsz38, _⟩ := info_parts info22; have hroom38 : l0.length ≤ c0 := HC0.out; have hC38 : Kd.C (Kd.slice 5 (Kd.int .u8)) _ A0 l0.length l0 := HR0.out; have ql38 : ((ji20) : Int) ≤ (x6_2 : Int) := of_decide_eq_true (by first | (with_reducible assumption) | assumption); have q038 : (0 : Int) ≤ ((ji20) : Int) := of_decide_eq_true (by first | (with_reducible assumption) | assumption); have hcut38 := cut_mid (P := Try.prog) 32 22 .i64 .i64 Try.underlying32 hi038 1 hsz38 A0 l0.length c0 (ji20) x6_2 q038 ql38 q38 hroom38; have hr38 := Kd.C_mid (lo := ((ji20) : Int).toNat) (hi := (x6_2 : Int).toNat) (c := c0) hC38 (by omega) (by omega) hroom38; obtain ⟨A38, hA38⟩ : ∃ A1, A1 = (if c0 = ((ji20) : Int).toNat then A0 else (A0 : Option Addr).map (·.add (((ji20) : Int).toNat * 1))) := ⟨_, rfl⟩; obtain ⟨c38, hc38⟩ : ∃ c1, c1 = c0 - ((ji20) : Int).toNat := ⟨_, rfl⟩; have hy38 : y147.length = (x6_2 : Int).toNat - ((ji20) : Int).toNat := (by rw [Ny147.out, List.length_drop, List.length_take] <;> omega); rw [show ((l0).take (x6_2 : Int).toNat).drop ((ji20) : Int).toNat = y147 from Ny147.out.symm] at hr38; replace hr38 : Kd.C (Kd.slice 5 (Kd.int .u8)) _ A38 y147.length y147 := (by rw [hA38]; exact hr38); rw [← hy38, ← hA38, ← hc38] at hcut38; have HR150 := Aside0.mk hr38; have HC150 := Aside0.mk (show y147.length ≤ c38 from by rw [hy38, hc38]; exact Nat.sub_le_sub_right (Nat.le_trans (by omega) hroom38) _); clear hr38 hC38 hroom38 hi038 hsz38 hc38; have KY38 := Aside0.mk hy38; have KA38 := Aside0.mk hA38; clear hy38 hA38; replace q38 := eq_true q38) | ((with_reducible refine gate_callee (f := 28) rfl ?_); refine goesL_ (some 62) rfl rfl Try.func28 (by kernel_rfl) rfl #[.slice A38 y147.length c38] rfl (by (try simp only [List.map_toArray, List.map_cons, List.map_nil]); first | done | rfl | (simp only [List.length_drop, List.length_take]; rfl)) ?_; (with_reducible refine (tree_Root.calls _ _ y147 t151 t152 _ ?side1 ?side2 A27.out).mono ?_); (case side1 => repeat (first | exact (Kd.C_below HR150.out HB.out) | (with_reducible refine Kd.C_alloc ?_ _) | (with_reducible refine Kd.C_drewN ?_ _) | (with_reducible refine Kd.C_drew ?_))); (case side2 => exact HC150.out); rintro e w39 ⟨rfl, hb⟩; refine ⟨_, rfl, ?_⟩; have n0_ := Aside0.mk (below_step (by repeat (first | (with_reducible first | exact HB.out | apply below_alloc | apply pw_below_drewN | apply below_drew1) | exact HB.out)) hb); clear HB; have HB := n0_; clear n0_; (try clear hb); (try clear hb2); (try clear hk); (try clear hi)) | (go_at_call 22; (with_reducible refine (digest_Pair.calls t145 t151 t153 _ A30.out).mono ?_); rintro e w' ⟨rfl, ⟨nd, rfl⟩⟩))
                                    go_ret
                                    exact ⟨by first | rfl | (simp [errW_none, errW_some] <;> rfl) | (simp only [← hji20]; first | rfl | (simp [errW_none, errW_some] <;> rfl)) | (simp [*, errW_none, errW_some] <;> rfl), by repeat (first | (with_reducible first | exact HB.out | apply below_alloc | apply pw_below_drewN | apply below_drew1) | exact HB.out)⟩
                                · rw [if_neg c29] at H
                                  have c29b0 : (t152 == 0) = false := beq_eq_false_iff_ne.mpr c29
                                  have c29b1 : (t152 != 0) = true := bne_iff_ne.mpr c29
                                  obtain rfl := Option.some.inj H
                                  have q40 : ((ji20) : Int) ≤ ((l0.length : Int) : Int) := of_decide_eq_true (by first | (with_reducible assumption) | assumption)
                                  obtain ⟨i040, hi040, _, hsz40, _⟩ := info_parts info22
                                  have hroom40 : l0.length ≤ c0 := HC0.out
                                  have hC40 : Kd.C (Kd.slice 5 (Kd.int .u8)) _ A0 l0.length l0 := HR0.out
                                  have hcut40 := cut_to (P := Try.prog) 32 22 .i64 Try.underlying32 hi040 A0 l0.length c0 (ji20) (of_decide_eq_true (by first | (with_reducible assumption) | assumption)) q40 hroom40
                                  have hr40 := Kd.C_take (m := ((ji20) : Int).toNat) hC40 (by omega)
                                  have hy40 : y141.length = ((ji20) : Int).toNat := (by rw [Ny141.out, List.length_take]; omega)
                                  rw [← Ny141.out] at hr40
                                  rw [← hy40] at hcut40
                                  have HR144 := Aside0.mk hr40
                                  have HC144 := Aside0.mk (show y141.length ≤ c0 from by omega)
                                  clear hr40 hC40 hroom40 hi040 hsz40
                                  have KY40 := Aside0.mk hy40
                                  clear hy40
                                  replace q40 := eq_true q40
                                  go_wp2_with (first | ((with_reducible refine gate_callee (f := 28) rfl ?_); refine goesL_ (some 53) rfl rfl Try.func28 (by kernel_rfl) rfl #[.slice A0 y141.length c0] rfl (by (try simp only [List.map_toArray, List.map_cons, List.map_nil]); first | done | rfl | (simp only [List.length_drop, List.length_take]; rfl)) ?_; (with_reducible refine (tree_Root.calls _ _ y141 t145 t146 _ ?side1 ?side2 A23.out).mono ?_); (case side1 => repeat (first | exact (Kd.C_below HR144.out HB.out) | (with_reducible refine Kd.C_alloc ?_ _) | (with_reducible refine Kd.C_drewN ?_ _) | (with_reducible refine Kd.C_drew ?_))); (case side2 => exact HC144.out); rintro e w41 ⟨rfl, hb⟩; refine ⟨_, rfl, ?_⟩; have n0_ := Aside0.mk (below_step (by repeat (first | (with_reducible first | exact HB.out | apply below_alloc | apply pw_below_drewN | apply below_drew1) | exact HB.out)) hb); clear HB; have HB := n0_; clear n0_; (try clear hb); (try clear hb2); (try clear hk); (try clear hi); have q42 : (x6_2 : Int) ≤ ((l0.length : Int) : Int) := of_decide_eq_true (by first | (with_reducible assumption) | assumption); obtain ⟨i042, hi042, _, hsz42, _⟩ := info_parts info22; have hroom42 : l0.length ≤ c0 := HC0.out; have hC42 : Kd.C (Kd.slice 5 (Kd.int .u8)) _ A0 l0.length l0 := HR0.out; have ql42 : ((ji20) : Int) ≤ (x6_2 : Int) := of_decide_eq_true (by first | (with_reducible assumption) | assumption); have q042 : (0 : Int) ≤ ((ji20) : Int) := of_decide_eq_true (by first | (with_reducible assumption) | assumption); have hcut42 := cut_mid (P := Try.prog) 32 22 .i64 .i64 Try.underlying32 hi042 1 hsz42 A0 l0.length c0 (ji20) x6_2 q042 ql42 q42 hroom42; have hr42 := Kd.C_mid (lo := ((ji20) : Int).toNat) (hi := (x6_2 : Int).toNat) (c := c0) hC42 (by omega) (by omega) hroom42; obtain ⟨A42, hA42⟩ : ∃ A1, A1 = (if c0 = ((ji20) : Int).toNat then A0 else (A0 : Option Addr).map (·.add (((ji20) : Int).toNat * 1))) := ⟨_, rfl⟩; obtain ⟨c42, hc42⟩ : ∃ c1, c1 = c0 - ((ji20) : Int).toNat := ⟨_, rfl⟩; have hy42 : y147.length = (x6_2 : Int).toNat - ((ji20) : Int).toNat := (by rw [Ny147.out, List.length_drop, List.length_take] <;> omega); rw [show ((l0).take (x6_2 : Int).toNat).drop ((ji20) : Int).toNat = y147 from Ny147.out.symm] at hr42; replace hr42 : Kd.C (Kd.slice 5 (Kd.int .u8)) _ A42 y147.length y147 := (by rw [hA42]; exact hr42); rw [← hy42, ← hA42, ← hc42] at hcut42; have HR150 := Aside0.mk hr42; have HC150 := Aside0.mk (show y147.length ≤ c42 from by rw [hy42, hc42]; exact Nat.sub_le_sub_right (Nat.le_trans (by omega) hroom42) _); clear hr42 hC42 hroom42 hi042 hsz42 hc42; have KY42 := Aside0.mk hy42; have KA42 := Aside0.mk hA42; clear hy42 hA42; replace q42 := eq_true q42) | ((with_reducible refine gate_callee (f := 28) rfl ?_); refine goesL_ (some 62) rfl rfl Try.func28 (by kernel_rfl) rfl #[.slice A42 y147.length c42] rfl (by (try simp only [List.map_toArray, List.map_cons, List.map_nil]); first | done | rfl | (simp only [List.length_drop, List.length_take]; rfl)) ?_; (with_reducible refine (tree_Root.calls _ _ y147 t151 t152 _ ?side1 ?side2 A27.out).mono ?_); (case side1 => repeat (first | exact (Kd.C_below HR150.out HB.out) | (with_reducible refine Kd.C_alloc ?_ _) | (with_reducible refine Kd.C_drewN ?_ _) | (with_reducible refine Kd.C_drew ?_))); (case side2 => exact HC150.out); rintro e w43 ⟨rfl, hb⟩; refine ⟨_, rfl, ?_⟩; have n0_ := Aside0.mk (below_step (by repeat (first | (with_reducible first | exact HB.out | apply below_alloc | apply pw_below_drewN | apply below_drew1) | exact HB.out)) hb); clear HB; have HB := n0_; clear n0_; (try clear hb); (try clear hb2); (try clear hk); (try clear hi)))
                                  go_ret
                                  exact ⟨by first | rfl | (simp [errW_none, errW_some] <;> rfl) | (simp only [← hji20]; first | rfl | (simp [errW_none, errW_some] <;> rfl)) | (simp [*, errW_none, errW_some] <;> rfl), by repeat (first | (with_reducible first | exact HB.out | apply below_alloc | apply pw_below_drewN | apply below_drew1) | exact HB.out)⟩
                              · rw [if_neg c28] at H
                                have c28b0 : (t146 == 0) = false := beq_eq_false_iff_ne.mpr c28
                                have c28b1 : (t146 != 0) = true := bne_iff_ne.mpr c28
                                obtain rfl := Option.some.inj H
                                have q44 : ((ji20) : Int) ≤ ((l0.length : Int) : Int) := of_decide_eq_true (by first | (with_reducible assumption) | assumption)
                                obtain ⟨i044, hi044, _, hsz44, _⟩ := info_parts info22
                                have hroom44 : l0.length ≤ c0 := HC0.out
                                have hC44 : Kd.C (Kd.slice 5 (Kd.int .u8)) _ A0 l0.length l0 := HR0.out
                                have hcut44 := cut_to (P := Try.prog) 32 22 .i64 Try.underlying32 hi044 A0 l0.length c0 (ji20) (of_decide_eq_true (by first | (with_reducible assumption) | assumption)) q44 hroom44
                                have hr44 := Kd.C_take (m := ((ji20) : Int).toNat) hC44 (by omega)
                                have hy44 : y141.length = ((ji20) : Int).toNat := (by rw [Ny141.out, List.length_take]; omega)
                                rw [← Ny141.out] at hr44
                                rw [← hy44] at hcut44
                                have HR144 := Aside0.mk hr44
                                have HC144 := Aside0.mk (show y141.length ≤ c0 from by omega)
                                clear hr44 hC44 hroom44 hi044 hsz44
                                have KY44 := Aside0.mk hy44
                                clear hy44
                                replace q44 := eq_true q44
                                go_wp2_with (first | ((with_reducible refine gate_callee (f := 28) rfl ?_); refine goesL_ (some 53) rfl rfl Try.func28 (by kernel_rfl) rfl #[.slice A0 y141.length c0] rfl (by (try simp only [List.map_toArray, List.map_cons, List.map_nil]); first | done | rfl | (simp only [List.length_drop, List.length_take]; rfl)) ?_; (with_reducible refine (tree_Root.calls _ _ y141 t145 t146 _ ?side1 ?side2 A23.out).mono ?_); (case side1 => repeat (first | exact (Kd.C_below HR144.out HB.out) | (with_reducible refine Kd.C_alloc ?_ _) | (with_reducible refine Kd.C_drewN ?_ _) | (with_reducible refine Kd.C_drew ?_))); (case side2 => exact HC144.out); rintro e w45 ⟨rfl, hb⟩; refine ⟨_, rfl, ?_⟩; have n0_ := Aside0.mk (below_step (by repeat (first | (with_reducible first | exact HB.out | apply below_alloc | apply pw_below_drewN | apply below_drew1) | exact HB.out)) hb); clear HB; have HB := n0_; clear n0_; (try clear hb); (try clear hb2); (try clear hk); (try clear hi); have q46 : (x6_2 : Int) ≤ ((l0.length : Int) : Int) := of_decide_eq_true (by first | (with_reducible assumption) | assumption); obtain ⟨i046, hi046, _, hsz46, _⟩ := info_parts info22; have hroom46 : l0.length ≤ c0 := HC0.out; have hC46 : Kd.C (Kd.slice 5 (Kd.int .u8)) _ A0 l0.length l0 := HR0.out; have ql46 : ((ji20) : Int) ≤ (x6_2 : Int) := of_decide_eq_true (by first | (with_reducible assumption) | assumption); have q046 : (0 : Int) ≤ ((ji20) : Int) := of_decide_eq_true (by first | (with_reducible assumption) | assumption); have hcut46 := cut_mid (P := Try.prog) 32 22 .i64 .i64 Try.underlying32 hi046 1 hsz46 A0 l0.length c0 (ji20) x6_2 q046 ql46 q46 hroom46; have hr46 := Kd.C_mid (lo := ((ji20) : Int).toNat) (hi := (x6_2 : Int).toNat) (c := c0) hC46 (by omega) (by omega) hroom46; obtain ⟨A46, hA46⟩ : ∃ A1, A1 = (if c0 = ((ji20) : Int).toNat then A0 else (A0 : Option Addr).map (·.add (((ji20) : Int).toNat * 1))) := ⟨_, rfl⟩; obtain ⟨c46, hc46⟩ : ∃ c1, c1 = c0 - ((ji20) : Int).toNat := ⟨_, rfl⟩; have hy46 : y147.length = (x6_2 : Int).toNat - ((ji20) : Int).toNat := (by rw [Ny147.out, List.length_drop, List.length_take] <;> omega); rw [show ((l0).take (x6_2 : Int).toNat).drop ((ji20) : Int).toNat = y147 from Ny147.out.symm] at hr46; replace hr46 : Kd.C (Kd.slice 5 (Kd.int .u8)) _ A46 y147.length y147 := (by rw [hA46]; exact hr46); rw [← hy46, ← hA46, ← hc46] at hcut46; have HR150 := Aside0.mk hr46; have HC150 := Aside0.mk (show y147.length ≤ c46 from by rw [hy46, hc46]; exact Nat.sub_le_sub_right (Nat.le_trans (by omega) hroom46) _); clear hr46 hC46 hroom46 hi046 hsz46 hc46; have KY46 := Aside0.mk hy46; have KA46 := Aside0.mk hA46; clear hy46 hA46; replace q46 := eq_true q46) | ((with_reducible refine gate_callee (f := 28) rfl ?_); refine goesL_ (some 62) rfl rfl Try.func28 (by kernel_rfl) rfl #[.slice A46 y147.length c46] rfl (by (try simp only [List.map_toArray, List.map_cons, List.map_nil]); first | done | rfl | (simp only [List.length_drop, List.length_take]; rfl)) ?_; (with_reducible refine (tree_Root.calls _ _ y147 t151 t152 _ ?side1 ?side2 A27.out).mono ?_); (case side1 => repeat (first | exact (Kd.C_below HR150.out HB.out) | (with_reducible refine Kd.C_alloc ?_ _) | (with_reducible refine Kd.C_drewN ?_ _) | (with_reducible refine Kd.C_drew ?_))); (case side2 => exact HC150.out); rintro e w47 ⟨rfl, hb⟩; refine ⟨_, rfl, ?_⟩; have n0_ := Aside0.mk (below_step (by repeat (first | (with_reducible first | exact HB.out | apply below_alloc | apply pw_below_drewN | apply below_drew1) | exact HB.out)) hb); clear HB; have HB := n0_; clear n0_; (try clear hb); (try clear hb2); (try clear hk); (try clear hi)))
                                go_ret
                                exact ⟨by first | rfl | (simp [errW_none, errW_some] <;> rfl) | (simp only [← hji20]; first | rfl | (simp [errW_none, errW_some] <;> rfl)) | (simp [*, errW_none, errW_some] <;> rfl), by repeat (first | (with_reducible first | exact HB.out | apply below_alloc | apply pw_below_drewN | apply below_drew1) | exact HB.out)⟩
                            · rw [if_neg c25] at H
                              exact absurd H (by simp)
                          · rw [if_neg c22] at H
                            exact absurd H (by simp)
                        · rw [if_neg c21] at H
                          exact absurd H (by simp)
                      · rw [if_neg c19] at H
                        have c19b0 : decide (1 < x6_2) = false := decide_eq_false c19
                        clear c19
                        (first | rw [c19b0] | (simp only [i64_w, i32_w]; rw [c19b0]) | skip)
                        have H' := Aside0.mk H
                        clear H
                        go_wp2
                        go_meet
                        case rel => exact ⟨_, H', ⟨by have := HJ3.out; have := HK2.out; first | omega | exact Nat.le_refl _⟩, ⟨by repeat (first | (with_reducible first | exact HB.out | apply below_alloc | apply pw_below_drewN | apply below_drew1) | exact HB.out)⟩⟩
                    case rest =>
                      clear HC16
                      try clear c1
                      try clear q1
                      try clear c2
                      try clear p2
                      try clear c3
                      try clear q3
                      try clear c4
                      try clear q4
                      try clear p6
                      try clear c7
                      try clear c9
                      try clear c10
                      try clear c11
                      try clear c11b0
                      try clear c12
                      try clear c12b0
                      try clear c12b1
                      try clear c13
                      try clear c13b0
                      try clear c13b1
                      try clear c15
                      try clear c15b0
                      try clear c15b1
                      try clear q17
                      try clear c19
                      try clear c19b0
                      try clear c21
                      try clear c21b0
                      try clear c21b1
                      try clear c22
                      try clear c22b0
                      try clear c22b1
                      try clear c24
                      try clear c24b0
                      try clear c25
                      try clear c25b0
                      try clear c25b1
                      try clear c26
                      try clear c26b0
                      try clear c28
                      try clear c28b0
                      try clear c28b1
                      try clear c29
                      try clear c29b0
                      try clear c29b1
                      try clear c31
                      try clear c31b0
                      try clear c31b1
                      try clear q32
                      try clear c34
                      try clear q34
                      try clear q36
                      try clear c38
                      try clear q38
                      try clear q40
                      try clear c42
                      try clear q42
                      try clear q44
                      try clear c46
                      try clear q46
                      try clear p2
                      try clear q034
                      try clear q038
                      try clear q042
                      try clear q046
                      try clear q17
                      try clear q32
                      try clear q34
                      try clear q36
                      try clear q38
                      try clear q40
                      try clear q42
                      try clear q44
                      try clear q46
                      obtain ⟨kq, HA, HJ15, HB⟩ := hcut
                      cases kq with
                      | zero => exact absurd HA.out (by simp [slotmeshlaw35_TreeParts.j2])
                      | succ kj15 =>
                        have H := HA.out
                        clear HA
                        simp only [slotmeshlaw35_TreeParts.j2] at H
                        by_cases c48 : x6_2 = 16
                        · rw [if_pos c48] at H
                          have c48b0 : (x6_2 == 16) = true := beq_iff_eq.mpr c48
                          have c48b1 : (x6_2 != 16) = false := bne_eq_false_iff_eq.mpr c48
                          clear c48
                          obtain rfl := Option.some.inj H
                          go_wp2
                          go_ret
                          exact ⟨by first | rfl | (simp [errW_none, errW_some] <;> rfl) | (simp [*, errW_none, errW_some] <;> rfl), by repeat (first | (with_reducible first | exact HB.out | apply below_alloc | apply pw_below_drewN | apply below_drew1) | exact HB.out)⟩
                        · rw [if_neg c48] at H
                          have c48b0 : (x6_2 == 16) = false := beq_eq_false_iff_ne.mpr c48
                          have c48b1 : (x6_2 != 16) = true := bne_iff_ne.mpr c48
                          by_cases c49 : 0 ≤ x6_2 ∧ x6_2 ≤ 16
                          · rw [if_pos c49] at H
                            obtain ⟨c49, hl16⟩ := c49
                            have L16 := Aside0.mk hl16
                            clear hl16
                            have c49b0 := eq_true c49
                            have c49b1 : decide (0 ≤ x6_2) = true := decide_eq_true c49
                            clear c49
                            by_cases c50 : x6_2 ≤ (l0.length : Int)
                            · rw [if_pos c50] at H
                              have c50b0 := eq_true c50
                              have c50b1 : decide (x6_2 ≤ (l0.length : Int)) = true := decide_eq_true c50
                              clear c50
                              obtain ⟨y154, hy154⟩ : ∃ y_ : List (List Int), y_ = (l0.take (x6_2 : Int).toNat ++ [l1]) := ⟨_, rfl⟩
                              replace H : ((tree_Root.f y154).bind fun bt158 => (if t132 = true then (if bt158.2 = 0 then ((slotmeshlaw35_leaf.f l1).bind fun t160 => ((digest_Pair.f t139 t160).bind fun t161 => (some (bt158.1 == t161)))) else (some false)) else (some false))) = some r := by first | (rw [hy154]; with_reducible exact H) | (have H2_ := (Option.bind_some _ _).symm.trans H; rw [hy154]; with_reducible exact H2_) | (have H2_ := (Option.bind_some _ _).symm.trans H; with_reducible exact H2_) | with_reducible exact H | (rw [hy154]; exact H) | exact H
                              have Ny154 := Aside0.mk hy154
                              clear hy154
                              replace H := Option.bind_eq_some_iff.mp H
                              obtain ⟨⟨t158, t159⟩, A510, H⟩ := H
                              replace H : (if t132 = true then (if t159 = 0 then ((slotmeshlaw35_leaf.f l1).bind fun t160 => ((digest_Pair.f t139 t160).bind fun t161 => (some (t158 == t161)))) else (some false)) else (some false)) = some r := H
                              have A51 := Aside0.mk A510
                              clear A510
                              by_cases c52 : t132 = true
                              · subst c52
                                have H1 : (if t159 = 0 then ((slotmeshlaw35_leaf.f l1).bind fun t160 => ((digest_Pair.f t139 t160).bind fun t161 => (some (t158 == t161)))) else (some false)) = some r := by rw [if_pos rfl] at H; exact H
                                clear H
                                have H := H1
                                clear H1
                                by_cases c53 : t159 = 0
                                · rw [if_pos c53] at H
                                  have c53b0 : (t159 == 0) = true := beq_iff_eq.mpr c53
                                  have c53b1 : (t159 != 0) = false := bne_eq_false_iff_eq.mpr c53
                                  clear c53
                                  replace H := Option.bind_eq_some_iff.mp H
                                  obtain ⟨t160, A540, H⟩ := H
                                  replace H : ((digest_Pair.f t139 t160).bind fun t161 => (some (t158 == t161))) = some r := H
                                  have A54 := Aside0.mk A540
                                  clear A540
                                  replace H := Option.bind_eq_some_iff.mp H
                                  obtain ⟨t161, A550, H⟩ := H
                                  replace H : (some (t158 == t161)) = some r := H
                                  have A55 := Aside0.mk A550
                                  clear A550
                                  obtain rfl := Option.some.inj H
                                  have q56 : (x6_2 : Int) ≤ ((l0.length : Int) : Int) := of_decide_eq_true (by first | (with_reducible assumption) | assumption)
                                  have hm056 : 0 ≤ x6_2 := of_decide_eq_true (by first | (with_reducible assumption) | assumption)
                                  obtain ⟨i056, hi056, _, hsz56, _⟩ := info_parts info22
                                  have hcut56 := cut_to (P := Try.prog) 32 22 .i64 Try.underlying32 hi056 A0 l0.length c0 x6_2 hm056 q56 HC0.out
                                  obtain ⟨hs, hrd0, hrel0⟩ := Hand.hdrs_of_pages HR0.out
                                  obtain ⟨m6, hm6⟩ : ∃ m6, m6 = (x6_2 : Int).toNat := ⟨_, rfl⟩
                                  rw [← hm6] at hcut56
                                  have hm1 : (hs.take m6).length = m6 := by rw [List.length_take, hrel0.1]; omega
                                  have HRD := Aside0.mk (ReadsOf.take_ hrd0 m6 (by omega))
                                  have HREL := Aside0.mk (hrel0.take m6)
                                  have hle16 : m6 ≤ 16 := by have := L16.out; omega
                                  rw [← hm6] at Ny154
                                  clear hm6 hcut17
                                  clear hrd0 hrel0 hi056 hsz56
                                  replace q56 := eq_true q56
                                  go_wp2_with (first | ((with_reducible refine gate_builtin (b := .append) (xs := #[.tmp 82, .tmp 85]) rfl ?_); at_builtin; refine print_append_row_of Hand.hval (none, 0, 0) (w0 := w) w.heap.size rfl (.tmp 82) (.tmp 85) 32 22 (.slice none 0 0) 24 rfl Try.underlying32 Hand.info22' rfl (by decide) Hand.hval_one _ ([] : List Hand.Hdr) (hs.take m6) A0 m6 c0 rfl rfl (own_lit_of (enc := Hand.hval) _ _ 22 [] (below_size (by repeat (first | (with_reducible first | exact HB.out | apply below_alloc | apply pw_below_drewN | apply below_drew1) | exact HB.out))) (by simp)) ?aR (by repeat (first | (with_reducible first | exact HB.out | apply below_alloc | apply pw_below_drewN | apply below_drew1) | exact HB.out)) ?aS ?aL ?_; (case aS => exact below_size (by repeat (first | (with_reducible first | exact HB.out | apply below_alloc | apply pw_below_drewN | apply below_drew1) | exact HB.out))); (case aL => (show (0 + m6) * 24 ≤ 140737488355328); omega); (case aR => exact ReadsOf.below HRD.out (by repeat (first | (with_reducible first | exact HB.out | apply below_alloc | apply pw_below_drewN | apply below_drew1) | exact HB.out))); intro v86 w86 o86 b86 g86 a86; have n0_ := Aside0.mk b86; have O86 := Aside0.mk o86; clear HB; have HB := n0_; clear n0_ b86 o86 g86 a86) | ((with_reducible refine gate_builtin (b := .append) (xs := #[.tmp 86, .tmp 88]) rfl ?_); at_builtin; refine print_append_row_of Hand.hval (none, 0, 0) (w0 := w) w.heap.size rfl (.tmp 86) (.tmp 88) 32 22 (.slice none 0 0) 24 rfl Try.underlying32 Hand.info22' rfl (by decide) Hand.hval_one v86 ([] ++ hs.take m6) [(A1, l1.length, c1)] (some ⟨w86.heap.size, 0, none⟩) 1 1 rfl rfl (own_move O86.out (fun j hj => Below.heap_alloc _ _ _ (own_lt O86.out j hj))) (Hand.hdr_lit _ _ _ _) (by repeat (first | (with_reducible first | exact HB.out | apply below_alloc | apply pw_below_drewN | apply below_drew1) | exact HB.out)) ?aS ?aL ?_; (case aS => exact below_size (by repeat (first | (with_reducible first | exact HB.out | apply below_alloc | apply pw_below_drewN | apply below_drew1) | exact HB.out))); (case aL => rw [List.nil_append, hm1]; omega); intro v89 w89 o89 b89 g89 a89; obtain ⟨A89, c89, hv89, hl89, hC89⟩ := Hand.pages_of_own o89 (by simp) ((HREL.out.below b89).snoc HC1.out (Kd.C_below HR1.out b89)); rw [← Ny154.out] at hv89 hl89 hC89; subst hv89; have n0_ := Aside0.mk b89; have HP := Aside0.mk hC89; have HPC := Aside0.mk hl89; clear HB; have HB := n0_; clear n0_ b89 o89 g89 a89 hC89 hl89 O86) | ((with_reducible refine gate_callee (f := 28) rfl ?_); refine goesL_ (some 90) rfl rfl Try.func28 (by kernel_rfl) rfl #[.slice A89 y154.length c89] rfl (by (try simp only [List.map_toArray, List.map_cons, List.map_nil]); first | done | rfl | (simp only [List.length_drop, List.length_take]; rfl)) ?_; (with_reducible refine (tree_Root.calls _ _ y154 t158 t159 _ ?side1 ?side2 A51.out).mono ?_); (case side1 => repeat (first | exact HP.out | (with_reducible refine Kd.C_alloc ?_ _) | (with_reducible refine Kd.C_drewN ?_ _) | (with_reducible refine Kd.C_drew ?_))); (case side2 => exact HPC.out); rintro e w57 ⟨rfl, hb⟩; refine ⟨_, rfl, ?_⟩; have n0_ := Aside0.mk (below_step (by repeat (first | (with_reducible first | exact HB.out | apply below_alloc | apply pw_below_drewN | apply below_drew1) | exact HB.out)) hb); clear HB; have HB := n0_; clear n0_; (try clear hb); (try clear hb2); (try clear hk); (try clear hi)) | (go_at_call 29; (with_reducible refine (slotmeshlaw35_leaf.calls _ _ l1 t160 _ ?side1 ?side2 A54.out).mono ?_); (case side1 => repeat (first | exact (Kd.C_below HR1.out HB.out) | (with_reducible refine Kd.C_alloc ?_ _) | (with_reducible refine Kd.C_drewN ?_ _) | (with_reducible refine Kd.C_drew ?_))); (case side2 => exact HC1.out); rintro e w58 ⟨rfl, hb⟩; have n0_ := Aside0.mk (below_step (by repeat (first | (with_reducible first | exact HB.out | apply below_alloc | apply pw_below_drewN | apply below_drew1) | exact HB.out)) hb); clear HB; have HB := n0_; clear n0_; (try clear hb); (try clear hb2); (try clear hk); (try clear hi)) | (go_at_call 22; (with_reducible refine (digest_Pair.calls t139 t160 t161 _ A55.out).mono ?_); rintro e w' ⟨rfl, ⟨nd, rfl⟩⟩))
                                  go_ret
                                  exact ⟨by first | rfl | (simp [errW_none, errW_some] <;> rfl) | (simp [*, errW_none, errW_some] <;> rfl), by repeat (first | (with_reducible first | exact HB.out | apply below_alloc | apply pw_below_drewN | apply below_drew1) | exact HB.out)⟩
                                · rw [if_neg c53] at H
                                  have c53b0 : (t159 == 0) = false := beq_eq_false_iff_ne.mpr c53
                                  have c53b1 : (t159 != 0) = true := bne_iff_ne.mpr c53
                                  obtain rfl := Option.some.inj H
                                  have q59 : (x6_2 : Int) ≤ ((l0.length : Int) : Int) := of_decide_eq_true (by first | (with_reducible assumption) | assumption)
                                  have hm059 : 0 ≤ x6_2 := of_decide_eq_true (by first | (with_reducible assumption) | assumption)
                                  obtain ⟨i059, hi059, _, hsz59, _⟩ := info_parts info22
                                  have hcut59 := cut_to (P := Try.prog) 32 22 .i64 Try.underlying32 hi059 A0 l0.length c0 x6_2 hm059 q59 HC0.out
                                  obtain ⟨hs, hrd0, hrel0⟩ := Hand.hdrs_of_pages HR0.out
                                  obtain ⟨m6, hm6⟩ : ∃ m6, m6 = (x6_2 : Int).toNat := ⟨_, rfl⟩
                                  rw [← hm6] at hcut59
                                  have hm1 : (hs.take m6).length = m6 := by rw [List.length_take, hrel0.1]; omega
                                  have HRD := Aside0.mk (ReadsOf.take_ hrd0 m6 (by omega))
                                  have HREL := Aside0.mk (hrel0.take m6)
                                  have hle16 : m6 ≤ 16 := by have := L16.out; omega
                                  rw [← hm6] at Ny154
                                  clear hm6 hcut17
                                  clear hrd0 hrel0 hi059 hsz59
                                  replace q59 := eq_true q59
                                  go_wp2_with (first | ((with_reducible refine gate_builtin (b := .append) (xs := #[.tmp 82, .tmp 85]) rfl ?_); at_builtin; refine print_append_row_of Hand.hval (none, 0, 0) (w0 := w) w.heap.size rfl (.tmp 82) (.tmp 85) 32 22 (.slice none 0 0) 24 rfl Try.underlying32 Hand.info22' rfl (by decide) Hand.hval_one _ ([] : List Hand.Hdr) (hs.take m6) A0 m6 c0 rfl rfl (own_lit_of (enc := Hand.hval) _ _ 22 [] (below_size (by repeat (first | (with_reducible first | exact HB.out | apply below_alloc | apply pw_below_drewN | apply below_drew1) | exact HB.out))) (by simp)) ?aR (by repeat (first | (with_reducible first | exact HB.out | apply below_alloc | apply pw_below_drewN | apply below_drew1) | exact HB.out)) ?aS ?aL ?_; (case aS => exact below_size (by repeat (first | (with_reducible first | exact HB.out | apply below_alloc | apply pw_below_drewN | apply below_drew1) | exact HB.out))); (case aL => (show (0 + m6) * 24 ≤ 140737488355328); omega); (case aR => exact ReadsOf.below HRD.out (by repeat (first | (with_reducible first | exact HB.out | apply below_alloc | apply pw_below_drewN | apply below_drew1) | exact HB.out))); intro v86 w86 o86 b86 g86 a86; have n0_ := Aside0.mk b86; have O86 := Aside0.mk o86; clear HB; have HB := n0_; clear n0_ b86 o86 g86 a86) | ((with_reducible refine gate_builtin (b := .append) (xs := #[.tmp 86, .tmp 88]) rfl ?_); at_builtin; refine print_append_row_of Hand.hval (none, 0, 0) (w0 := w) w.heap.size rfl (.tmp 86) (.tmp 88) 32 22 (.slice none 0 0) 24 rfl Try.underlying32 Hand.info22' rfl (by decide) Hand.hval_one v86 ([] ++ hs.take m6) [(A1, l1.length, c1)] (some ⟨w86.heap.size, 0, none⟩) 1 1 rfl rfl (own_move O86.out (fun j hj => Below.heap_alloc _ _ _ (own_lt O86.out j hj))) (Hand.hdr_lit _ _ _ _) (by repeat (first | (with_reducible first | exact HB.out | apply below_alloc | apply pw_below_drewN | apply below_drew1) | exact HB.out)) ?aS ?aL ?_; (case aS => exact below_size (by repeat (first | (with_reducible first | exact HB.out | apply below_alloc | apply pw_below_drewN | apply below_drew1) | exact HB.out))); (case aL => rw [List.nil_append, hm1]; omega); intro v89 w89 o89 b89 g89 a89; obtain ⟨A89, c89, hv89, hl89, hC89⟩ := Hand.pages_of_own o89 (by simp) ((HREL.out.below b89).snoc HC1.out (Kd.C_below HR1.out b89)); rw [← Ny154.out] at hv89 hl89 hC89; subst hv89; have n0_ := Aside0.mk b89; have HP := Aside0.mk hC89; have HPC := Aside0.mk hl89; clear HB; have HB := n0_; clear n0_ b89 o89 g89 a89 hC89 hl89 O86) | ((with_reducible refine gate_callee (f := 28) rfl ?_); refine goesL_ (some 90) rfl rfl Try.func28 (by kernel_rfl) rfl #[.slice A89 y154.length c89] rfl (by (try simp only [List.map_toArray, List.map_cons, List.map_nil]); first | done | rfl | (simp only [List.length_drop, List.length_take]; rfl)) ?_; (with_reducible refine (tree_Root.calls _ _ y154 t158 t159 _ ?side1 ?side2 A51.out).mono ?_); (case side1 => repeat (first | exact HP.out | (with_reducible refine Kd.C_alloc ?_ _) | (with_reducible refine Kd.C_drewN ?_ _) | (with_reducible refine Kd.C_drew ?_))); (case side2 => exact HPC.out); rintro e w60 ⟨rfl, hb⟩; refine ⟨_, rfl, ?_⟩; have n0_ := Aside0.mk (below_step (by repeat (first | (with_reducible first | exact HB.out | apply below_alloc | apply pw_below_drewN | apply below_drew1) | exact HB.out)) hb); clear HB; have HB := n0_; clear n0_; (try clear hb); (try clear hb2); (try clear hk); (try clear hi)))
                                  go_ret
                                  exact ⟨by first | rfl | (simp [errW_none, errW_some] <;> rfl) | (simp [*, errW_none, errW_some] <;> rfl), by repeat (first | (with_reducible first | exact HB.out | apply below_alloc | apply pw_below_drewN | apply below_drew1) | exact HB.out)⟩
                              · replace c52 := Bool.eq_false_iff.mpr c52
                                subst c52
                                have H1 : (some false) = some r := by rw [if_neg (show ¬ (false = true) by decide)] at H; exact H
                                clear H
                                have H := H1
                                clear H1
                                obtain rfl := Option.some.inj H
                                have q61 : (x6_2 : Int) ≤ ((l0.length : Int) : Int) := of_decide_eq_true (by first | (with_reducible assumption) | assumption)
                                have hm061 : 0 ≤ x6_2 := of_decide_eq_true (by first | (with_reducible assumption) | assumption)
                                obtain ⟨i061, hi061, _, hsz61, _⟩ := info_parts info22
                                have hcut61 := cut_to (P := Try.prog) 32 22 .i64 Try.underlying32 hi061 A0 l0.length c0 x6_2 hm061 q61 HC0.out
                                obtain ⟨hs, hrd0, hrel0⟩ := Hand.hdrs_of_pages HR0.out
                                obtain ⟨m6, hm6⟩ : ∃ m6, m6 = (x6_2 : Int).toNat := ⟨_, rfl⟩
                                rw [← hm6] at hcut61
                                have hm1 : (hs.take m6).length = m6 := by rw [List.length_take, hrel0.1]; omega
                                have HRD := Aside0.mk (ReadsOf.take_ hrd0 m6 (by omega))
                                have HREL := Aside0.mk (hrel0.take m6)
                                have hle16 : m6 ≤ 16 := by have := L16.out; omega
                                rw [← hm6] at Ny154
                                clear hm6 hcut17
                                clear hrd0 hrel0 hi061 hsz61
                                replace q61 := eq_true q61
                                go_wp2_with (first | ((with_reducible refine gate_builtin (b := .append) (xs := #[.tmp 82, .tmp 85]) rfl ?_); at_builtin; refine print_append_row_of Hand.hval (none, 0, 0) (w0 := w) w.heap.size rfl (.tmp 82) (.tmp 85) 32 22 (.slice none 0 0) 24 rfl Try.underlying32 Hand.info22' rfl (by decide) Hand.hval_one _ ([] : List Hand.Hdr) (hs.take m6) A0 m6 c0 rfl rfl (own_lit_of (enc := Hand.hval) _ _ 22 [] (below_size (by repeat (first | (with_reducible first | exact HB.out | apply below_alloc | apply pw_below_drewN | apply below_drew1) | exact HB.out))) (by simp)) ?aR (by repeat (first | (with_reducible first | exact HB.out | apply below_alloc | apply pw_below_drewN | apply below_drew1) | exact HB.out)) ?aS ?aL ?_; (case aS => exact below_size (by repeat (first | (with_reducible first | exact HB.out | apply below_alloc | apply pw_below_drewN | apply below_drew1) | exact HB.out))); (case aL => (show (0 + m6) * 24 ≤ 140737488355328); omega); (case aR => exact ReadsOf.below HRD.out (by repeat (first | (with_reducible first | exact HB.out | apply below_alloc | apply pw_below_drewN | apply below_drew1) | exact HB.out))); intro v86 w86 o86 b86 g86 a86; have n0_ := Aside0.mk b86; have O86 := Aside0.mk o86; clear HB; have HB := n0_; clear n0_ b86 o86 g86 a86) | ((with_reducible refine gate_builtin (b := .append) (xs := #[.tmp 86, .tmp 88]) rfl ?_); at_builtin; refine print_append_row_of Hand.hval (none, 0, 0) (w0 := w) w.heap.size rfl (.tmp 86) (.tmp 88) 32 22 (.slice none 0 0) 24 rfl Try.underlying32 Hand.info22' rfl (by decide) Hand.hval_one v86 ([] ++ hs.take m6) [(A1, l1.length, c1)] (some ⟨w86.heap.size, 0, none⟩) 1 1 rfl rfl (own_move O86.out (fun j hj => Below.heap_alloc _ _ _ (own_lt O86.out j hj))) (Hand.hdr_lit _ _ _ _) (by repeat (first | (with_reducible first | exact HB.out | apply below_alloc | apply pw_below_drewN | apply below_drew1) | exact HB.out)) ?aS ?aL ?_; (case aS => exact below_size (by repeat (first | (with_reducible first | exact HB.out | apply below_alloc | apply pw_below_drewN | apply below_drew1) | exact HB.out))); (case aL => rw [List.nil_append, hm1]; omega); intro v89 w89 o89 b89 g89 a89; obtain ⟨A89, c89, hv89, hl89, hC89⟩ := Hand.pages_of_own o89 (by simp) ((HREL.out.below b89).snoc HC1.out (Kd.C_below HR1.out b89)); rw [← Ny154.out] at hv89 hl89 hC89; subst hv89; have n0_ := Aside0.mk b89; have HP := Aside0.mk hC89; have HPC := Aside0.mk hl89; clear HB; have HB := n0_; clear n0_ b89 o89 g89 a89 hC89 hl89 O86) | ((with_reducible refine gate_callee (f := 28) rfl ?_); refine goesL_ (some 90) rfl rfl Try.func28 (by kernel_rfl) rfl #[.slice A89 y154.length c89] rfl (by (try simp only [List.map_toArray, List.map_cons, List.map_nil]); first | done | rfl | (simp only [List.length_drop, List.length_take]; rfl)) ?_; (with_reducible refine (tree_Root.calls _ _ y154 t158 t159 _ ?side1 ?side2 A51.out).mono ?_); (case side1 => repeat (first | exact HP.out | (with_reducible refine Kd.C_alloc ?_ _) | (with_reducible refine Kd.C_drewN ?_ _) | (with_reducible refine Kd.C_drew ?_))); (case side2 => exact HPC.out); rintro e w62 ⟨rfl, hb⟩; refine ⟨_, rfl, ?_⟩; have n0_ := Aside0.mk (below_step (by repeat (first | (with_reducible first | exact HB.out | apply below_alloc | apply pw_below_drewN | apply below_drew1) | exact HB.out)) hb); clear HB; have HB := n0_; clear n0_; (try clear hb); (try clear hb2); (try clear hk); (try clear hi)))
                                go_ret
                                exact ⟨by first | rfl | (simp [errW_none, errW_some] <;> rfl) | (simp [*, errW_none, errW_some] <;> rfl), by repeat (first | (with_reducible first | exact HB.out | apply below_alloc | apply pw_below_drewN | apply below_drew1) | exact HB.out)⟩
                            · rw [if_neg c50] at H
                              exact absurd H (by simp)
                          · rw [if_neg c49] at H
                            exact absurd H (by simp)
                  · rw [if_neg c15] at H
                    have c15b0 : (t140 == 0) = false := beq_eq_false_iff_ne.mpr c15
                    have c15b1 : (t140 != 0) = true := bne_iff_ne.mpr c15
                    obtain rfl := Option.some.inj H
                    have q63 : (x6_2 : Int) ≤ ((l0.length : Int) : Int) := of_decide_eq_true (by first | (with_reducible assumption) | assumption)
                    obtain ⟨i063, hi063, _, hsz63, _⟩ := info_parts info22
                    have hroom63 : l0.length ≤ c0 := HC0.out
                    have hC63 : Kd.C (Kd.slice 5 (Kd.int .u8)) _ A0 l0.length l0 := HR0.out
                    have hcut63 := cut_to (P := Try.prog) 32 22 .i64 Try.underlying32 hi063 A0 l0.length c0 x6_2 (of_decide_eq_true (by first | (with_reducible assumption) | assumption)) q63 hroom63
                    have hr63 := Kd.C_take (m := (x6_2 : Int).toNat) hC63 (by omega)
                    have hy63 : y135.length = (x6_2 : Int).toNat := (by rw [Ny135.out, List.length_take]; omega)
                    rw [← Ny135.out] at hr63
                    rw [← hy63] at hcut63
                    have HR138 := Aside0.mk hr63
                    have HC138 := Aside0.mk (show y135.length ≤ c0 from by omega)
                    clear hr63 hC63 hroom63 hi063 hsz63
                    have KY63 := Aside0.mk hy63
                    clear hy63
                    replace q63 := eq_true q63
                    go_wp2_with (first | ((with_reducible refine gate_callee (f := 28) rfl ?_); refine goesL_ (some 41) rfl rfl Try.func28 (by kernel_rfl) rfl #[.slice A0 y135.length c0] rfl (by (try simp only [List.map_toArray, List.map_cons, List.map_nil]); first | done | rfl | (simp only [List.length_drop, List.length_take]; rfl)) ?_; (with_reducible refine (tree_Root.calls _ _ y135 t139 t140 _ ?side1 ?side2 A14.out).mono ?_); (case side1 => repeat (first | exact (Kd.C_below HR138.out HB.out) | (with_reducible refine Kd.C_alloc ?_ _) | (with_reducible refine Kd.C_drewN ?_ _) | (with_reducible refine Kd.C_drew ?_))); (case side2 => exact HC138.out); rintro e w64 ⟨rfl, hb⟩; refine ⟨_, rfl, ?_⟩; have n0_ := Aside0.mk (below_step (by repeat (first | (with_reducible first | exact HB.out | apply below_alloc | apply pw_below_drewN | apply below_drew1) | exact HB.out)) hb); clear HB; have HB := n0_; clear n0_; (try clear hb); (try clear hb2); (try clear hk); (try clear hi)))
                    go_ret
                    exact ⟨by first | rfl | (simp [errW_none, errW_some] <;> rfl) | (simp [*, errW_none, errW_some] <;> rfl), by repeat (first | (with_reducible first | exact HB.out | apply below_alloc | apply pw_below_drewN | apply below_drew1) | exact HB.out)⟩
                · rw [if_neg c13] at H
                  exact absurd H (by simp)
              · rw [if_neg c12] at H
                exact absurd H (by simp)

end Go.Proofs.Ytnjhegcdjhklfaa.PTreeParts
