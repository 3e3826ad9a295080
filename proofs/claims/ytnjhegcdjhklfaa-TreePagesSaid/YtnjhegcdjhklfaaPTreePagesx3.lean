/- Functions and contracts (of the statement TreePages): written by the kit's print over stand-ins for the functions that it does not take; their contracts are proved by hand in the texts that this one imports. -/
import Derived.Test.YtnjhegcdjhklfaaPTreePagesx0
import Derived.Test.YtnjhegcdjhklfaaPTreePagesx1
import Derived.Test.YtnjhegcdjhklfaaPTreePagesx2
import Derived.Test.YtnjhegcdjhklfaaPgs
namespace Go.Proofs.Ytnjhegcdjhklfaa.PTreePages
open Go.RowKit Go.Proofs.YtnjhegcdjhklfaaW.PrintWords Go.Proofs.YtnjhegcdjhklfaaW.PrintLast Go.Proofs.YtnjhegcdjhklfaaW.PrintMore
attribute [local go_sem] max2_int min2_int max_two min_two max_three min_three max_four min_four   -- for this text's walks alone
set_option linter.unusedVariables false
set_option linter.unusedSimpArgs false

/-! ### slotmeshlaw35_TreePages: function 14 -/
/-- The page with one byte changed. -/
def oth (l : List (List Int)) (a2 a3 i : Int) : List Int := (rd_L1 l i).set (Int.tmod (wrap64 a2) ((rd_L1 l i).length : Int)).toNat (Go.bits .xor .u8 (rd (rd_L1 l i) (Int.tmod (wrap64 a2) ((rd_L1 l i).length : Int))) a3)
/-- What the law asks of it. -/
def tailB (l : List (List Int)) (a2 a3 root i : Int) (pr : List Int) : Bool :=
  decide (0 ≤ i ∧ i < (l.length : Int) ∧ l.length ≤ 16 ∧ 0 < (rd_L1 l i).length ∧ (rd_L1 l i).length ≤ 256 ∧ 0 ≤ Int.tmod (wrap64 a2) ((rd_L1 l i).length : Int) ∧ Int.tmod (wrap64 a2) ((rd_L1 l i).length : Int) < ((rd_L1 l i).length : Int) ∧
    Dig.rootF (l.set i.toNat (oth l a2 a3 i)) = ((Dig.rootF (l.set i.toNat (oth l a2 a3 i))).1, 0) ∧ (Dig.rootF (l.set i.toNat (oth l a2 a3 i))).1 ≠ root ∧
    Dig.checkF root (l.length : Int) i (oth l a2 a3 i) pr = false ∧ Dig.checkF (Dig.rootF (l.set i.toNat (oth l a2 a3 i))).1 (l.length : Int) i (oth l a2 a3 i) pr = true)
theorem tail_facts {l : List (List Int)} {a2 a3 root i : Int} {pr : List Int} (h : tailB l a2 a3 root i pr = true) :
    ∃ (y : List Int) (ji : Int) (y2 : List Int) (x : Int), y = rd_L1 l i ∧ Int.tmod (wrap64 a2) (y.length : Int) = ji ∧ y2 = y.set (ji : Int).toNat (Go.bits .xor .u8 (rd y ji) a3) ∧ 0 ≤ i ∧ i < (l.length : Int) ∧ l.length ≤ 16 ∧ 0 < y.length ∧ y.length ≤ 256 ∧ 0 ≤ ji ∧ ji < (y.length : Int) ∧
      tree_Root.f (l.set i.toNat y2) = some (x, 0) ∧ (x != root) = true ∧ tree_Check.f root (l.length : Int) i y2 pr = some false ∧ tree_Check.f x (l.length : Int) i y2 pr = some true := by
  obtain ⟨h1, h2, h3, h4, h5, h6, h7, h8, h9, h10, h11⟩ := of_decide_eq_true h
  exact ⟨_, _, _, _, rfl, rfl, rfl, h1, h2, h3, h4, h5, h6, h7, congrArg some h8, bne_iff_ne.mpr h9, congrArg some h10, congrArg some h11⟩

def slotmeshlaw35_TreePages.j0 : Nat → List (List Int) → Int → Int → Bool → Int → Int → List Int → Bool → Option (Bool)
  | 0, _, _, _, _, _, _, _, _ => none
  | _ + 1, x0, x2, x3, x9, x10, x11, x12, x43 => if x43 = true then (some x9) else (if tailB x0 x2 x3 x10 x11 x12 = true then some x9 else none)
def slotmeshlaw35_TreePages.f (k : Nat) (l0 : List (List Int)) (a1 : Int) (a2 : Int) (a3 : Int) : Option (Bool) := (slotmeshlaw35_head.f).bind fun t140 => ((slotmeshlaw35_proved.f k l0 a1).bind fun bt141 => (if bt141.2.2.2 = true then (if a3 = 0 then (slotmeshlaw35_TreePages.j0 k l0 a2 a3 t140 bt141.1 bt141.2.1 bt141.2.2.1 true) else (if bt141.2.1 ≥ 0 then (if 0 ≤ bt141.2.1 then (if bt141.2.1 < (l0.length : Int) then (slotmeshlaw35_TreePages.j0 k l0 a2 a3 t140 bt141.1 bt141.2.1 bt141.2.2.1 (((rd_L1 l0 bt141.2.1).length : Int) == 0)) else (none)) else (none)) else (slotmeshlaw35_TreePages.j0 k l0 a2 a3 t140 bt141.1 bt141.2.1 bt141.2.2.1 false))) else (slotmeshlaw35_TreePages.j0 k l0 a2 a3 t140 bt141.1 bt141.2.1 bt141.2.2.1 true)))
def slotmeshlaw35_TreePages.T9 : Bool × List (List Nat × List Nat) := (true, [([], []), ([], []), ([0, 1], [0, 1]), ([2], [2]), ([], []), ([4], [4]), ([], []), ([], []), ([6, 7], [6, 7]), ([8], [8]), ([9], [9]), ([5, 10], [5, 10]), ([3, 11], [3, 11]), ([12], [12]), ([], []), ([13, 14], [13, 14]), ([3, 11, 0, 1, 2, 3, 4, 5, 6, 7, 8, 9, 10, 11, 12, 13, 14, 15], [3, 11]), ([16, 15, 0, 1, 2, 3, 4, 5, 6, 7, 8, 9, 10, 11, 12, 13, 14, 15], [15, 16])])
def slotmeshlaw35_TreePages.B9 : List Nat := [0, 0, 3, 7, 0, 16, 0, 0, 192, 448, 960, 2032, 4095, 8191, 0, 32767, 65535, 131071]
theorem slotmeshlaw35_TreePages.tab9 : rtab .any (opsOf Try.f14 9) = slotmeshlaw35_TreePages.T9 := by kernel_rfl
theorem slotmeshlaw35_TreePages.bits9 : waitsOk slotmeshlaw35_TreePages.T9.2 slotmeshlaw35_TreePages.B9 = true := by kernel_rfl
set_option maxHeartbeats 8000000 in
set_option maxRecDepth 100000 in
theorem slotmeshlaw35_TreePages.calls (k : Nat) (A0 : Option Addr) (c0 : Nat) (l0 : List (List Int)) (a1 : Int) (a2 : Int) (a3 : Int) (r : Bool) (w : World) (hr0 : Kd.C (Kd.slice 5 (Kd.int .u8)) w A0 l0.length l0) (hc0 : l0.length ≤ c0) (h : slotmeshlaw35_TreePages.f k l0 a1 a2 a3 = some r) :
    Calls Try.prog 14 #[.slice A0 l0.length c0, .int .u8 a1, .int .u16 a2, .int .u8 a3] w fun e w' => e = .returned (.bool r) ∧ Below w.heap.size w w' := by
  have HR0 := Aside0.mk hr0
  have HC0 := Aside0.mk hc0
  clear hr0 hc0
  have HB := Aside0.mk (Below.refl w.heap.size w)
  have H : ((slotmeshlaw35_head.f).bind fun t140 => ((slotmeshlaw35_proved.f k l0 a1).bind fun bt141 => (if bt141.2.2.2 = true then (if a3 = 0 then (slotmeshlaw35_TreePages.j0 k l0 a2 a3 t140 bt141.1 bt141.2.1 bt141.2.2.1 true) else (if bt141.2.1 ≥ 0 then (if 0 ≤ bt141.2.1 then (if bt141.2.1 < (l0.length : Int) then (slotmeshlaw35_TreePages.j0 k l0 a2 a3 t140 bt141.1 bt141.2.1 bt141.2.2.1 (((rd_L1 l0 bt141.2.1).length : Int) == 0)) else (none)) else (none)) else (slotmeshlaw35_TreePages.j0 k l0 a2 a3 t140 bt141.1 bt141.2.1 bt141.2.2.1 false))) else (slotmeshlaw35_TreePages.j0 k l0 a2 a3 t140 bt141.1 bt141.2.1 bt141.2.2.1 true)))) = some r := h
  clear h
  replace H := Option.bind_eq_some_iff.mp H
  obtain ⟨t140, A50, H⟩ := H
  replace H : ((slotmeshlaw35_proved.f k l0 a1).bind fun bt141 => (if bt141.2.2.2 = true then (if a3 = 0 then (slotmeshlaw35_TreePages.j0 k l0 a2 a3 t140 bt141.1 bt141.2.1 bt141.2.2.1 true) else (if bt141.2.1 ≥ 0 then (if 0 ≤ bt141.2.1 then (if bt141.2.1 < (l0.length : Int) then (slotmeshlaw35_TreePages.j0 k l0 a2 a3 t140 bt141.1 bt141.2.1 bt141.2.2.1 (((rd_L1 l0 bt141.2.1).length : Int) == 0)) else (none)) else (none)) else (slotmeshlaw35_TreePages.j0 k l0 a2 a3 t140 bt141.1 bt141.2.1 bt141.2.2.1 false))) else (slotmeshlaw35_TreePages.j0 k l0 a2 a3 t140 bt141.1 bt141.2.1 bt141.2.2.1 true))) = some r := H
  have A5 := Aside0.mk A50
  clear A50
  replace H := Option.bind_eq_some_iff.mp H
  obtain ⟨⟨t141, t142, t143, t144⟩, A60, H⟩ := H
  replace H : (if t144 = true then (if a3 = 0 then (slotmeshlaw35_TreePages.j0 k l0 a2 a3 t140 t141 t142 t143 true) else (if t142 ≥ 0 then (if 0 ≤ t142 then (if t142 < (l0.length : Int) then (slotmeshlaw35_TreePages.j0 k l0 a2 a3 t140 t141 t142 t143 (((rd_L1 l0 t142).length : Int) == 0)) else (none)) else (none)) else (slotmeshlaw35_TreePages.j0 k l0 a2 a3 t140 t141 t142 t143 false))) else (slotmeshlaw35_TreePages.j0 k l0 a2 a3 t140 t141 t142 t143 true)) = some r := H
  have A6 := Aside0.mk A60
  clear A60
  have HC7 := Aside0.mk H
  clear H
  go_enter Try.func14, Try.ntmps14
  go_upto_region 3 with (first | ((with_reducible refine gate_callee (f := 24) rfl ?_); refine goesL_ (some 17) rfl rfl Try.func24 (by kernel_rfl) rfl #[] rfl (by (try simp only [List.map_toArray, List.map_cons, List.map_nil]); first | done | rfl | (simp only [List.length_drop, List.length_take]; rfl)) ?_; (with_reducible refine (slotmeshlaw35_head.calls  t140 _ A5.out).mono ?_); rintro e w8 ⟨rfl, hb⟩; refine ⟨_, rfl, ?_⟩; have n0_ := Aside0.mk (below_step (by repeat (first | (with_reducible first | exact HB.out | apply below_alloc | apply pw_below_drewN | apply below_drew1) | exact HB.out)) hb); clear HB; have HB := n0_; clear n0_; (try clear hb); (try clear hb2); (try clear hk); (try clear hi)) | ((with_reducible refine gate_callee (f := 25) rfl ?_); refine goesL_ (some 21) rfl rfl Try.func25 (by kernel_rfl) rfl #[.slice A0 l0.length c0, .int .u8 a1] rfl (by (try simp only [List.map_toArray, List.map_cons, List.map_nil]); first | done | rfl | (simp only [List.length_drop, List.length_take]; rfl)) ?_; (with_reducible refine (slotmeshlaw35_proved.calls k _ _ l0 a1 t141 t142 t143 t144 _ ?side1 ?side2 A6.out).mono ?_); (case side1 => repeat (first | exact (Kd.C_below HR0.out HB.out) | (with_reducible refine Kd.C_alloc ?_ _) | (with_reducible refine Kd.C_drewN ?_ _) | (with_reducible refine Kd.C_drew ?_))); (case side2 => exact HC0.out); rintro e w9 ⟨v145, rfl, ho0, hb⟩; refine ⟨_, rfl, ?_⟩; have n0_ := Aside0.mk (Kd.R_lower ho0 (below_size (by repeat (first | (with_reducible first | exact HB.out | apply below_alloc | apply pw_below_drewN | apply below_drew1) | exact HB.out)))); have n1_ := Aside0.mk (below_step (by repeat (first | (with_reducible first | exact HB.out | apply below_alloc | apply pw_below_drewN | apply below_drew1) | exact HB.out)) hb); clear HB; have HO146 := n0_; have HB := n1_; clear n0_ n1_; (try clear hb); (try clear hb2); (try clear hk); (try clear hi); (try clear ho0)))
  (try simp only [Act.put, List.setIfInBounds_toArray, List.set_cons_zero, List.set_cons_succ])
  go_cut [43] (fun v43 wc => ∃ (kq : Nat) (x43_6 : Bool), v43 = .bool x43_6 ∧ Aside0 (slotmeshlaw35_TreePages.j0 kq l0 a2 a3 t140 t141 t142 t143 x43_6 = some r) ∧ Aside0 (kq ≤ k) ∧ Aside0 (Kd.R (Kd.int .u64) 23 wc w.heap.size (fun _ => True) v145 t143) ∧ Aside0 (Below w.heap.size w wc))
  case first =>
    have H := HC7.out
    clear HC7
    by_cases c10 : t144 = true
    · subst c10
      have H1 : (if a3 = 0 then (slotmeshlaw35_TreePages.j0 k l0 a2 a3 t140 t141 t142 t143 true) else (if t142 ≥ 0 then (if 0 ≤ t142 then (if t142 < (l0.length : Int) then (slotmeshlaw35_TreePages.j0 k l0 a2 a3 t140 t141 t142 t143 (((rd_L1 l0 t142).length : Int) == 0)) else (none)) else (none)) else (slotmeshlaw35_TreePages.j0 k l0 a2 a3 t140 t141 t142 t143 false))) = some r := by rw [if_pos rfl] at H; exact H
      clear H
      have H := H1
      clear H1
      by_cases c11 : a3 = 0
      · rw [if_pos c11] at H
        have c11b0 : (a3 == 0) = true := beq_iff_eq.mpr c11
        have c11b1 : (a3 != 0) = false := bne_eq_false_iff_eq.mpr c11
        clear c11
        (first | rw [c11b0] | (simp only [i64_w, i32_w]; rw [c11b0]) | skip)
        have H' := Aside0.mk H
        clear H
        go_wp2
        go_meet
        case rel => exact ⟨_, (true), (by first | rfl | (simp; done) | (simp [*]; done)), H', ⟨by first | omega | exact Nat.le_refl _⟩, ⟨by (with_reducible repeat (first | apply Kd.R_alloc | apply Kd.R_drewN | apply Kd.R_drew)); exact HO146.out⟩, ⟨by repeat (first | (with_reducible first | exact HB.out | apply below_alloc | apply pw_below_drewN | apply below_drew1) | exact HB.out)⟩⟩
      · rw [if_neg c11] at H
        have c11b0 : (a3 == 0) = false := beq_eq_false_iff_ne.mpr c11
        have c11b1 : (a3 != 0) = true := bne_iff_ne.mpr c11
        (first | rw [c11b0] | (simp only [i64_w, i32_w]; rw [c11b0]) | skip)
        by_cases c12 : t142 ≥ 0
        · rw [if_pos c12] at H
          have c12b0 : decide (0 ≤ t142) = true := decide_eq_true c12
          clear c12
          by_cases c13 : 0 ≤ t142
          · rw [if_pos c13] at H
            have c13b0 : decide (0 ≤ t142) = true := decide_eq_true c13
            clear c13
            by_cases c14 : t142 < (l0.length : Int)
            · rw [if_pos c14] at H
              have c14b0 : decide (t142 < (l0.length : Int)) = true := decide_eq_true c14
              clear c14
              have H' := Aside0.mk H
              clear H
              have p147 : 0 ≤ (t142 : Int) := of_decide_eq_true (by first | (with_reducible assumption) | assumption)
              have q147 : t142 < (l0.length : Int) := of_decide_eq_true (by first | (with_reducible assumption) | assumption)
              obtain ⟨ad147, A147_0, c147_0, e147, hx147_0, hl147_0, hi147_0⟩ := at_L1 HR0.out t142 p147 q147
              cases e147
              replace hx147_0 := (HB.out.cell (World.block_lt_of_cell? w _ hx147_0)).trans hx147_0
              have HR147_0 := Aside0.mk hi147_0
              have HC147_0 := Aside0.mk hl147_0
              clear hi147_0 hl147_0
              replace p147 := eq_true p147
              replace q147 := eq_true q147
              go_wp2
              go_meet
              case rel => exact ⟨_, ((((rd_L1 l0 t142).length : Int) == 0)), (by first | rfl | (simp; done) | (simp [*]; done)), H', ⟨by first | omega | exact Nat.le_refl _⟩, ⟨by (with_reducible repeat (first | apply Kd.R_alloc | apply Kd.R_drewN | apply Kd.R_drew)); exact HO146.out⟩, ⟨by repeat (first | (with_reducible first | exact HB.out | apply below_alloc | apply pw_below_drewN | apply below_drew1) | exact HB.out)⟩⟩
            · rw [if_neg c14] at H
              exact absurd H (by simp)
          · rw [if_neg c13] at H
            exact absurd H (by simp)
        · rw [if_neg c12] at H
          have c12b0 : decide (0 ≤ t142) = false := decide_eq_false c12
          clear c12
          have H' := Aside0.mk H
          clear H
          go_wp2
          go_meet
          case rel => exact ⟨_, (false), (by first | rfl | (simp; done) | (simp [*]; done)), H', ⟨by first | omega | exact Nat.le_refl _⟩, ⟨by (with_reducible repeat (first | apply Kd.R_alloc | apply Kd.R_drewN | apply Kd.R_drew)); exact HO146.out⟩, ⟨by repeat (first | (with_reducible first | exact HB.out | apply below_alloc | apply pw_below_drewN | apply below_drew1) | exact HB.out)⟩⟩
    · replace c10 := Bool.eq_false_iff.mpr c10
      subst c10
      have H1 : (slotmeshlaw35_TreePages.j0 k l0 a2 a3 t140 t141 t142 t143 true) = some r := by rw [if_neg (show ¬ (false = true) by decide)] at H; exact H
      clear H
      have H := H1
      clear H1
      have H' := Aside0.mk H
      clear H
      go_wp2
      go_meet
      case rel => exact ⟨_, (true), (by first | rfl | (simp; done) | (simp [*]; done)), H', ⟨by first | omega | exact Nat.le_refl _⟩, ⟨by (with_reducible repeat (first | apply Kd.R_alloc | apply Kd.R_drewN | apply Kd.R_drew)); exact HO146.out⟩, ⟨by repeat (first | (with_reducible first | exact HB.out | apply below_alloc | apply pw_below_drewN | apply below_drew1) | exact HB.out)⟩⟩
  case rest =>
    clear HC7
    try clear c1
    try clear p1
    try clear q1
    try clear hx1
    try clear c2
    try clear p2
    try clear c10
    try clear c11
    try clear c11b0
    try clear c11b1
    try clear c12
    try clear c12b0
    try clear c13
    try clear c13b0
    try clear c14
    try clear c14b0
    try clear p14
    try clear q14
    try clear hx14
    try clear hx147_0
    try clear p147
    try clear q147
    obtain ⟨kq, x43_6, rfl, HA, HJ6, HO_12, HB⟩ := hcut
    cases kq with
    | zero => exact absurd HA.out (by simp [slotmeshlaw35_TreePages.j0])
    | succ kj6 =>
      have H := HA.out
      clear HA
      simp only [slotmeshlaw35_TreePages.j0] at H
      by_cases c15 : x43_6 = true
      · subst c15
        have H1 : (some t140) = some r := by rw [if_pos rfl] at H; exact H
        clear H
        have H := H1
        clear H1
        obtain rfl := Option.some.inj H
        go_wp2
        go_ret
        exact ⟨by first | rfl | (simp [errW_none, errW_some] <;> rfl) | (simp [*, errW_none, errW_some] <;> rfl), by repeat (first | (with_reducible first | exact HB.out | apply below_alloc | apply pw_below_drewN | apply below_drew1) | exact HB.out)⟩
      · replace c15 := Bool.eq_false_iff.mpr c15
        subst c15
        rw [if_neg (show ¬ (false = true) by decide)] at H
        by_cases hT : tailB l0 a2 a3 t141 t142 t143 = true
        · rw [if_pos hT] at H
          obtain rfl := Option.some.inj H
          obtain rfl : true = t140 := Option.some.inj A5.out
          clear H A6
          obtain ⟨y, ji, y2, x, hy, hji, hy2, hi0, hi1, h16, hy0, hy256, hj0, hj1, hRoot, hne, hNo, hYes⟩ := tail_facts hT
          obtain ⟨l2, hl2⟩ : ∃ l2 : List (List Int), l2 = l0.set (t142 : Int).toNat y2 := ⟨_, rfl⟩
          rw [← hl2] at hRoot
          have hlen2 : y2.length = y.length := by rw [hy2, List.length_set]
          have hll2 : l2.length = l0.length := by rw [hl2, List.length_set]
          have c16b0 : decide (t142 < 0) = false := decide_eq_false (by omega)
          have c17b0 : decide (0 ≤ t142) = true := decide_eq_true hi0
          have c18b0 : decide (t142 < (l0.length : Int)) = true := decide_eq_true hi1
          have p0 := eq_true hi0
          have q0 := eq_true hi1
          have c20b0 : ((y.length : Int) == 0) = false := beq_eq_false_iff_ne.mpr (by omega)
          have c20b1 : ((y.length : Int) != 0) = true := bne_iff_ne.mpr (by omega)
          have c20b2 : ¬ (y = []) := fun h_ => by rw [h_] at hy0; exact absurd hy0 (Nat.lt_irrefl 0)
          have c22b0 : decide (0 ≤ (ji)) = true := decide_eq_true hj0
          have c23b0 : decide ((ji) < (y.length : Int)) = true := decide_eq_true hj1
          have pj := eq_true hj0
          have qj := eq_true hj1
          obtain ⟨Ap, cp, ep, lp, Cp⟩ := Kd.R_reads HO_12.out
          subst ep
          have DP := Aside0.mk Cp
          have MP := Aside0.mk lp
          have CPg := Aside0.mk (Kd.C_below HR0.out HB.out)
          have HBw := HB
          obtain ⟨hs, hrd0, hrel0⟩ := Hand.hdrs_of_pages CPg.out
          obtain ⟨ad, Ai, ci, eA, hx0, hli, hri⟩ := at_L1 CPg.out t142 hi0 hi1
          cases eA
          rw [← hy] at hx0 hli hri
          have HLI := Aside0.mk hli
          have HRI := Aside0.mk hri
          have HX0 := Aside0.mk hx0
          have HRD := Aside0.mk hrd0
          have HREL := Aside0.mk hrel0
          have HY2 := Aside0.mk hy2
          have HL2 := Aside0.mk hl2
          have HLEN2 := Aside0.mk hlen2
          have HLL2 := Aside0.mk hll2
          have HHI0 := Aside0.mk hi0
          have HHI1 := Aside0.mk hi1
          have HHJ0 := Aside0.mk hj0
          have HHJ1 := Aside0.mk hj1
          clear HO_12 HB lp Cp hrd0 hrel0 hri hli hx0 hT hy2 hy hl2 hlen2 hll2
          have HB := Aside0.mk (Below.refl wc.heap.size wc)
          go_wp2_with (first | ((with_reducible refine gate_dst (N := 47) rfl ?_); refine Kd.R_lit Hand.hkd _ 22 ?hg (N := 47) ?hd (xs := ([] : List Hand.Hdr)) (inner := []) (ok := fun _ => True) (okp := fun _ => True) ?hr ?hp (fun _ hk => hk) trivial (Below.refl _ _) (Nat.le_refl _) (by simp) ?_; (case hd => rfl); (case hg => rfl); (case hr => first | (go_simp; done) | (go_simp; rfl)); (case hp => exact (Reps.none _ _)); intro v47 w47 ho hb hg_ hnew_; clear hg_ hnew_; have HB47 := Aside0.mk (below_step HB.out hb); have O47 := Aside0.mk (Kd.R_lower ho (below_size HB.out)); clear hb ho) | ((with_reducible refine gate_builtin (b := .append) (xs := #[.tmp 47, .tmp 48]) rfl ?_); at_builtin; refine Kd.R_append_rows Hand.hkd (w0 := wc) wc.heap.size rfl (.tmp 47) (.tmp 48) 32 22 (.slice none 0 0) 24 rfl Try.underlying32 Hand.info22' rfl (by decide) (by omega) v47 ([] : List Hand.Hdr) hs _ _ _ (fun _ => True) (fun _ => False) rfl rfl O47.out ?aR (fun _ _ h => h) (fun _ h => h.elim) (fun _ _ => trivial) HB47.out (below_size HB47.out) ?aL ?_; (case aR => exact Kd.C_below (Kd.C_of_reads (h1 := Hand.hval_one) HRD.out) HB47.out); (case aL => (show (0 + l0.length) * 24 ≤ 140737488355328); omega); intro v49 w49 ho hb hg hat; rw [List.nil_append] at ho; obtain ⟨go, cap, eo, gb, gl, cl, HG⟩ := Kd.R_form ho (by rw [HREL.out.1]; omega); rw [HREL.out.1] at eo; subst eo; have GB := Aside0.mk gb; have O49 := Aside0.mk ho; have HB49 := Aside0.mk hb; clear ho hb hg hat gb gl HG O47 HB47) | ((with_reducible refine gate_dst (N := 52) rfl ?_); refine Kd.R_lit (Kd.int .u8) _ 5 ?hg (N := 52) ?hd (xs := ([] : List Int)) (inner := []) (ok := fun _ => True) (okp := fun _ => True) ?hr ?hp (fun _ hk => hk) trivial (Below.refl _ _) (Nat.le_refl _) (by simp) ?_; (case hd => rfl); (case hg => rfl); (case hr => first | (go_simp; done) | (go_simp; rfl)); (case hp => exact (Reps.none _ _)); intro v52 w52 ho hb hg_ hnew_; clear hg_ hnew_; have HB52 := Aside0.mk (below_step HB49.out hb); have O52 := Aside0.mk (Kd.R_lower ho (below_size HB49.out)); have O50 := Aside0.mk (Kd.R_below O49.out hb); have hx52 := (HB52.out.cell (World.block_lt_of_cell? wc _ HX0.out)).trans HX0.out; clear hb ho O49) | ((with_reducible refine gate_builtin (b := .append) (xs := #[.tmp 52, .tmp 56]) rfl ?_); at_builtin; refine Kd.R_append_rows (Kd.int .u8) (w0 := wc) wc.heap.size rfl (.tmp 52) (.tmp 56) 22 5 (.int .u8 0) 1 rfl Try.underlying22 info5 rfl (by decide) (by omega) v52 ([] : List Int) y _ _ _ (fun _ => True) (fun _ => False) rfl rfl O52.out ?aR (fun _ _ h => h) (fun _ h => h.elim) (fun _ _ => trivial) HB52.out (below_size HB52.out) ?aL ?_; (case aR => exact Kd.C_below HRI.out HB52.out); (case aL => (show (0 + y.length) * 1 ≤ 140737488355328); omega); intro v57 w57 ho hb hg hat; rw [List.nil_append] at ho; have O57 := Aside0.mk (Kd.R_over' O50.out (Kd.R_typed O52.out) (by decide) hg); obtain ⟨g5, c5, e5, gb5, gl5, cl5, HG5⟩ := Kd.R_form ho hy0; subst e5; have GB5 := Aside0.mk gb5; have O5 := Aside0.mk ho; have HB57 := Aside0.mk hb; clear ho hb hg hat gb5 gl5 HG5 O52 O50 hx52; obtain ⟨hcO, hfO⟩ := Kd.R_celln ((none, 0, 0) : Hand.Hdr) O57.out t142 HHI0.out HHI1.out; have HPs := Aside0.mk (Kd.R_putn O57.out t142 ((some ⟨g5, 0, none⟩, y.length, c5) : Hand.Hdr))) | ((with_reducible refine gate_store (t := 22) (p := 58) rfl ?_); refine store_event (t := 22) (p := 58) (v := ?vo) (w1 := (w57.setCell ⟨go, (t142 : Int).toNat, none⟩ (.slice (some ⟨g5, 0, none⟩) y.length c5))) ?hg ?ho ?hn ?hr ?_; (case ho => rfl); (case hg => rfl); (case hn => rfl); (case hr => first | (go_simp; done) | (go_simp; rfl)); intro w58 hw; obtain ⟨cl7, HG7⟩ := Kd.R_typed O57.out go rfl; have n0_ := Kd.R_set O5.out HG7 (by decide) (t142 : Int).toNat (.slice (some ⟨g5, 0, none⟩) y.length c5); have n1_ := below_set (j := (t142 : Int).toNat) (v := .slice (some ⟨g5, 0, none⟩) y.length c5) HB57.out GB.out; have n2_ := HPs.out; rw [← hw] at n0_ n1_; have O8 := Aside0.mk n0_; have HB58 := Aside0.mk n1_; have O58 := Aside0.mk (show Hand.hkd.R 22 w58 wc.heap.size (fun _ => True) (.slice (some ⟨go, 0, none⟩) l0.length cap) (hs.set (t142 : Int).toNat (some ⟨g5, 0, none⟩, y.length, c5)) by rw [hw]; exact n2_); clear hw n0_ n1_ n2_ hcO hfO HPs O57 O5 HG7))
          have hset : rdOf ((none, 0, 0) : Hand.Hdr) (hs.set (t142 : Int).toNat (some ⟨g5, 0, none⟩, y.length, c5)) t142 = (some ⟨g5, 0, none⟩, y.length, c5) := by
            have hlt : (t142 : Int).toNat < hs.length := by rw [HREL.out.1]; omega
            simp [rdOf, hlt]
          have hcO : w58.cell? ⟨go, (t142 : Int).toNat, none⟩ = some (.slice (some ⟨g5, 0, none⟩) y.length c5) := by
            have h := (Kd.R_celln ((none, 0, 0) : Hand.Hdr) O58.out t142 HHI0.out HHI1.out).1
            rw [hset] at h
            exact h
          obtain ⟨ad5, e5, hx5⟩ := Kd.at_int (Kd.R_reads' O8.out).2.2 ji HHJ0.out HHJ1.out
          cases e5
          simp only [add_plain] at hx5
          have O59 := Aside0.mk (Kd.R_drew O58.out)
          have O9 := Aside0.mk (Kd.R_drew O8.out)
          have HB59 := Aside0.mk (below_drew1 HB58.out)
          have hf59 := (Kd.R_celln (0 : Int) O9.out ji HHJ0.out HHJ1.out).2
          have HP9 := Aside0.mk (Kd.R_putn O9.out ji (Go.bits .xor .u8 (rd y ji) a3))
          refine start_ (n := 18) (S := fun w' => w'.cell? ⟨go, (t142 : Int).toNat, none⟩ = some (.slice (some ⟨g5, 0, none⟩) y.length c5) ∧ w'.cell? ⟨g5, (ji).toNat, none⟩ = some (.int .u8 (rd y ji))) (ds := [17]) #[false, false, false, false, false, false, false, false, false, false, false, false, false, false, false, false, false, false] (by kernel_rfl) rfl rfl ⟨hcO, hx5⟩ (fun hHeld => ?_); refine with_tabW slotmeshlaw35_TreePages.tab9 slotmeshlaw35_TreePages.bits9 (fun HT_ HW_ => ?_)
          clear hcO hx5 O58 O8 HB58 HB57
          generalize w58.drew = w59 at O59 O9 HB59 hf59 HP9 hHeld ⊢
          refine pure_ (i := 0) (N := some 59) (v := ?_) (a' := ?_) #[true, false, false, false, false, false, false, false, false, false, false, false, false, false, false, false, false, false] rfl rfl (any_of HT_.out (by kernel_rfl)) (fun _ _ _ h => h) (Or.inl ⟨by rfl, ?_⟩) ?_ ?_
          rotate_left
          · intro w'
            go_simp
            with_reducible rfl
          rotate_left
          · simp only [Act.put, List.setIfInBounds_toArray, List.set_cons_zero, List.set_cons_succ, i64_w, i32_w]
            rfl
          refine pure_ (i := 1) (N := some 60) (v := ?_) (a' := ?_) #[true, true, false, false, false, false, false, false, false, false, false, false, false, false, false, false, false, false] rfl rfl (any_of HT_.out (by kernel_rfl)) (fun _ _ _ h => h) (Or.inl ⟨by rfl, ?_⟩) ?_ ?_
          rotate_left
          · intro w'
            go_simp
            with_reducible rfl
          rotate_left
          · simp only [Act.put, List.setIfInBounds_toArray, List.set_cons_zero, List.set_cons_succ, i64_w, i32_w]
            rfl
          refine pure_ (i := 2) (N := some 61) (v := ?_) (a' := ?_) #[true, true, true, false, false, false, false, false, false, false, false, false, false, false, false, false, false, false] rfl rfl (any_of HT_.out (by kernel_rfl)) (fun _ _ _ h => h) (Or.inl ⟨by rfl, ?_⟩) ?_ ?_
          rotate_left
          · intro w'
            go_simp
            with_reducible rfl
          rotate_left
          · simp only [Act.put, List.setIfInBounds_toArray, List.set_cons_zero, List.set_cons_succ, i64_w, i32_w]
            rfl
          refine pure_ (i := 4) (N := some 63) (v := ?_) (a' := ?_) #[true, true, true, false, true, false, false, false, false, false, false, false, false, false, false, false, false, false] rfl rfl (any_of HT_.out (by kernel_rfl)) (fun _ _ _ h => h) (Or.inl ⟨by rfl, ?_⟩) ?_ ?_
          rotate_left
          · intro w'
            go_simp
            with_reducible rfl
          rotate_left
          · simp only [Act.put, List.setIfInBounds_toArray, List.set_cons_zero, List.set_cons_succ, i64_w, i32_w]
            rfl
          refine pure_ (i := 5) (N := some 64) (v := ?_) (a' := ?_) #[true, true, true, false, true, true, false, false, false, false, false, false, false, false, false, false, false, false] rfl rfl (any_of HT_.out (by kernel_rfl)) (fun _ _ _ h => h) (Or.inl ⟨by rfl, ?_⟩) ?_ ?_
          rotate_left
          · intro w'
            go_simp
            with_reducible rfl
          rotate_left
          · simp only [Act.put, List.setIfInBounds_toArray, List.set_cons_zero, List.set_cons_succ, i64_w, i32_w]
            rfl
          refine pure_ (i := 6) (N := some 65) (v := ?_) (a' := ?_) #[true, true, true, false, true, true, true, false, false, false, false, false, false, false, false, false, false, false] rfl rfl (any_of HT_.out (by kernel_rfl)) (fun _ _ _ h => h) (Or.inl ⟨by rfl, ?_⟩) ?_ ?_
          rotate_left
          · intro w'
            go_simp
            with_reducible rfl
          rotate_left
          · simp only [Act.put, List.setIfInBounds_toArray, List.set_cons_zero, List.set_cons_succ, i64_w, i32_w]
            rfl
          refine pure_ (i := 7) (N := some 66) (v := ?_) (a' := ?_) #[true, true, true, false, true, true, true, true, false, false, false, false, false, false, false, false, false, false] rfl rfl (any_of HT_.out (by kernel_rfl)) (fun _ _ _ h => h) (Or.inl ⟨by rfl, ?_⟩) ?_ ?_
          rotate_left
          · intro w'
            go_simp
            with_reducible rfl
          rotate_left
          · simp only [Act.put, List.setIfInBounds_toArray, List.set_cons_zero, List.set_cons_succ, i64_w, i32_w]
            rfl
          refine pure_ (i := 8) (N := some 67) (v := ?_) (a' := ?_) #[true, true, true, false, true, true, true, true, true, false, false, false, false, false, false, false, false, false] rfl rfl (any_of HT_.out (by kernel_rfl)) (fun _ _ _ h => h) (Or.inl ⟨by rfl, ?_⟩) ?_ ?_
          rotate_left
          · intro w'
            go_simp
            with_reducible rfl
          rotate_left
          · simp only [Act.put, List.setIfInBounds_toArray, List.set_cons_zero, List.set_cons_succ, i64_w, i32_w]
            rfl
          refine take_ (i := 3) (N := some 62) (v := ?_) (a' := ?_) #[true, true, true, true, true, true, true, true, true, false, false, false, false, false, false, false, false, false] rfl rfl (take_ofW HT_.out HW_.out (by kernel_rfl)) (fun _ _ _ h => h) (Or.inl ⟨by rfl, ?_⟩) hHeld ?_ ?_
          rotate_left
          · rintro w' ⟨s0, s1⟩
            go_simp
            with_reducible rfl
          rotate_left
          · simp only [Act.put, List.setIfInBounds_toArray, List.set_cons_zero, List.set_cons_succ, i64_w, i32_w]
            rfl
          refine take_ (i := 9) (N := some 68) (v := ?_) (a' := ?_) #[true, true, true, true, true, true, true, true, true, true, false, false, false, false, false, false, false, false] rfl rfl (take_ofW HT_.out HW_.out (by kernel_rfl)) (fun _ _ _ h => h) (Or.inl ⟨by rfl, ?_⟩) hHeld ?_ ?_
          rotate_left
          · rintro w' ⟨s0, s1⟩
            go_simp
            with_reducible rfl
          rotate_left
          · simp only [Act.put, List.setIfInBounds_toArray, List.set_cons_zero, List.set_cons_succ, i64_w, i32_w]
            rfl
          refine pure_ (i := 10) (N := some 69) (v := ?_) (a' := ?_) #[true, true, true, true, true, true, true, true, true, true, true, false, false, false, false, false, false, false] rfl rfl (any_of HT_.out (by kernel_rfl)) (fun _ _ _ h => h) (Or.inl ⟨by rfl, ?_⟩) ?_ ?_
          rotate_left
          · intro w'
            go_simp
            with_reducible rfl
          rotate_left
          · simp only [Act.put, List.setIfInBounds_toArray, List.set_cons_zero, List.set_cons_succ, i64_w, i32_w]
            rfl
          refine pure_ (i := 11) (N := some 70) (v := ?_) (a' := ?_) #[true, true, true, true, true, true, true, true, true, true, true, true, false, false, false, false, false, false] rfl rfl (any_of HT_.out (by kernel_rfl)) (fun _ _ _ h => h) (Or.inl ⟨by rfl, ?_⟩) ?_ ?_
          rotate_left
          · intro w'
            go_simp
            with_reducible rfl
          rotate_left
          · simp only [Act.put, List.setIfInBounds_toArray, List.set_cons_zero, List.set_cons_succ, i64_w, i32_w]
            rfl
          refine pure_ (i := 12) (N := some 71) (v := ?_) (a' := ?_) #[true, true, true, true, true, true, true, true, true, true, true, true, true, false, false, false, false, false] rfl rfl (any_of HT_.out (by kernel_rfl)) (fun _ _ _ h => h) (Or.inl ⟨by rfl, ?_⟩) ?_ ?_
          rotate_left
          · intro w'
            go_simp
            with_reducible rfl
          rotate_left
          · simp only [Act.put, List.setIfInBounds_toArray, List.set_cons_zero, List.set_cons_succ, i64_w, i32_w]
            rfl
          refine pure_ (i := 14) (N := some 73) (v := ?_) (a' := ?_) #[true, true, true, true, true, true, true, true, true, true, true, true, true, false, true, false, false, false] rfl rfl (any_of HT_.out (by kernel_rfl)) (fun _ _ _ h => h) (Or.inl ⟨by rfl, ?_⟩) ?_ ?_
          rotate_left
          · intro w'
            go_simp
            with_reducible rfl
          rotate_left
          · simp only [Act.put, List.setIfInBounds_toArray, List.set_cons_zero, List.set_cons_succ, i64_w, i32_w]
            rfl
          refine take_ (i := 13) (N := some 72) (v := ?_) (a' := ?_) #[true, true, true, true, true, true, true, true, true, true, true, true, true, true, true, false, false, false] rfl rfl (take_ofW HT_.out HW_.out (by kernel_rfl)) (fun _ _ _ h => h) (Or.inl ⟨by rfl, ?_⟩) hHeld ?_ ?_
          rotate_left
          · rintro w' ⟨s0, s1⟩
            go_simp
            with_reducible rfl
          rotate_left
          · simp only [Act.put, List.setIfInBounds_toArray, List.set_cons_zero, List.set_cons_succ, i64_w, i32_w]
            rfl
          refine pure_ (i := 15) (N := some 74) (v := ?_) (a' := ?_) #[true, true, true, true, true, true, true, true, true, true, true, true, true, true, true, true, false, false] rfl rfl (any_of HT_.out (by kernel_rfl)) (fun _ _ _ h => h) (Or.inl ⟨by rfl, ?_⟩) ?_ ?_
          rotate_left
          · intro w'
            go_simp
            with_reducible rfl
          rotate_left
          · simp only [Act.put, List.setIfInBounds_toArray, List.set_cons_zero, List.set_cons_succ, i64_w, i32_w]
            rfl
          refine pure_ (i := 16) (N := some 75) (v := ?_) (a' := ?_) #[true, true, true, true, true, true, true, true, true, true, true, true, true, true, true, true, true, false] rfl rfl (any_of HT_.out (by kernel_rfl)) (fun _ _ _ h => h) (Or.inl ⟨by rfl, ?_⟩) ?_ ?_
          rotate_left
          · intro w'
            go_simp
            with_reducible rfl
          rotate_left
          · simp only [Act.put, List.setIfInBounds_toArray, List.set_cons_zero, List.set_cons_succ, i64_w, i32_w]
            rfl
          have hx9 := hHeld.2
          refine last_ (i := 17) (N := none) #[true, true, true, true, true, true, true, true, true, true, true, true, true, true, true, true, true, true] rfl rfl (one_of HT_.out (by kernel_rfl)) (by decide) (fun K hK => ?_)
          refine skip_ (w1 := ?_) (by rfl) rfl ?_ ?_
          rotate_left
          · go_simp
            rfl
          refine hK.out _ _ ?_
          clear hK K
          refine done_ (done_of HT_.out (by kernel_rfl)) ?_
          obtain ⟨cl9, HG9⟩ := Kd.R_typed O9.out g5 rfl
          have n0_ := Kd.R_set O59.out HG9 (by decide) (ji).toNat (.int .u8 (Go.bits .xor .u8 (rd y ji) a3))
          have n1_ := below_set (j := (ji).toNat) (v := .int .u8 (Go.bits .xor .u8 (rd y ji) a3)) HB59.out GB5.out
          have n2_ := HP9.out
          rw [← HY2.out] at n2_
          clear hx9 hf59 hHeld HT_ HW_ HG9 O59 O9 HB59 HP9
          generalize w59.setCell ⟨g5, (ji).toNat, none⟩ (.int .u8 (Go.bits .xor .u8 (rd y ji) a3)) = w60 at n0_ n1_ n2_ ⊢
          have O60 := Aside0.mk n0_
          have HB60 := Aside0.mk n1_
          have hcO : w60.cell? ⟨go, (t142 : Int).toNat, none⟩ = some (.slice (some ⟨g5, 0, none⟩) y.length c5) := by
            have h := (Kd.R_celln ((none, 0, 0) : Hand.Hdr) n0_ t142 HHI0.out HHI1.out).1
            rw [hset] at h
            exact h
          obtain ⟨e2, l52', C52⟩ := Kd.R_reads' n2_
          have D5 := Aside0.mk C52
          have M5 := Aside0.mk (show y2.length ≤ c5 by rw [HLEN2.out]; exact l52')
          have hrel2 := (HREL.out.below HB60.out).set (t142 : Int).toNat M5.out D5.out
          rw [← HL2.out, HLEN2.out] at hrel2
          obtain ⟨e3, l53, C53⟩ := Kd.R_reads' O60.out
          have hpg := Hand.pages_of_hdrs (Kd.reads_of_C (d := ((none, 0, 0) : Hand.Hdr)) (h1 := Hand.hval_one) C53) hrel2
          rw [hrel2.1] at hpg
          have hroot := tree_Root.calls _ cap l2 x 0 w60 hpg (by rw [HLL2.out]; exact l53) hRoot
          rw [HLL2.out] at hroot
          have HROOT := Aside0.mk hroot
          clear n0_ n1_ n2_ e2 l52' C52 e3 l53 C53 hpg hroot hrel2 O60
          go_wp2_with (first | ((with_reducible refine gate_callee (f := 28) rfl ?_); refine goesL_ (some 78) rfl rfl Try.func28 (by kernel_rfl) rfl #[.slice (some ⟨go, 0, none⟩) l0.length cap] rfl (by (try simp only [List.map_toArray, List.map_cons, List.map_nil]); first | done | rfl | (simp only [List.length_drop, List.length_take]; rfl)) ?_; (with_reducible refine HROOT.out.mono ?_); rintro e w61 ⟨rfl, hb⟩; refine ⟨_, rfl, ?_⟩; have HB61 := Aside0.mk (below_step HB60.out hb); have D61 := Aside0.mk (Kd.C_below D5.out hb); have hc61 := (hb.cell (World.block_lt_of_cell? _ _ hcO)).trans hcO; clear hb hcO HROOT D5))
          have hck := tree_Check.calls t141 (l0.length : Int) t142 _ _ y2 _ _ t143 false w61 D61.out M5.out (Kd.C_below DP.out HB61.out) MP.out hNo
          rw [HLEN2.out] at hck
          refine hck.mono ?_
          clear hck
          rintro e w62 ⟨rfl, hb⟩
          have HB62 := Aside0.mk (below_step HB61.out hb)
          have D62 := Aside0.mk (Kd.C_below D61.out hb)
          have hc62 := (hb.cell (World.block_lt_of_cell? _ _ hc61)).trans hc61
          clear hb hc61 D61 HB61
          go_wp2_with fail
          have hck := tree_Check.calls x (l0.length : Int) t142 _ _ y2 _ _ t143 true w62 D62.out M5.out (Kd.C_below DP.out HB62.out) MP.out hYes
          rw [HLEN2.out] at hck
          refine hck.mono ?_
          clear hck
          rintro e w63 ⟨rfl, hb⟩
          have HB63 := Aside0.mk (below_step HB62.out hb)
          clear hb
          go_wp2_with fail
          go_ret
          exact ⟨rfl, below_step HBw.out HB63.out⟩
        · rw [if_neg hT] at H
          exact absurd H (by simp)

end Go.Proofs.Ytnjhegcdjhklfaa.PTreePages
