/- tree.Proof: what it returns, whatever the world. -/
import Derived.Test.YtnjhegcdjhklfaaRoot
namespace Go.Proofs.Ytnjhegcdjhklfaa.Hand
open Go Go.RowKit Go.Shelf Go.Proofs.YtnjhegcdjhklfaaW.PrintWords
open Rng
attribute [local go_sem] Oper.semAt_some

theorem pf_fin {w W W8 w' : World} {n N nb bi : Nat} {v0 v' u u0 : Value} {l0 l1 : List Int} {p : Int} (hn : n ≤ bi) (hib : bi < nb) (hnb : nb < N) (hN : N ≤ W.heap.size) (b0 : Boxed W nb 33 v0) (bI : Boxed W bi 3 u0)
    (r0 : Row W N v0 l0) (hB : Below n w W) (h8 : W8 = W.drew.alloc (.cells #[.int .u64 p] 23)) (hg : W8.grownBy w' v0.ownBlock) (r1 : Row w' N v' l1) :
    KeepsFrom N W ((w'.setCell ⟨nb, 0, none⟩ v').setCell ⟨bi, 0, none⟩ u) ∧
      (∀ k o, k ≠ nb → k ≠ bi → some k ≠ v0.ownBlock → W.heap[k]? = some o → ((w'.setCell ⟨nb, 0, none⟩ v').setCell ⟨bi, 0, none⟩ u).heap[k]? = some o) ∧
      Boxed ((w'.setCell ⟨nb, 0, none⟩ v').setCell ⟨bi, 0, none⟩ u) nb 33 v' ∧ Row ((w'.setCell ⟨nb, 0, none⟩ v').setCell ⟨bi, 0, none⟩ u) N v' l1 ∧ Boxed ((w'.setCell ⟨nb, 0, none⟩ v').setCell ⟨bi, 0, none⟩ u) bi 3 u ∧
      Below n w ((w'.setCell ⟨nb, 0, none⟩ v').setCell ⟨bi, 0, none⟩ u) := by
  subst h8
  have hne : ∀ k, k < N → some k ≠ v0.ownBlock := fun k hk he => by have := own_base r0 k he.symm; omega
  have low : ∀ k, k < W.heap.size → some k ≠ v0.ownBlock → w'.heap[k]? = W.heap[k]? := fun k hk hx =>
    (hg.block k (by simp; omega) hx).trans (Below.heap_alloc W.drew _ k hk)
  have all : ∀ k o, k ≠ nb → k ≠ bi → some k ≠ v0.ownBlock → W.heap[k]? = some o → ((w'.setCell ⟨nb, 0, none⟩ v').setCell ⟨bi, 0, none⟩ u).heap[k]? = some o := fun k o h1 h2 h3 ho =>
    (Below.heap_setCell _ _ _ _ h2).trans ((Below.heap_setCell _ _ _ _ h1).trans ((low k (Array.getElem?_eq_some_iff.1 ho).1 h3).trans ho))
  refine ⟨⟨by have := hg.size; simp at this ⊢; omega, fun k o hk ho hc => ?_⟩, all, ?_, ?_, ?_, ?_⟩
  · refine all k o (by omega) (by omega) (fun he => ?_) ho
    obtain ⟨cells, hcc⟩ := own_typed r0 k he.symm
    rw [ho] at hcc
    cases hcc
    cases hc
  · have hb' : Boxed w' nb 33 v0 := (low nb (by omega) (hne nb hnb)).trans b0
    exact boxed_far (hb'.set v') (by omega) _
  · exact own_setCell (own_setCell r1 (fun he => by have := own_base r1 nb he.symm; omega) _) (fun he => by have := own_base r1 bi he.symm; omega) _
  · have hb' : Boxed w' bi 3 u0 := (low bi (by omega) (hne bi (by omega))).trans bI
    exact (boxed_far hb' (by omega) _).set u
  · refine (Below.setCell ?_ (p := ⟨nb, 0, none⟩) (by show n ≤ nb; omega) _).setCell (p := ⟨bi, 0, none⟩) hn _
    have := hB.size
    exact ((hB.drew).alloc (by simp; have := b0.lt; omega) _).grown hg (by simp; have := b0.lt; omega) (fun k hk => by have := own_base r0 k hk; omega)

theorem proofStep_len (ls : List (List Int)) : ∀ s : List Int × Nat, (ls.foldl Dig.proofStep s).1.length ≤ s.1.length + ls.length := by
  induction ls with
  | nil => intro s; simp
  | cons l ls ih =>
    intro s
    have h := ih (Dig.proofStep s l)
    have e : (Dig.proofStep s l).1.length ≤ s.1.length + 1 := by
      unfold Dig.proofStep
      split <;> simp
    simp only [List.foldl_cons, List.length_cons]
    omega

theorem proofStep_ix (ls : List (List Int)) : ∀ s : List Int × Nat, (ls.foldl Dig.proofStep s).2 ≤ s.2 := by
  induction ls with
  | nil => intro s; simp
  | cons l ls ih =>
    intro s
    have h := ih (Dig.proofStep s l)
    have e : (Dig.proofStep s l).2 = s.2 / 2 := rfl
    simp only [List.foldl_cons]
    omega

theorem levelsF_len : ∀ (k : Nat) (l : List Int), (Dig.levelsF k l).length ≤ k + 1
  | 0, _ => by simp [Dig.levelsF]
  | k + 1, l => by
    have := levelsF_len k (Dig.nextF l)
    rw [Dig.levelsF]
    split
    · simp; omega
    · simp

/-- Between two levels: what is proved so far. -/
def PfI (w : World) (N : Nat) (i : Nat) (ls : List (List Int)) (W : World) : Prop :=
  ∃ v l k, ls.foldl Dig.proofStep ([], i) = (l, k) ∧ Boxed W (w.heap.size + 1) 33 v ∧ Row W N v l ∧ Boxed W w.heap.size 3 (.int .i64 (k : Int)) ∧ N ≤ W.heap.size ∧ Below w.heap.size w W

set_option maxRecDepth 100000 in
set_option maxHeartbeats 4000000 in
theorem Proof_main (m : Nat) (hm : 5 ≤ m) (A0 : Option Addr) (c0 : Nat) (pages : List (List Int)) (hp0 : 0 < pages.length) (h16 : pages.length ≤ 16) (hpg : Dig.pagesB pages = true) (i : Nat) (hi : i < pages.length) (w : World) (hr : Kd.C (Kd.slice 5 (Kd.int .u8)) w A0 pages.length pages) :
    CallsIn FW m Try.prog 32 #[.slice A0 pages.length c0, .int .i64 (i : Int)] w fun e w' => ∃ v0_ : Value, e = .returned (.tuple #[v0_, .int .i64 0]) ∧ Row w' w.heap.size v0_ ((Dig.allLevels pages).foldl Dig.proofStep ([], i)).1 ∧ Below w.heap.size w w' := by
  have h1 : 1 ≤ m := by omega
  have HR := Lib.hid hr
  clear hr
  have hP := pages_calls A0 c0 pages (w.alloc (.cells #[.int .i64 (i : Int)] 3)) (Kd.C_below HR.out ((Below.refl _ w).alloc (Nat.le_refl _) _))
  rw [hpg] at hP
  have HP := Lib.hid hP
  clear hP
  have hg1 : ¬ (i : Int) < 0 := by omega
  have hg2 : ¬ (pages.length : Int) ≤ i := by omega
  refine callsIn_of_wp_marks Try.func32 rfl trivial ?_ rfl
  simp only [Try.ntmps32, List.size_toArray, List.length_cons, List.length_nil, Nat.reduceAdd, Nat.reduceSub, Array.replicate_succ, Array.replicate_zero, List.push_toArray, List.append_toArray, List.nil_append, List.cons_append]
  gi_wp2_with fail
  refine ⟨trivial, (callsIn_wide.2 HP.out).mono ?_⟩
  rintro e w' ⟨rfl, rfl⟩
  gi_wp2_with fail
  refine ⟨trivial, (levels_in (m - 1) _ _ _ _).mono ?_⟩
  rintro e w' ⟨rfl, rfl⟩
  gi_wp2_with fail
  have bi : Boxed (((w.alloc (.cells #[.int .i64 (i : Int)] 3)).alloc (.cells #[.slice none 0 0] 33)).alloc (.cells #[.slice A0 pages.length c0] 32)) w.heap.size 3 (.int .i64 (i : Int)) := ((Boxed.new w 3 _).alloc _).alloc _
  have bo : Boxed (((w.alloc (.cells #[.int .i64 (i : Int)] 3)).alloc (.cells #[.slice none 0 0] 33)).alloc (.cells #[.slice A0 pages.length c0] 32)) (w.heap.size + 1) 33 (.slice none 0 0) := by
    have := (Boxed.new (w.alloc (.cells #[.int .i64 (i : Int)] 3)) 33 (.slice none 0 0)).alloc (.cells #[.slice A0 pages.length c0] 32)
    rwa [World.size_alloc] at this
  have bp : Boxed (((w.alloc (.cells #[.int .i64 (i : Int)] 3)).alloc (.cells #[.slice none 0 0] 33)).alloc (.cells #[.slice A0 pages.length c0] 32)) (w.heap.size + 1 + 1) 32 (.slice A0 pages.length c0) := by
    have := Boxed.new ((w.alloc (.cells #[.int .i64 (i : Int)] 3)).alloc (.cells #[.slice none 0 0] 33)) 32 (.slice A0 pages.length c0)
    rwa [World.size_alloc, World.size_alloc] at this
  have hB : Below w.heap.size w (((w.alloc (.cells #[.int .i64 (i : Int)] 3)).alloc (.cells #[.slice none 0 0] 33)).alloc (.cells #[.slice A0 pages.length c0] 32)) := (((Below.refl _ w).alloc (Nat.le_refl _) _).alloc (by simp) _).alloc (by simp; omega) _
  have hsz : (((w.alloc (.cells #[.int .i64 (i : Int)] 3)).alloc (.cells #[.slice none 0 0] 33)).alloc (.cells #[.slice A0 pages.length c0] 32)).heap.size = w.heap.size + 3 := by simp
  revert bi bo bp hB hsz
  generalize (((w.alloc (.cells #[.int .i64 (i : Int)] 3)).alloc (.cells #[.slice none 0 0] 33)).alloc (.cells #[.slice A0 pages.length c0] 32)) = w7
  intro bi bo bp hB hsz
  clear HP
  have hmx : Try.prog.follows .mixedOrders = true := by kernel_rfl
  refine' wpIn_range2 (α := Value × List Int) (gf := 52) (lb := #[.pointer (some ⟨w.heap.size + 1 + 1, 0, none⟩)]) rfl (enters_of Try.func52 (by kernel_rfl) rfl)
    (encs := fun x => #[x.1]) (Mv := MvL (w7.heap.size + 2)) (Nx := NxL pages) (Kp := KpL (w7.heap.size + 2)) (S := fun xs => xs.map Prod.snd = Dig.allLevels pages)
    ?seq (fun A B h k o hk hk2 ho _ => (h.block k (Array.getElem?_eq_some_iff.1 ho).1 (fun hx => by have := hx.1; omega)).trans ho)
    (fun x A B C hp hk => KpL.left hp hk) (fun x A B C hk hp => KpL.right hk hp) (fun _ => rfl)
    (fun pre W => PfI w w7.heap.size i (pre.map Prod.snd) W)
    ?hI (fun o o' => ?h0) _ ?assign ?body ?done
  case seq =>
    intro W hW hWs l J hY h0
    rw [← hWs] at hY ⊢
    exact levels1_in (m - 1) (by omega) l (w.heap.size + 1 + 1) A0 c0 pages hp0 h16 J W ((hW.block _ (by omega)).trans bp) (Kd.C_below HR.out (hB.trans (hW.mono (by omega)))) hY h0
  case hI =>
    rintro pre A B ⟨v, l, k, e, h1, h2, h3, h4, h5⟩ hp
    exact ⟨v, l, k, e, hp.put.heap h1 rfl, own_move h2 (fun j hj => by obtain ⟨cells, hc⟩ := own_typed h2 j hj; exact (hp.put.heap hc rfl).trans hc.symm), hp.put.heap h3 rfl, Nat.le_trans h4 hp.put.below.size, h5.trans (hp.put.below.mono (by omega))⟩
  case h0 =>
    exact ⟨_, [], i, rfl, (bo.alloc _).alloc _, own_nil _ _ _ _, (bi.alloc _).alloc _, by simp; omega, (hB.alloc (by omega) _).alloc (by simp; omega) _⟩
  case assign =>
    intro l x W K hK
    gi_wp2
    exact hK
  case body =>
    rintro l pre ⟨v, lev⟩ A1 B1 W ⟨v0, out, k, e, i1, i2, i3, i4, i5⟩ hT ⟨n1, ⟨n2, n3⟩, n4⟩ hP
    dsimp only at n1 n2 n3 n4
    have a1 := i1.lt
    have a3 := i3.lt
    have tb : ∀ j, j < A1.heap.size → ∀ o, A1.heap[j]? = some o → o.isCells = true → W.heap[j]? = some o := fun j hj o ho hc =>
      hP.put.heap ((hT.block j hj (fun ⟨_, o', ho', hc'⟩ => by rw [ho] at ho'; cases ho'; rw [hc] at hc'; cases hc')).trans ho) hc
    have bo' : Boxed W (w.heap.size + 1) 33 v0 := tb _ a1 _ i1 rfl
    have bi' : Boxed W w.heap.size 3 (.int .i64 (k : Int)) := tb _ a3 _ i3 rfl
    have r0 : Row W w7.heap.size v0 out := own_move i2 (fun j hj => by obtain ⟨cells, hc⟩ := own_typed i2 j hj; exact (tb j (own_lt i2 j hj) _ hc rfl).trans hc.symm)
    have hB' : Below w.heap.size w W := (i5.trans (hT.below (by omega) (fun k hk h => by have := h.1; omega))).trans (hP.put.below.mono (by omega))
    have hr : Row W A1.heap.size v lev := own_move n1 (fun j hj => by obtain ⟨cells, hc⟩ := own_typed n1 j hj; exact (hP.put.heap hc rfl).trans hc.symm)
    have hNW : w7.heap.size ≤ W.heap.size := Nat.le_trans i4 (Nat.le_trans hT.size hP.put.below.size)
    have hlt0 : ∀ j, v0.ownBlock = some j → j < A1.heap.size := fun j hj => own_lt i2 j hj
    have hk16 : k < 16 := by
      have := proofStep_ix (pre.map Prod.snd) ([], i)
      rw [e] at this
      dsimp only at this
      omega
    have hout : out.length ≤ 17 := by
      have h2 := proofStep_len (pre.map Prod.snd) ([], i)
      rw [e] at h2
      obtain ⟨rest, hrest⟩ := n4
      have h3 := congrArg List.length hrest
      have h4 := levelsF_len pages.length (pages.map Dig.leafF)
      simp only [List.length_append, List.length_cons, List.length_map] at h3 h2
      unfold Dig.allLevels at h3
      simp only [List.length_nil] at h2
      omega
    clear i1 i2 i3 i4 i5 hT hP n1 n4 tb
    obtain ⟨g, cv, rfl, hg, hg'⟩ := hr.form n2
    have hx := xor1' hk16
    have ci := bi'.cell
    have fi := bi'.frozen
    have hrest : (pre ++ [((Value.slice (some ⟨g, 0, none⟩) lev.length cv), lev)]).map Prod.snd = pre.map Prod.snd ++ [lev] := by simp
    by_cases hlt : k ^^^ 1 < lev.length
    · have c1 := (own_at hr ((k ^^^ 1 : Nat) : Int) (by omega) (by omega)).1
      rw [Int.toNat_natCast] at c1
      have hst : Dig.proofStep (out, k) lev = (out ++ [rd lev ((k ^^^ 1 : Nat) : Int)], k / 2) := by
        unfold Dig.proofStep
        rw [if_pos hlt]
        rfl
      obtain ⟨q, hq⟩ : ∃ q, k ^^^ 1 = q := ⟨_, rfl⟩
      rw [hq] at hlt hx c1 hst
      have hlt' : (q : Int) < lev.length := by omega
      gi_wp2
      refine Reg.region_float_in [0, 1, 2, 3, 4] [5, 6, 7] (by kernel_rfl) (fun _ _ h => h) (fun _ _ _ h => h) hmx (by kernel_rfl) (fun V => V.heap[w.heap.size + 1]? = W.heap[w.heap.size + 1]? ∧ V.heap[g]? = W.heap[g]?) ⟨rfl, rfl⟩ ?_
      refine Reg.headS_step (v0) rfl rfl (fun V hV => by have hV0 := (World.cell?_of_block (a := ⟨w.heap.size + 1, 0, none⟩) hV.1).trans bo'.cell; go_simp) (fun K hK => ?_)
      go_simp; refine hK _ ?_; clear hK K
      refine Reg.headS_step (.slice (some ⟨g, 0, none⟩) lev.length cv) rfl rfl (fun V hV => by go_simp) (fun K hK => ?_)
      go_simp; refine hK _ ?_; clear hK K
      refine Reg.headS_step (.int .i64 (q : Int)) rfl rfl (fun V hV => by go_simp) (fun K hK => ?_)
      go_simp; refine hK _ ?_; clear hK K
      refine Reg.headS_step (.pointer (some ⟨g, q, none⟩)) rfl rfl (fun V hV => by go_simp) (fun K hK => ?_)
      go_simp; refine hK _ ?_; clear hK K
      refine Reg.headS_step (.int .u64 (rd lev (q : Int))) rfl rfl (fun V hV => by have hV1 := (World.cell?_of_block (a := ⟨g, q, none⟩) hV.2).trans c1; go_simp) (fun K hK => ?_)
      go_simp; refine hK _ ?_; clear hK K
      refine Reg.headS_nil ?_
      refine Reg.tailS_step rfl (fun K hK => ?_)
      go_simp
      refine hK _ _ (.inr ⟨Below.heap_alloc W.drew _ _ (by show w.heap.size + 1 < W.heap.size; omega), Below.heap_alloc W.drew _ _ (by show g < W.heap.size; omega)⟩) ?_
      clear hK K
      refine Reg.tailS_step rfl (fun K hK => ?_)
      refine append1_step rfl _ _ rfl w7.heap.size v0 _ (rd lev (q : Int)) W.heap.size rfl rfl (Boxed.new W.drew 23 _).cell (own_move r0 (fun k hk => Below.heap_alloc W _ k (own_lt r0 k hk))) (by omega) (by simp; omega) ?_
      intro v' w' hrow' hgr hat
      have k0 : ∀ j, j < W.heap.size → some j ≠ v0.ownBlock → w'.heap[j]? = W.heap[j]? := fun j hj hne => (hgr.block _ (by simp; omega) hne).trans (Below.heap_alloc W.drew _ _ hj)
      have ne0 : ∀ j, j < w7.heap.size → some j ≠ v0.ownBlock := fun j hj he => by have := own_base r0 _ he.symm; omega
      have neg0 : some g ≠ v0.ownBlock := fun he => by have := hlt0 _ he.symm; omega
      refine hK _ _ (.inr ⟨k0 _ (by omega) (ne0 _ (by omega)), k0 _ hg' neg0⟩) ?_
      clear hK K
      obtain ⟨A9, q9, c9, rfl⟩ : ∃ A q c, v' = Value.slice A q c := by
        obtain ⟨A, c, h⟩ := own_slice hrow'
        exact ⟨A, _, c, h⟩
      have bw : Boxed w' (w.heap.size + 1) 33 v0 := (k0 _ (by omega) (ne0 _ (by omega))).trans bo'
      have cw := bw.cell
      have fw := bw.frozen
      refine Reg.tailS_step rfl (fun K hK => ?_)
      go_simp
      refine hK _ _ (.inl rfl) ?_
      clear hK K
      refine Reg.tailS_nil ?_
      have bi2 : Boxed (w'.setCell ⟨w.heap.size + 1, 0, none⟩ (Value.slice A9 q9 c9)) w.heap.size 3 (.int .i64 (k : Int)) := boxed_far ((k0 _ (by omega) (ne0 _ (by omega))).trans bi') (by omega) _
      have ci2 := bi2.cell
      have fi2 := bi2.frozen
      clear cw fw
      gi_wp2
      have hfin := pf_fin (w := w) (W := W) (n := w.heap.size) (N := w7.heap.size) (nb := w.heap.size + 1) (bi := w.heap.size) (u := .int .i64 ((k : Int) / 2)) (Nat.le_refl _) (by omega) (by omega) hNW bo' bi' r0 hB' rfl hgr hrow'
      refine ⟨hfin.1, ⟨hfin.1.size, fun j o hj ho hc => hfin.1.same j o (by omega) ho hc, fun j o hj ho hc => ?_⟩, _, out ++ [rd lev (q : Int)], k / 2, ?_, hfin.2.2.1, hfin.2.2.2.1, ?_, Nat.le_trans hNW hfin.1.size, hfin.2.2.2.2.2⟩
      · have hjg : g = j := by simpa [Value.ownBlock] using hj
        subst hjg
        exact hfin.2.1 _ o (by omega) (by omega) neg0 ho
      · rw [hrest, List.foldl_append, e, ← hst]
        rfl
      · have h := hfin.2.2.2.2.1
        rw [show ((k : Int) / 2) = ((k / 2 : Nat) : Int) by omega] at h ⊢
        exact h
    · have hst : Dig.proofStep (out, k) lev = (out, k / 2) := by
        unfold Dig.proofStep
        rw [if_neg hlt]
      obtain ⟨q, hq⟩ : ∃ q, k ^^^ 1 = q := ⟨_, rfl⟩
      rw [hq] at hlt hx
      have hlt' : ¬ (q : Int) < lev.length := by omega
      have HS := Lib.hid hsz
      clear hsz
      gi_wp2
      have hsz := HS.out
      have hset := (KeepsOthers.setCell W ⟨w.heap.size, 0, none⟩ (.int .i64 ((k : Int) / 2)))
      refine ⟨hset.from _, ⟨by simp, fun j o _ ho hc => hset.same j o ho hc, fun j o hj ho hc => ?_⟩, v0, out, k / 2, ?_, boxed_far bo' (by omega) _, own_setCell r0 (p := ⟨w.heap.size, 0, none⟩) (fun he => by have hq : w7.heap.size ≤ w.heap.size := own_base r0 _ he.symm; omega) _, ?_, Nat.le_trans hNW hset.size, hB'.setCell (p := ⟨w.heap.size, 0, none⟩) (Nat.le_refl _) _⟩
      · have hjg : g = j := by simpa [Value.ownBlock] using hj
        exact (Below.heap_setCell _ _ _ _ (by show j ≠ w.heap.size; omega)).trans ho
      · rw [hrest, List.foldl_append, e, ← hst]
        rfl
      · have h := bi'.set (.int .i64 ((k : Int) / 2))
        rw [show ((k : Int) / 2) = ((k / 2 : Nat) : Int) by omega] at h ⊢
        exact h
  case done =>
    rintro D xs A1 B1 W hD hS ⟨v0, out, k, e, i1, i2, i3, i4, i5⟩ hT hP hK
    have a1 := i1.lt
    have a3 := i3.lt
    have tb : ∀ j, j < A1.heap.size → ∀ o, A1.heap[j]? = some o → o.isCells = true → W.heap[j]? = some o := fun j hj o ho hc =>
      hP.put.heap ((hT.block j hj (fun ⟨_, o', ho', hc'⟩ => by rw [ho] at ho'; cases ho'; rw [hc] at hc'; cases hc')).trans ho) hc
    have bo' : Boxed W (w.heap.size + 1) 33 v0 := tb _ a1 _ i1 rfl
    have r0 : Row W w7.heap.size v0 out := own_move i2 (fun j hj => by obtain ⟨cells, hc⟩ := own_typed i2 j hj; exact (tb j (own_lt i2 j hj) _ hc rfl).trans hc.symm)
    have hB' : Below w.heap.size w W := (i5.trans (hT.below (by omega) (fun k hk h => by have := h.1; omega))).trans (hP.put.below.mono (by omega))
    rw [hS] at e
    clear i1 i2 i3 i4 i5 hT hP hS tb
    have cb := bo'.cell
    gi_wp2
    refine ⟨by simp, .inl ⟨_, _, rfl, run_takeDeferred hK, ?_⟩⟩
    refine ⟨.tuple #[v0, .int .i64 0], by simp [results, Try.f32, go_sem], v0, rfl, ?_, hB'.trans (belowK_b (w := w7) (by omega) W D _ _ hD hK rfl rfl)⟩
    rw [e]
    refine own_weaken (own_move r0 (fun j hj => World.putObj_heap_other (fun he => ?_))) (show w.heap.size ≤ w7.heap.size by omega)
    obtain ⟨cells, hc⟩ := own_typed r0 j hj
    subst he
    rw [hK] at hc
    cases hc

set_option maxRecDepth 100000 in
set_option maxHeartbeats 4000000 in
/-- **tree.Proof**, in the form that its callers use. -/
theorem Proof_calls (A0 : Option Addr) (c0 : Nat) (l0 : List (List Int)) (i : Int) (r1 : List Int) (r2 : Int) (w : World) (hr0 : Kd.C (Kd.slice 5 (Kd.int .u8)) w A0 l0.length l0) (_hc0 : l0.length ≤ c0) (h : some (Dig.proofF l0 i) = some (r1, r2)) :
    Calls Try.prog 32 #[.slice A0 l0.length c0, .int .i64 i] w fun e w' => ∃ v0_ : Value, e = .returned (.tuple #[v0_, .int .i64 r2]) ∧ Kd.R (Kd.int .u64) 23 w' w.heap.size (fun _ => True) v0_ r1 ∧ Below w.heap.size w w' := by
  have h := Option.some.inj h
  by_cases hp : Dig.pagesB l0 = true
  · obtain ⟨h0, h16, _⟩ := pages_facts hp
    by_cases hi : 0 ≤ i ∧ i < l0.length
    · have e : Dig.proofF l0 i = (((Dig.allLevels l0).foldl Dig.proofStep ([], i.toNat)).1, 0) := by unfold Dig.proofF; rw [if_pos ⟨hp, hi.1, hi.2⟩]
      rw [e] at h
      obtain ⟨rfl, rfl⟩ := Prod.mk.inj h
      obtain ⟨i, rfl⟩ := Int.eq_ofNat_of_zero_le hi.1
      refine (callsIn_wide.1 (Proof_main 5 (Nat.le_refl _) A0 c0 l0 h0 h16 hp i (by omega) w hr0)).mono ?_
      rintro e w' ⟨v, he, hrow, hb⟩
      exact ⟨v, he, Kd.R_of_own hrow (fun _ _ => trivial), hb⟩
    · have e : Dig.proofF l0 i = ([], 1) := by unfold Dig.proofF; rw [if_neg (fun hh => hi hh.2)]
      rw [e] at h
      obtain ⟨rfl, rfl⟩ := Prod.mk.inj h
      have hP := pages_calls A0 c0 l0 (w.alloc (.cells #[.int .i64 i] 3)) (Kd.C_below hr0 ((Below.refl _ w).alloc (Nat.le_refl _) _))
      rw [hp] at hP
      have HP := Lib.hid hP
      clear hP e h hr0
      have fin : ∀ w', w' = w.alloc (.cells #[.int .i64 i] 3) → ∃ v0_ : Value, Ending.returned (.tuple #[Value.slice none 0 0, .int .i64 1]) = .returned (.tuple #[v0_, .int .i64 1]) ∧ Kd.R (Kd.int .u64) 23 w' w.heap.size (fun _ => True) v0_ [] ∧ Below w.heap.size w w' := by
        rintro w' rfl
        exact ⟨_, rfl, Kd.R_nil _ _ _ _ _, (Below.refl _ w).alloc (Nat.le_refl _) _⟩
      by_cases hi0 : i < 0
      · refine callsIn_wide.1 (callsIn_of_wp_marks (n := 4) Try.func32 rfl trivial ?_ rfl)
        simp only [Try.ntmps32, List.size_toArray, List.length_cons, List.length_nil, Nat.reduceAdd, Nat.reduceSub, Array.replicate_succ, Array.replicate_zero, List.push_toArray, List.append_toArray, List.nil_append, List.cons_append]
        gi_wp2_with fail
        refine ⟨trivial, (callsIn_wide.2 HP.out).mono ?_⟩
        rintro e w' ⟨rfl, rfl⟩
        gi_wp2_with fail
        exact ⟨.tuple #[.slice none 0 0, .int .i64 1], by simp [results, Try.f32, go_sem], fin _ rfl⟩
      · have hi1 : (l0.length : Int) ≤ i := by omega
        refine callsIn_wide.1 (callsIn_of_wp_marks (n := 4) Try.func32 rfl trivial ?_ rfl)
        simp only [Try.ntmps32, List.size_toArray, List.length_cons, List.length_nil, Nat.reduceAdd, Nat.reduceSub, Array.replicate_succ, Array.replicate_zero, List.push_toArray, List.append_toArray, List.nil_append, List.cons_append]
        gi_wp2_with fail
        refine ⟨trivial, (callsIn_wide.2 HP.out).mono ?_⟩
        rintro e w' ⟨rfl, rfl⟩
        gi_wp2_with fail
        exact ⟨.tuple #[.slice none 0 0, .int .i64 1], by simp [results, Try.f32, go_sem], fin _ rfl⟩
  · have e : Dig.proofF l0 i = ([], 1) := by unfold Dig.proofF; rw [if_neg (fun hh => hp hh.1)]
    rw [e] at h
    obtain ⟨rfl, rfl⟩ := Prod.mk.inj h
    have hP := pages_calls A0 c0 l0 (w.alloc (.cells #[.int .i64 i] 3)) (Kd.C_below hr0 ((Below.refl _ w).alloc (Nat.le_refl _) _))
    rw [show Dig.pagesB l0 = false by simpa using hp] at hP
    have HP := Lib.hid hP
    clear hP e h hr0
    refine callsIn_wide.1 (callsIn_of_wp_marks (n := 4) Try.func32 rfl trivial ?_ rfl)
    simp only [Try.ntmps32, List.size_toArray, List.length_cons, List.length_nil, Nat.reduceAdd, Nat.reduceSub, Array.replicate_succ, Array.replicate_zero, List.push_toArray, List.append_toArray, List.nil_append, List.cons_append]
    gi_wp2_with fail
    refine ⟨trivial, (callsIn_wide.2 HP.out).mono ?_⟩
    rintro e w' ⟨rfl, rfl⟩
    gi_wp2_with fail
    exact ⟨.tuple #[.slice none 0 0, .int .i64 1], by simp [results, Try.f32, go_sem], _, rfl, Kd.R_nil _ _ _ _ _, (Below.refl _ w).alloc (Nat.le_refl _) _⟩

end Go.Proofs.Ytnjhegcdjhklfaa.Hand
