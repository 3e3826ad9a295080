/- tree.Check: what it returns, whatever the world. -/
import Derived.Test.YtnjhegcdjhklfaaWalk
import Derived.StillTactics
namespace Go.Proofs.Ytnjhegcdjhklfaa.Hand
open Go Go.RowKit Go.Shelf Go.Proofs.YtnjhegcdjhklfaaW.PrintWords
open Rng
attribute [local go_sem] Oper.semAt_some

set_option maxRecDepth 100000 in
set_option maxHeartbeats 1000000 in
theorem places_in (m : Nat) (n i : Int) (w : World) :
    CallsIn FW m Try.prog 46 #[.int .i64 n, .int .i64 i] w fun e w' => e = .returned (.func (.func 54) #[] #[.pointer (some ⟨w.heap.size, 0, none⟩), .pointer (some ⟨w.heap.size + 1, 0, none⟩)]) ∧
      w' = (w.alloc (.cells #[.int .i64 n] 3)).alloc (.cells #[.int .i64 i] 3) := by
  refine callsIn_of_wp Try.func46 rfl trivial ?_ rfl
  simp only [Try.ntmps46, List.size_toArray, List.length_cons, List.length_nil, Nat.reduceAdd, Nat.reduceSub, Array.replicate_succ, Array.replicate_zero, List.push_toArray, List.append_toArray, List.nil_append, List.cons_append]
  gi_wp2
  go_ret
  exact ⟨rfl, rfl⟩

theorem info23 : (Try.prog.info? 23).map (fun i => i.size) = some 1 := by kernel_rfl

/-- Between two places of the walk: what is left of the proof, and the digest so far. -/
def CkI (w : World) (bx : Nat) (s : Option (Int × List Int)) (W : World) : Prop :=
  ∃ x pr A' c', s = some (x, pr) ∧ Boxed W bx 23 (.int .u64 x) ∧ Boxed W w.heap.size 33 (.slice A' pr.length c') ∧ Kd.C (Kd.int .u64) w A' pr.length pr ∧ pr.length ≤ c' ∧
    Boxed W (w.heap.size + 1) 4 (.bool false) ∧ Below w.heap.size w W
/-- The proof was too short. -/
def CkX (w : World) (c : Code) (s : Option (Int × List Int)) (W : World) : Prop :=
  c = .ret ∧ s = none ∧ Boxed W (w.heap.size + 1) 4 (.bool false) ∧ Below w.heap.size w W

theorem step_unpaired (x : Int) (pr : List Int) (s : Bool) : Dig.checkStep (some (x, pr)) (false, s) = some (x, pr) := by simp [Dig.checkStep]
theorem step_short (x : Int) (s : Bool) : Dig.checkStep (some (x, [])) (true, s) = none := by simp [Dig.checkStep]
theorem step_first (x d : Int) (r : List Int) : Dig.checkStep (some (x, d :: r)) (true, false) = some (Dig.pairF x d, r) := by simp [Dig.checkStep]
theorem step_second (x d : Int) (r : List Int) : Dig.checkStep (some (x, d :: r)) (true, true) = some (Dig.pairF d x, r) := by simp [Dig.checkStep]
theorem foldl_snoc (pre : List (Bool × Bool)) (p : Bool × Bool) (s : Option (Int × List Int)) : (pre ++ [p]).foldl Dig.checkStep s = Dig.checkStep (pre.foldl Dig.checkStep s) p := by simp

theorem foldl_none (l : List (Bool × Bool)) : l.foldl Dig.checkStep none = none := by
  induction l with
  | nil => rfl
  | cons p l ih => exact ih

/-- Behind a place where a digest was paired. -/
theorem ck_fin {w w4 w7 W : World} (hs4 : w.heap.size + 3 ≤ w4.heap.size) {x y : Int} {pr r : List Int} {A' A'' : Option Addr} {c' c'' : Nat} {s : Option (Int × List Int)}
    (k1 : Boxed W w4.heap.size 23 (.int .u64 x)) (k2 : Boxed W w.heap.size 33 (.slice A' pr.length c')) (k5 : Boxed W (w.heap.size + 1) 4 (.bool false)) (k6 : Below w.heap.size w W)
    (HR2 : Hid (Kd.C (Kd.int .u64) w A'' r.length r)) (HC2 : Hid (r.length ≤ c'')) (hf : s = some (y, r)) :
    KeepsFrom w7.heap.size W ((W.setCell ⟨w4.heap.size, 0, none⟩ (.int .u64 y)).setCell ⟨w.heap.size, 0, none⟩ (.slice A'' r.length c'')).drew.drew ∧
      (((W.setCell ⟨w4.heap.size, 0, none⟩ (.int .u64 y)).setCell ⟨w.heap.size, 0, none⟩ (.slice A'' r.length c'')).drew.drew.heap[w4.heap.size + 1]? = W.heap[w4.heap.size + 1]? ∧
        ((W.setCell ⟨w4.heap.size, 0, none⟩ (.int .u64 y)).setCell ⟨w.heap.size, 0, none⟩ (.slice A'' r.length c'')).drew.drew.heap[w4.heap.size + 1 + 1]? = W.heap[w4.heap.size + 1 + 1]?) ∧
      CkI w w4.heap.size s ((W.setCell ⟨w4.heap.size, 0, none⟩ (.int .u64 y)).setCell ⟨w.heap.size, 0, none⟩ (.slice A'' r.length c'')).drew.drew := by
  have e : ∀ k, k ≠ w4.heap.size → k ≠ w.heap.size → (((W.setCell ⟨w4.heap.size, 0, none⟩ (.int .u64 y)).setCell ⟨w.heap.size, 0, none⟩ (.slice A'' r.length c'')).drew.drew).heap[k]? = W.heap[k]? := fun k h1 h2 =>
    (Below.heap_setCell _ _ _ _ h2).trans (Below.heap_setCell _ _ _ _ h1)
  refine ⟨?_, ⟨e _ (by omega) (by omega), e _ (by omega) (by omega)⟩, y, r, A'', c'', hf, ?_, ?_, HR2.out, HC2.out, (e _ (by omega) (by omega)).trans k5, ?_⟩
  · exact ((((KeepsOthers.setCell W ⟨w4.heap.size, 0, none⟩ _).trans (KeepsOthers.setCell _ ⟨w.heap.size, 0, none⟩ _)).trans (KeepsOthers.drew _)).trans (KeepsOthers.drew _)).from _
  · exact boxed_far (k1.set _) (by omega) _
  · exact (boxed_far k2 (by omega) _).set _
  · exact ((k6.setCell (p := ⟨w4.heap.size, 0, none⟩) (by simp; omega) _).setCell (p := ⟨w.heap.size, 0, none⟩) (by simp) _).drew.drew

set_option maxRecDepth 100000 in
set_option maxHeartbeats 4000000 in
theorem Check_main (m : Nat) (hm : 4 ≤ m) (root : Int) (n i : Nat) (hn1 : 1 ≤ n) (hn : n ≤ 16) (hi : i < n) (A3 : Option Addr) (c3 : Nat) (page : List Int) (A4 : Option Addr) (c4 : Nat) (proof : List Int) (w : World)
    (hr3 : Kd.C (Kd.int .u8) w A3 page.length page) (hc3 : page.length ≤ c3) (hp : page.length ≤ 256) (hr4 : Kd.C (Kd.int .u64) w A4 proof.length proof) (hc4 : proof.length ≤ c4) :
    CallsIn FW m Try.prog 35 #[.int .u64 root, .int .i64 (n : Int), .int .i64 (i : Int), .slice A3 page.length c3, .slice A4 proof.length c4] w fun e w' => e = .returned (.bool (Dig.checkF root n i page proof)) ∧ Below w.heap.size w w' := by
  have h1 : 1 ≤ m := by omega
  have HR3 := Lib.hid hr3
  have HR4 := Lib.hid hr4
  clear hr3 hr4
  have hg1 : ¬ (n : Int) < 1 := by omega
  have hg2 : ¬ (16 : Int) < n := by omega
  have hg3 : ¬ (i : Int) < 0 := by omega
  have hg4 : ¬ (n : Int) ≤ i := by omega
  have hg5 : ¬ (256 : Int) < page.length := by omega
  refine callsIn_of_wp_marks Try.func35 rfl trivial ?_ rfl
  simp only [Try.ntmps35, List.size_toArray, List.length_cons, List.length_nil, Nat.reduceAdd, Nat.reduceSub, Array.replicate_succ, Array.replicate_zero, List.push_toArray, List.append_toArray, List.nil_append, List.cons_append]
  gi_wp2_with fail
  -- the leaf
  have b0 : Boxed ((w.alloc (.cells #[.slice A4 proof.length c4] 33)).alloc (.cells #[.bool false] 4) |>.alloc (.cells #[.slice A3 page.length c3] 22)) w.heap.size 33 (.slice A4 proof.length c4) := ((Boxed.new w 33 (.slice A4 proof.length c4)).alloc _).alloc _
  have b1 : Boxed ((w.alloc (.cells #[.slice A4 proof.length c4] 33)).alloc (.cells #[.bool false] 4) |>.alloc (.cells #[.slice A3 page.length c3] 22)) (w.heap.size + 1) 4 (.bool false) := by
    have := (Boxed.new (w.alloc (.cells #[.slice A4 proof.length c4] 33)) 4 (.bool false)).alloc (.cells #[.slice A3 page.length c3] 22)
    rwa [World.size_alloc] at this
  have b2 : Boxed ((w.alloc (.cells #[.slice A4 proof.length c4] 33)).alloc (.cells #[.bool false] 4) |>.alloc (.cells #[.slice A3 page.length c3] 22)) (w.heap.size + 1 + 1) 22 (.slice A3 page.length c3) := by
    have := Boxed.new ((w.alloc (.cells #[.slice A4 proof.length c4] 33)).alloc (.cells #[.bool false] 4)) 22 (.slice A3 page.length c3)
    rwa [World.size_alloc, World.size_alloc] at this
  have hB : Below w.heap.size w ((w.alloc (.cells #[.slice A4 proof.length c4] 33)).alloc (.cells #[.bool false] 4) |>.alloc (.cells #[.slice A3 page.length c3] 22)) := (((Below.refl _ w).alloc (Nat.le_refl _) _).alloc (by simp) _).alloc (by simp; omega) _
  have hsz : ((w.alloc (.cells #[.slice A4 proof.length c4] 33)).alloc (.cells #[.bool false] 4) |>.alloc (.cells #[.slice A3 page.length c3] 22)).heap.size = w.heap.size + 3 := by simp
  revert b0 b1 b2 hB hsz
  generalize ((w.alloc (.cells #[.slice A4 proof.length c4] 33)).alloc (.cells #[.bool false] 4) |>.alloc (.cells #[.slice A3 page.length c3] 22)) = w3
  intro b0 b1 b2 hB hsz
  refine ⟨trivial, (callsIn_wide.2 (leaf_calls (w.heap.size + 1 + 1) A3 c3 page w3 b2.cell (Kd.C_below HR3.out hB) hc3)).mono ?_⟩
  rintro e w4 ⟨rfl, hb4⟩
  replace b0 : Boxed w4 w.heap.size 33 (.slice A4 proof.length c4) := (hb4.block _ (by omega)).trans b0
  replace b1 : Boxed w4 (w.heap.size + 1) 4 (.bool false) := (hb4.block _ (by omega)).trans b1
  replace hB : Below w.heap.size w w4 := hB.trans (hb4.mono (by omega))
  have hs4 : w.heap.size + 3 ≤ w4.heap.size := by have := hb4.size; omega
  clear hb4 b2 hsz
  gi_wp2_with fail
  refine ⟨trivial, (places_in (m - 1) _ _ _).mono ?_⟩
  rintro e w' ⟨rfl, rfl⟩
  gi_wp2_with fail
  have bx : Boxed ((w4.alloc (.cells #[.int .u64 (Dig.leafF page)] 23)).alloc (.cells #[.int .i64 (n : Int)] 3) |>.alloc (.cells #[.int .i64 (i : Int)] 3)) w4.heap.size 23 (.int .u64 (Dig.leafF page)) := ((Boxed.new w4 23 _).alloc _).alloc _
  have bn : Boxed ((w4.alloc (.cells #[.int .u64 (Dig.leafF page)] 23)).alloc (.cells #[.int .i64 (n : Int)] 3) |>.alloc (.cells #[.int .i64 (i : Int)] 3)) (w4.heap.size + 1) 3 (.int .i64 (n : Int)) := by
    have := (Boxed.new (w4.alloc (.cells #[.int .u64 (Dig.leafF page)] 23)) 3 (.int .i64 (n : Int))).alloc (.cells #[.int .i64 (i : Int)] 3)
    rwa [World.size_alloc] at this
  have bi : Boxed ((w4.alloc (.cells #[.int .u64 (Dig.leafF page)] 23)).alloc (.cells #[.int .i64 (n : Int)] 3) |>.alloc (.cells #[.int .i64 (i : Int)] 3)) (w4.heap.size + 1 + 1) 3 (.int .i64 (i : Int)) := by
    have := Boxed.new ((w4.alloc (.cells #[.int .u64 (Dig.leafF page)] 23)).alloc (.cells #[.int .i64 (n : Int)] 3)) 3 (.int .i64 (i : Int))
    rwa [World.size_alloc, World.size_alloc] at this
  replace b0 := ((b0.alloc (.cells #[.int .u64 (Dig.leafF page)] 23)).alloc (.cells #[.int .i64 (n : Int)] 3)).alloc (.cells #[.int .i64 (i : Int)] 3)
  replace b1 := ((b1.alloc (.cells #[.int .u64 (Dig.leafF page)] 23)).alloc (.cells #[.int .i64 (n : Int)] 3)).alloc (.cells #[.int .i64 (i : Int)] 3)
  replace hB := ((hB.alloc hB.size (.cells #[.int .u64 (Dig.leafF page)] 23)).alloc (by simp; have := hB.size; omega) (.cells #[.int .i64 (n : Int)] 3)).alloc (by simp; have := hB.size; omega) (.cells #[.int .i64 (i : Int)] 3)
  have hsz : ((w4.alloc (.cells #[.int .u64 (Dig.leafF page)] 23)).alloc (.cells #[.int .i64 (n : Int)] 3) |>.alloc (.cells #[.int .i64 (i : Int)] 3)).heap.size = w4.heap.size + 3 := by simp
  revert b0 b1 bx bn bi hB hsz
  generalize ((w4.alloc (.cells #[.int .u64 (Dig.leafF page)] 23)).alloc (.cells #[.int .i64 (n : Int)] 3) |>.alloc (.cells #[.int .i64 (i : Int)] 3)) = w7
  intro bx bn bi b0 b1 hB hsz
  have hmx : Try.prog.follows .mixedOrders = true := by kernel_rfl
  refine' wpIn_range (α := Bool × Bool) (gf := 54) (lb := #[.pointer (some ⟨w4.heap.size + 1, 0, none⟩), .pointer (some ⟨w4.heap.size + 1 + 1, 0, none⟩)]) rfl (enters_of Try.func54 (by kernel_rfl) rfl)
    (encs := fun x => #[.bool x.1, .bool x.2]) (Mv := Turn (Own2 (w4.heap.size + 1) (w4.heap.size + 1 + 1))) (Nx := fun _ _ _ _ => True)
    (Kp := fun _ A B => B.heap[w4.heap.size + 1]? = A.heap[w4.heap.size + 1]? ∧ B.heap[w4.heap.size + 1 + 1]? = A.heap[w4.heap.size + 1 + 1]?) (S := fun ys => ys = Dig.walkF 16 n i) (Sp := fun pre => pre <+: Dig.walkF 16 n i)
    ?seq (fun A B h k o hk _ ho _ => (h.block k (Array.getElem?_eq_some_iff.1 ho).1 (fun hx => by rcases hx with hx | hx <;> omega)).trans ho)
    (fun x A B C hp hk => ⟨hk.1.trans (hp.below.block _ (by omega)), hk.2.trans (hp.below.block _ (by omega))⟩) (fun x A B C hk hp => ⟨(hp.below.block _ (by omega)).trans hk.1, (hp.below.block _ (by omega)).trans hk.2⟩) (fun _ => rfl)
    (fun pre W => CkI w w4.heap.size (pre.foldl Dig.checkStep (some (Dig.leafF page, proof))) W) (fun c pre W => CkX w c (pre.foldl Dig.checkStep (some (Dig.leafF page, proof))) W)
    ?hI ?hIx (fun o o' => ?h0) _ ?assign ?body ?done ?stop
  case seq =>
    intro W hW _ l J Jx hY h0
    exact walk1_in (m - 1) (by omega) l (w4.heap.size + 1) (w4.heap.size + 1 + 1) (by omega) n i hn (by omega) J Jx (fun pre x A B hj ht => hY pre x A B hj ht trivial) W ((hW.block _ (by omega)).trans bn) ((hW.block _ (by omega)).trans bi) h0
  case hI =>
    rintro pre A B ⟨x, pr, A', c', e, h1, h2, h3, h4, h5, h6⟩ hp
    exact ⟨x, pr, A', c', e, hp.heap h1 rfl, hp.heap h2 rfl, h3, h4, hp.heap h5 rfl, h6.trans (hp.below.mono (by omega))⟩
  case hIx =>
    rintro c pre A B ⟨e1, e2, h5, h6⟩ hp
    exact ⟨e1, e2, hp.heap h5 rfl, h6.trans (hp.below.mono (by omega))⟩
  case h0 =>
    exact ⟨_, proof, A4, c4, rfl, (bx.alloc _).alloc _, (b0.alloc _).alloc _, HR4.out, hc4, (b1.alloc _).alloc _, (hB.alloc (by omega) _).alloc (by simp; omega) _⟩
  case assign =>
    intro l x W K hK
    gi_wp2
    exact hK
  case body =>
    rintro l pre ⟨p1, p2⟩ A1 B1 W ⟨x, pr, A', c', e, h1, h2, h3, h4, h5, h6⟩ hT _ hP
    have a1 := h1.lt
    have a2 := h2.lt
    have a5 := h5.lt
    have k1 : Boxed W w4.heap.size 23 (.int .u64 x) := hP.heap (hT.boxed h1 (fun h => by rcases h with h | h <;> omega)) rfl
    have k2 : Boxed W w.heap.size 33 (.slice A' pr.length c') := hP.heap (hT.boxed h2 (fun h => by rcases h with h | h <;> omega)) rfl
    have k5 : Boxed W (w.heap.size + 1) 4 (.bool false) := hP.heap (hT.boxed h5 (fun h => by rcases h with h | h <;> omega)) rfl
    have k6 : Below w.heap.size w W := (h6.trans (hT.below (by omega) (fun k hk h => by rcases h with h | h <;> omega))).trans (hP.below.mono (by omega))
    clear h1 h2 h5 h6 hT hP a1 a2 a5
    have hd : 1 ≤ m - 1 - 1 := by omega
    have hc1 := k1.cell
    have hc2 := k2.cell
    have hf1 := k1.frozen
    have hf2 := k2.frozen
    have hf5 := k5.frozen
    have hc5 := k5.cell
    have HE := Lib.hid e
    clear e
    cases p1 with
    | false =>
      gi_wp2
      exact ⟨KeepsFrom.refl _ _, ⟨rfl, rfl⟩, x, pr, A', c', by rw [foldl_snoc, HE.out, step_unpaired], k1, k2, h3, h4, k5, k6⟩
    | true =>
      cases pr with
      | nil =>
        gi_wp2
        exact ⟨(KeepsOthers.setCell _ _ _).from _, rfl, by rw [foldl_snoc, HE.out, step_short], k5.set _, k6.setCell (p := ⟨w.heap.size + 1, 0, none⟩) (by simp) _⟩
      | cons d r =>
        have H3 := Lib.hid h3
        have H4 := Lib.hid h4
        obtain ⟨ad, rfl, hcd⟩ := Kd.at_int h3 0 (by omega) (by simp)
        clear h3 h4
        have hcd2 : W.cell? ad = some (.int .u64 d) := by
          have h := (k6.cell (p := ad.add 0) (World.block_lt_of_cell? _ _ hcd)).trans hcd
          simpa [Addr.add, rd] using h
        clear hcd
        have hlen : (0 : Int) < ((d :: r).length : Int) := by simp
        obtain ⟨i0, hi0, hz0⟩ := Option.map_eq_some_iff.1 info23
        obtain ⟨A'', hsl, hrd, hcap⟩ := print_drop_of (P := Try.prog) (Value.int .u64) 0 33 23 .i64 Try.underlying33 hi0 hz0 (some ad) c' (d :: r) 1 (by omega) (by simp; omega) H4.out
        have hr2 : Kd.C (Kd.int .u64) w A'' r.length r := Kd.C_of_reads (d := (0 : Int)) (hrd w (Kd.reads_of_C (d := (0 : Int)) H3.out))
        have HR2 := Lib.hid hr2
        have HC2 : Hid (r.length ≤ c' - 1) := hcap
        have hsl2 : ∀ W : World, (Instr.slice 33 (.slice (some ad) (r.length + 1) c') (some (.int .i64 1)) none none).run Try.prog W = .ok (.slice A'' r.length (c' - 1)) W := hsl
        clear hsl hrd hcap hr2 hi0 hz0
        cases p2 with
        | false =>
          gi_wp2
          refine Reg.region_still_in (Reg.noDefer_of (by kernel_rfl)) (fun _ _ h => h) hmx (by kernel_rfl) ?_
          repeat still_step
          refine wpStill_nil ?_
          gi_wp2
          refine Reg.region_float_in [0, 1, 3, 4] [2, 5, 6] (by kernel_rfl) (fun _ _ h => h) (fun _ _ _ h => h) hmx (by kernel_rfl) (fun V => V.cell? ⟨w.heap.size, 0, none⟩ = some (.slice (some ad) (d :: r).length c')) hc2 ?_
          refine Reg.headS_step (.int .u64 x) rfl rfl (fun V hV => by go_simp) (fun K hK => ?_)
          go_simp; refine hK _ ?_; clear hK K
          refine Reg.headS_step (.int .u64 d) rfl rfl (fun V hV => by go_simp) (fun K hK => ?_)
          go_simp; refine hK _ ?_; clear hK K
          refine Reg.headS_step (.slice (some ad) (r.length + 1) c') rfl rfl (fun V hV => by go_simp) (fun K hK => ?_)
          go_simp; refine hK _ ?_; clear hK K
          refine Reg.headS_step (.slice A'' r.length (c' - 1)) rfl rfl (fun V hV => by go_simp) (fun K hK => ?_)
          go_simp; refine hK _ ?_; clear hK K
          refine Reg.headS_nil ?_
          refine Reg.tailS_step rfl (fun K hK => ?_)
          go_simp
          refine (callsIn_wide.1 (Pair_in 1 (Nat.le_refl _) x d _)).mono ?_
          rintro e w' ⟨rfl, rfl⟩
          dsimp only
          refine hK _ _ (.inr hc2) ?_
          clear hK K
          refine Reg.tailS_step rfl (fun K hK => ?_)
          go_simp
          refine hK _ _ (.inr ?_) ?_
          · exact (boxed_far k2 (by omega) (.int .u64 (Dig.pairF x d))).cell
          clear hK K
          refine Reg.tailS_step rfl (fun K hK => ?_)
          go_simp
          refine hK _ _ (.inl rfl) ?_
          clear hK K
          refine Reg.tailS_nil ?_
          exact ck_fin hs4 k1 k2 k5 k6 HR2 HC2 (by rw [foldl_snoc, HE.out, step_first])
        | true =>
          gi_wp2
          refine Reg.region_still_in (Reg.noDefer_of (by kernel_rfl)) (fun _ _ h => h) hmx (by kernel_rfl) ?_
          repeat still_step
          refine wpStill_nil ?_
          gi_wp2
          refine Reg.region_float_in [0, 1, 3, 4] [2, 5, 6] (by kernel_rfl) (fun _ _ h => h) (fun _ _ _ h => h) hmx (by kernel_rfl) (fun V => V.cell? ⟨w.heap.size, 0, none⟩ = some (.slice (some ad) (d :: r).length c')) hc2 ?_
          refine Reg.headS_step (.int .u64 d) rfl rfl (fun V hV => by go_simp) (fun K hK => ?_)
          go_simp; refine hK _ ?_; clear hK K
          refine Reg.headS_step (.int .u64 x) rfl rfl (fun V hV => by go_simp) (fun K hK => ?_)
          go_simp; refine hK _ ?_; clear hK K
          refine Reg.headS_step (.slice (some ad) (r.length + 1) c') rfl rfl (fun V hV => by go_simp) (fun K hK => ?_)
          go_simp; refine hK _ ?_; clear hK K
          refine Reg.headS_step (.slice A'' r.length (c' - 1)) rfl rfl (fun V hV => by go_simp) (fun K hK => ?_)
          go_simp; refine hK _ ?_; clear hK K
          refine Reg.headS_nil ?_
          refine Reg.tailS_step rfl (fun K hK => ?_)
          go_simp
          refine (callsIn_wide.1 (Pair_in 1 (Nat.le_refl _) d x _)).mono ?_
          rintro e w' ⟨rfl, rfl⟩
          dsimp only
          refine hK _ _ (.inr hc2) ?_
          clear hK K
          refine Reg.tailS_step rfl (fun K hK => ?_)
          go_simp
          refine hK _ _ (.inr ?_) ?_
          · exact (boxed_far k2 (by omega) (.int .u64 (Dig.pairF d x))).cell
          clear hK K
          refine Reg.tailS_step rfl (fun K hK => ?_)
          go_simp
          refine hK _ _ (.inl rfl) ?_
          clear hK K
          refine Reg.tailS_nil ?_
          exact ck_fin hs4 k1 k2 k5 k6 HR2 HC2 (by rw [foldl_snoc, HE.out, step_second])
  case done =>
    rintro D ys A1 B1 W hD rfl ⟨x, pr, A', c', e, h1, h2, h3, h4, h5, h6⟩ hT hP hK
    have a1 := h1.lt
    have a2 := h2.lt
    have a5 := h5.lt
    have k1 : Boxed W w4.heap.size 23 (.int .u64 x) := hP.heap (hT.boxed h1 (fun h => by rcases h with h | h <;> omega)) rfl
    have k2 : Boxed W w.heap.size 33 (.slice A' pr.length c') := hP.heap (hT.boxed h2 (fun h => by rcases h with h | h <;> omega)) rfl
    have k5 : Boxed W (w.heap.size + 1) 4 (.bool false) := hP.heap (hT.boxed h5 (fun h => by rcases h with h | h <;> omega)) rfl
    have k6 : Below w.heap.size w W := (h6.trans (hT.below (by omega) (fun k hk h => by rcases h with h | h <;> omega))).trans (hP.below.mono (by omega))
    clear h1 h2 h5 h6 hT hP a1 a2 a5
    have hc1 := k1.cell
    have hc2 := k2.cell
    have hf5 := k5.frozen
    have hc5 := k5.cell
    have HE := Lib.hid e
    clear e
    cases pr with
    | nil =>
      have hcF2 : Hid (Dig.checkF root n i page proof = decide (x = root)) := by
        show _ = _
        unfold Dig.checkF
        rw [if_neg (by omega), Int.toNat_natCast, Int.toNat_natCast, HE.out]
      clear HE h3 h4
      by_cases hx : x = root
      · subst hx
        gi_wp2
        refine ⟨by simp, .inl ⟨_, _, rfl, run_takeDeferred ((KeepsOthers.setCell W ⟨w.heap.size + 1, 0, none⟩ _).same D _ hK rfl), ?_⟩⟩
        have hc6 := cell_kept (World.cell?_setCell_same' W ⟨w.heap.size + 1, 0, none⟩ (.bool true) (by rw [hc5]; rfl)) (grownBy_putObj' _ D (.deferred none)) (fun r e => by cases e; exact ⟨_, (KeepsOthers.setCell W ⟨w.heap.size + 1, 0, none⟩ _).same D _ hK rfl, rfl⟩)
        refine ⟨.bool true, by simp [results, Try.f35, go_sem, hc6], by rw [hcF2.out]; simp, ?_⟩
        exact (k6.setCell (p := ⟨w.heap.size + 1, 0, none⟩) (by simp) _).trans (belowK_b (w := w7) (by omega) _ D _ _ hD ((KeepsOthers.setCell W ⟨w.heap.size + 1, 0, none⟩ _).same D _ hK rfl) rfl rfl)
      · have hx2 : (x == root) = false := beq_eq_false_iff_ne.2 hx
        gi_wp2
        refine ⟨by simp, .inl ⟨_, _, rfl, run_takeDeferred ((KeepsOthers.setCell W ⟨w.heap.size + 1, 0, none⟩ _).same D _ hK rfl), ?_⟩⟩
        have hc6 := cell_kept (World.cell?_setCell_same' W ⟨w.heap.size + 1, 0, none⟩ (.bool false) (by rw [hc5]; rfl)) (grownBy_putObj' _ D (.deferred none)) (fun r e => by cases e; exact ⟨_, (KeepsOthers.setCell W ⟨w.heap.size + 1, 0, none⟩ _).same D _ hK rfl, rfl⟩)
        refine ⟨.bool false, by simp [results, Try.f35, go_sem, hc6], by rw [hcF2.out]; simp [hx], ?_⟩
        exact (k6.setCell (p := ⟨w.heap.size + 1, 0, none⟩) (by simp) _).trans (belowK_b (w := w7) (by omega) _ D _ _ hD ((KeepsOthers.setCell W ⟨w.heap.size + 1, 0, none⟩ _).same D _ hK rfl) rfl rfl)
    | cons d r =>
      have hcF2 : Hid (Dig.checkF root n i page proof = false) := by
        show _ = _
        unfold Dig.checkF
        rw [if_neg (by omega), Int.toNat_natCast, Int.toNat_natCast, HE.out]
      clear HE h3 h4
      have hl : (((d :: r).length : Int) == 0) = false := beq_eq_false_iff_ne.2 (by simp only [List.length_cons]; omega)
      gi_wp2
      refine ⟨by simp, .inl ⟨_, _, rfl, run_takeDeferred ((KeepsOthers.setCell W ⟨w.heap.size + 1, 0, none⟩ _).same D _ hK rfl), ?_⟩⟩
      have hc6 := cell_kept (World.cell?_setCell_same' W ⟨w.heap.size + 1, 0, none⟩ (.bool false) (by rw [hc5]; rfl)) (grownBy_putObj' _ D (.deferred none)) (fun r e => by cases e; exact ⟨_, (KeepsOthers.setCell W ⟨w.heap.size + 1, 0, none⟩ _).same D _ hK rfl, rfl⟩)
      refine ⟨.bool false, by simp [results, Try.f35, go_sem, hc6], by rw [hcF2.out], ?_⟩
      exact (k6.setCell (p := ⟨w.heap.size + 1, 0, none⟩) (by simp) _).trans (belowK_b (w := w7) (by omega) _ D _ _ hD ((KeepsOthers.setCell W ⟨w.heap.size + 1, 0, none⟩ _).same D _ hK rfl) rfl rfl)
  case stop =>
    rintro D c pre A1 B1 W hD ⟨rest, hpre⟩ ⟨rfl, e, h5, h6⟩ hT hP hK
    have a5 := h5.lt
    have k5 : Boxed W (w.heap.size + 1) 4 (.bool false) := hP.heap (hT.boxed h5 (fun h => by rcases h with h | h <;> omega)) rfl
    have k6 : Below w.heap.size w W := (h6.trans (hT.below (by omega) (fun k hk h => by rcases h with h | h <;> omega))).trans (hP.below.mono (by omega))
    clear h5 h6 hT hP a5
    have hc5 := k5.cell
    have hcF2 : Hid (Dig.checkF root n i page proof = false) := by
      show _ = _
      unfold Dig.checkF
      rw [if_neg (by omega), Int.toNat_natCast, Int.toNat_natCast, ← hpre, List.foldl_append, e, foldl_none]
    clear e hpre
    gi_wp2
    refine ⟨by simp, .inl ⟨_, _, rfl, run_takeDeferred hK, ?_⟩⟩
    have hc6 := cell_kept hc5 (grownBy_putObj' _ D (.deferred none)) (fun r e => by cases e; exact ⟨_, hK, rfl⟩)
    refine ⟨.bool false, by simp [results, Try.f35, go_sem, hc6], by rw [hcF2.out], ?_⟩
    exact k6.trans (belowK_b (w := w7) (by omega) _ D _ _ hD hK rfl rfl)

set_option maxRecDepth 100000 in
set_option maxHeartbeats 4000000 in
/-- **tree.Check**, in the form that its callers use. -/
theorem Check_calls (root n i : Int) (A3 : Option Addr) (c3 : Nat) (page : List Int) (A4 : Option Addr) (c4 : Nat) (proof : List Int) (r : Bool) (w : World)
    (hr3 : Kd.C (Kd.int .u8) w A3 page.length page) (hc3 : page.length ≤ c3) (hr4 : Kd.C (Kd.int .u64) w A4 proof.length proof) (hc4 : proof.length ≤ c4) (h : some (Dig.checkF root n i page proof) = some r) :
    Calls Try.prog 35 #[.int .u64 root, .int .i64 n, .int .i64 i, .slice A3 page.length c3, .slice A4 proof.length c4] w fun e w' => e = .returned (.bool r) ∧ Below w.heap.size w w' := by
  obtain rfl := Option.some.inj h
  clear h
  have hmax := Kd.C_max hr3
  by_cases g1 : n < 1
  · rw [show Dig.checkF root n i page proof = false by unfold Dig.checkF; rw [if_pos (by omega)]]
    clear hr3 hr4
    refine callsIn_wide.1 (callsIn_of_wp_marks (n := 4) Try.func35 rfl trivial ?_ rfl)
    simp only [Try.ntmps35, List.size_toArray, List.length_cons, List.length_nil, Nat.reduceAdd, Nat.reduceSub, Array.replicate_succ, Array.replicate_zero, List.push_toArray, List.append_toArray, List.nil_append, List.cons_append]
    gi_wp2_with fail
    refine ⟨.bool false, by simp [results, Try.f35, go_sem], rfl, ?_⟩
    exact ((Below.refl _ w).alloc (Nat.le_refl _) _).alloc (by simp) _
  by_cases g2 : 16 < n
  · rw [show Dig.checkF root n i page proof = false by unfold Dig.checkF; rw [if_pos (by omega)]]
    clear hr3 hr4
    refine callsIn_wide.1 (callsIn_of_wp_marks (n := 4) Try.func35 rfl trivial ?_ rfl)
    simp only [Try.ntmps35, List.size_toArray, List.length_cons, List.length_nil, Nat.reduceAdd, Nat.reduceSub, Array.replicate_succ, Array.replicate_zero, List.push_toArray, List.append_toArray, List.nil_append, List.cons_append]
    gi_wp2_with fail
    refine ⟨.bool false, by simp [results, Try.f35, go_sem], rfl, ?_⟩
    exact ((Below.refl _ w).alloc (Nat.le_refl _) _).alloc (by simp) _
  by_cases g3 : i < 0
  · rw [show Dig.checkF root n i page proof = false by unfold Dig.checkF; rw [if_pos (by omega)]]
    clear hr3 hr4
    refine callsIn_wide.1 (callsIn_of_wp_marks (n := 4) Try.func35 rfl trivial ?_ rfl)
    simp only [Try.ntmps35, List.size_toArray, List.length_cons, List.length_nil, Nat.reduceAdd, Nat.reduceSub, Array.replicate_succ, Array.replicate_zero, List.push_toArray, List.append_toArray, List.nil_append, List.cons_append]
    gi_wp2_with fail
    refine ⟨.bool false, by simp [results, Try.f35, go_sem], rfl, ?_⟩
    exact ((Below.refl _ w).alloc (Nat.le_refl _) _).alloc (by simp) _
  by_cases g4 : n ≤ i
  · rw [show Dig.checkF root n i page proof = false by unfold Dig.checkF; rw [if_pos (by omega)]]
    clear hr3 hr4
    refine callsIn_wide.1 (callsIn_of_wp_marks (n := 4) Try.func35 rfl trivial ?_ rfl)
    simp only [Try.ntmps35, List.size_toArray, List.length_cons, List.length_nil, Nat.reduceAdd, Nat.reduceSub, Array.replicate_succ, Array.replicate_zero, List.push_toArray, List.append_toArray, List.nil_append, List.cons_append]
    gi_wp2_with fail
    refine ⟨.bool false, by simp [results, Try.f35, go_sem], rfl, ?_⟩
    exact ((Below.refl _ w).alloc (Nat.le_refl _) _).alloc (by simp) _
  by_cases g5 : 256 < page.length
  · rw [show Dig.checkF root n i page proof = false by unfold Dig.checkF; rw [if_pos (by omega)]]
    have g5' : (256 : Int) < page.length := by omega
    clear hr3 hr4
    refine callsIn_wide.1 (callsIn_of_wp_marks (n := 4) Try.func35 rfl trivial ?_ rfl)
    simp only [Try.ntmps35, List.size_toArray, List.length_cons, List.length_nil, Nat.reduceAdd, Nat.reduceSub, Array.replicate_succ, Array.replicate_zero, List.push_toArray, List.append_toArray, List.nil_append, List.cons_append]
    gi_wp2_with fail
    refine ⟨.bool false, by simp [results, Try.f35, go_sem], rfl, ?_⟩
    exact ((Below.refl _ w).alloc (Nat.le_refl _) _).alloc (by simp) _
  obtain ⟨n, rfl⟩ := Int.eq_ofNat_of_zero_le (show 0 ≤ n by omega)
  obtain ⟨i, rfl⟩ := Int.eq_ofNat_of_zero_le (show 0 ≤ i by omega)
  exact callsIn_wide.1 (Check_main 4 (Nat.le_refl _) root n i (by omega) (by omega) (by omega) A3 c3 page A4 c4 proof w hr3 hc3 (by omega) hr4 hc4)

end Go.Proofs.Ytnjhegcdjhklfaa.Hand
