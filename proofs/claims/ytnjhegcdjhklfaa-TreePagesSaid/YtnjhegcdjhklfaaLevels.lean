/- tree's levels: what its iterator hands over. -/
import Derived.Test.YtnjhegcdjhklfaaChunk
import Derived.Test.YtnjhegcdjhklfaaRng2
import Derived.Maps.AppendAt
import Derived.Maps.OwnIn
import Derived.StillTactics
namespace Go.Proofs.Ytnjhegcdjhklfaa.Hand
open Go Go.RowKit Go.Shelf Go.Proofs.YtnjhegcdjhklfaaW.PrintWords
open Rng
attribute [local go_sem] Oper.semAt_some

/-- A row of digests that lies in a block of its own, from block b on. -/
abbrev Row (W : World) (b : Nat) (v : Value) (l : List Int) : Prop := W.ownsRow b 23 1 v l.length (nums .u64 l)

theorem info23' : (Try.prog.info? 23).map (fun i => (i.zero, i.size, i.bytes)) = some (some (.int .u64 0), 1, 8) := by kernel_rfl

/-- append(v, x), v a row of digests. -/
theorem app1 (w : World) (b : Nat) (v : Value) (l : List Int) (x : Int) (g : Nat) (ty : TypeId) (hg : w.cell? ⟨g, 0, none⟩ = some (.int .u64 x)) (hown : Row w b v l) (hl : l.length ≤ 1000) (hb : b ≤ w.heap.size) :
    ∃ v' w', (Builtin.append_ #[33, 33] ty #[v, .slice (some ⟨g, 0, none⟩) 1 1]).run Try.prog w = .ok v' w' ∧ Row w' b v' (l ++ [x]) ∧ w.grownBy w' v.ownBlock ∧ (v'.ownBlock = v.ownBlock ∨ v'.ownBlock = some w.heap.size) := by
  obtain ⟨i, hi, hz⟩ := Option.map_eq_some_iff.1 info23'
  simp only [Prod.mk.injEq] at hz
  obtain ⟨v', w', h1, h2, h3, _, h5⟩ := run_append_own_at (P := Try.prog) (w := w) b 33 ty 23 i (.int .u64 0) 1 8 Try.underlying33 hi hz.1 hz.2.1 hz.2.2 rfl (by omega) v l.length (nums .u64 l) hown
    ⟨g, 0, none⟩ 1 1 [.int .u64 x] rfl (by
      intro j u hj
      match j, hj with
      | 0, hj => simp at hj; subst hj; simpa [Addr.add] using hg) (by simp [Value.oneCell']) (by simp only [maxLen]; omega) (by omega) hb
  refine ⟨v', w', h1, ?_, h3, h5⟩
  show w'.ownsRow b 23 1 v' (l ++ [x]).length (nums .u64 (l ++ [x]))
  rw [nums_append, List.length_append]
  exact h2

theorem append1_in {F : Fence} {m : Nat} {ops : Array Oper} {rest : List Oper} {o : Oper} {a : Act} {Q : Exit → Act → World → Prop} {w : World} (hgd : o.guard = none) (s y : Operand)
    (ho : o.op = .call { callee := .builtin .append, args := #[s, y], argTypes := #[33, 33] }) (b : Nat) (v : Value) (l : List Int) (x : Int) (g : Nat)
    (hs : a.eval s = v) (hy : a.eval y = .slice (some ⟨g, 0, none⟩) 1 1) (hg : w.cell? ⟨g, 0, none⟩ = some (.int .u64 x)) (hown : Row w b v l) (hl : l.length ≤ 1000) (hb : b ≤ w.heap.size)
    (h : ∀ v' w', Row w' b v' (l ++ [x]) → w.grownBy w' v.ownBlock → (v'.ownBlock = v.ownBlock ∨ v'.ownBlock = some w.heap.size) → wpListIn F m Try.prog ops Q rest (a.put o.dst v') w') :
    wpListIn F m Try.prog ops Q (o :: rest) a w := by
  refine wpListIn_plain hgd fun K hK => ?_
  obtain ⟨v', w', hr, h2, h3, h4⟩ := app1 w b v l x g o.type hg hown hl hb
  unfold Oper.wpIn
  refine ⟨by simp [Oper.about, ho, resolve, Target.leads, Sem.run_pure], ?_⟩
  rw [Oper.semAt_plain F _ _ (by rw [ho]; intro c hc'; cases hc')]
  simp [execOp, ho, resolve, invoke, builtin, hs, hy, hr, Result.andThen]
  exact hK _ _ (h v' w' h2 h3 h4)

/-- What levels' iterator turns between two rounds: blocks without cells, made since it began. -/
abbrev MvL (n0 : Nat) (A B : World) : Prop := Turn (fun k => n0 ≤ k ∧ ∃ o, A.heap[k]? = some o ∧ o.isCells = false) A B

theorem MvL.trans {n0 : Nat} {A B C : World} (h : MvL n0 A B) (k : MvL n0 B C) : MvL n0 A C :=
  ⟨k.os.trans h.os, k.tape.trans h.tape, k.output.trans h.output, Nat.le_trans h.size k.size, fun i hi hx =>
    (k.block i (Nat.lt_of_lt_of_le hi h.size) (fun ⟨h1, o, ho, hc⟩ => hx ⟨h1, o, by rw [← h.block i hi hx]; exact ho, hc⟩)).trans (h.block i hi hx)⟩
theorem MvL.of_below {n0 : Nat} {A B : World} (h : Below A.heap.size A B) : MvL n0 A B := ⟨h.os, h.tape, h.output, h.size, fun k hk _ => h.block k hk⟩

/-- One mark among the deferred calls. -/
abbrev mark (D : Nat) : Deferred := { target := .collected D, args := #[] }
/-- Marks that stand. -/
def Marks (n0 : Nat) (Ds : List Nat) (W : World) : Prop := Ds.Nodup ∧ ∀ D ∈ Ds, n0 ≤ D ∧ W.heap[D]? = some (.deferred (some []))

theorem Marks.nil (n0 : Nat) (W : World) : Marks n0 [] W := ⟨List.nodup_nil, by simp⟩
theorem Marks.kept {n0 : Nat} {Ds : List Nat} {A B : World} (h : Marks n0 Ds A) (hk : ∀ k o, n0 ≤ k → A.heap[k]? = some o → o.isCells = false → B.heap[k]? = some o) : Marks n0 Ds B :=
  ⟨h.1, fun D hD => ⟨(h.2 D hD).1, hk D _ (h.2 D hD).1 (h.2 D hD).2 rfl⟩⟩
theorem Marks.cons {n0 : Nat} {Ds : List Nat} {A B : World} {D : Nat} (h : Marks n0 Ds A) (hb : Below A.heap.size A B) (hD : A.heap.size ≤ D) (hn : n0 ≤ D) (hk : B.heap[D]? = some (.deferred (some []))) : Marks n0 (D :: Ds) B := by
  have lt : ∀ E ∈ Ds, E < A.heap.size := fun E hE => (Array.getElem?_eq_some_iff.1 (h.2 E hE).2).1
  refine ⟨List.nodup_cons.2 ⟨fun hm => (by have := lt D hm; omega), h.1⟩, fun E hE => ?_⟩
  rcases List.mem_cons.1 hE with rfl | hE
  · exact ⟨hn, hk⟩
  · exact ⟨(h.2 E hE).1, (hb.block E (lt E hE)).trans (h.2 E hE).2⟩

theorem leaves_marks {n : Nat} {P : Program} {fn : Func} {tmps : Array Value} {R : Ending → World → Prop} {n0 : Nat} : ∀ (Ds : List Nat) (W : World), Marks n0 Ds W →
    (∀ W', MvL n0 W W' → LeavesIn FW n P fn tmps R [] .returning W') → LeavesInM FW n P fn tmps R (Ds.map mark) .returning W := by
  intro Ds
  induction Ds with
  | nil => intro W _ h; exact h W (Turn.refl _ _)
  | cons D Ds ih =>
    intro W hm h
    have hD := hm.2 D List.mem_cons_self
    have hnd := List.nodup_cons.1 hm.1
    refine ⟨by simp, .inl ⟨_, _, rfl, run_takeDeferred hD.2, ih _ ⟨hnd.2, fun E hE => ?_⟩ fun W' hW' => h W' ?_⟩⟩
    · have hE2 := hm.2 E (List.mem_cons_of_mem _ hE)
      exact ⟨hE2.1, (World.putObj_heap_other (fun e => hnd.1 (by subst e; exact hE))).trans hE2.2⟩
    · refine MvL.trans ?_ hW'
      exact ⟨rfl, rfl, rfl, by simp, fun k hk hx => World.putObj_heap_other (fun e => hx (by subst e; exact ⟨hD.1, _, hD.2, rfl⟩))⟩

/-- The length of a slice's value. -/
def lenOf : Value → Nat
  | .slice _ n _ => n
  | _ => 0

theorem append1_step {ops : Array Oper} {o : Oper} {a : Act} {K : Act → World → Prop} {Q : Exit → Act → World → Prop} {w : World} (hgd : o.guard = none) (s y : Operand)
    (ho : o.op = .call { callee := .builtin .append, args := #[s, y], argTypes := #[33, 33] }) (b : Nat) (v : Value) (l : List Int) (x : Int) (g : Nat)
    (hs : a.eval s = v) (hy : a.eval y = .slice (some ⟨g, 0, none⟩) 1 1) (hg : w.cell? ⟨g, 0, none⟩ = some (.int .u64 x)) (hown : Row w b v l) (hl : l.length ≤ 1000) (hb : b ≤ w.heap.size)
    (h : ∀ v' w', Row w' b v' (l ++ [x]) → w.grownBy w' v.ownBlock → (v'.ownBlock = v.ownBlock ∨ v'.ownBlock = some w.heap.size) → K (a.put o.dst v') w') :
    if Region.wanted o (yielded ops a.tmps) = true then o.wp Try.prog a w K Q else K (a.put o.dst undef) w := by
  rw [if_pos (by simp [Region.wanted, hgd])]
  obtain ⟨v', w', hr, h2, h3, h4⟩ := app1 w b v l x g o.type hg hown hl hb
  unfold Oper.wp execOp
  simp only [ho, resolve, invoke, builtin, Sem.run_bind, Sem.run_pure, Result.andThen_ok, List.map_toArray, List.map_cons, List.map_nil, hs, hy, hr]
  exact h v' w' h2 h3 h4

theorem nextF_append : ∀ (n : Nat) (l r : List Int), l.length = 2 * n → Dig.nextF (l ++ r) = Dig.nextF l ++ Dig.nextF r
  | 0, l, r, h => by
    obtain rfl : l = [] := List.length_eq_zero_iff.1 (by omega)
    rfl
  | n + 1, a :: b :: l, r, h => by
    have := nextF_append n l r (by simp at h; omega)
    simp only [List.cons_append, Dig.nextF, this]
  | n + 1, [], _, h => by simp at h
  | n + 1, [_], _, h => by simp at h; omega

theorem nextF_length : ∀ (l : List Int), (Dig.nextF l).length = (l.length + 1) / 2
  | [] => rfl
  | [_] => by simp [Dig.nextF]
  | a :: b :: l => by
    have := nextF_length l
    simp only [Dig.nextF, List.length_cons, this]
    omega

theorem next_two (l : List Int) (x : Nat) (h : 2 * x + 1 < l.length) : Dig.nextF (l.take (2 * (x + 1))) = Dig.nextF (l.take (2 * x)) ++ [Dig.pairF (rd l (2 * x : Nat)) (rd l (2 * x + 1 : Nat))] := by
  rw [show 2 * (x + 1) = 2 * x + 1 + 1 by omega, List.take_succ_eq_append_getElem h, List.take_succ_eq_append_getElem (show 2 * x < l.length by omega), List.append_assoc,
    nextF_append x _ _ (by simp; omega)]
  simp only [rd, Int.toNat_natCast, List.getD_eq_getElem?_getD, List.getElem?_eq_getElem h, List.getElem?_eq_getElem (show 2 * x < l.length by omega), Option.getD_some, List.cons_append, List.nil_append, Dig.nextF]

theorem next_one (l : List Int) (x : Nat) (h : 2 * x + 1 = l.length) : Dig.nextF (l.take (2 * (x + 1))) = Dig.nextF (l.take (2 * x)) ++ [rd l (2 * x : Nat)] := by
  rw [List.take_of_length_le (show l.length ≤ 2 * (x + 1) by omega)]
  have e : l = l.take (2 * x) ++ [l[2 * x]'(by omega)] := by
    rw [← List.take_succ_eq_append_getElem (show 2 * x < l.length by omega), List.take_of_length_le (by omega)]
  have e2 : rd l (2 * x : Nat) = l[2 * x]'(by omega) := by
    simp only [rd, Int.toNat_natCast, List.getD_eq_getElem?_getD, List.getElem?_eq_getElem (show 2 * x < l.length by omega), Option.getD_some]
  rw [e2]
  conv => lhs; rw [e]
  rw [nextF_append x _ _ (by simp; omega)]
  rfl

theorem next_all (l : List Int) (k : Nat) (h : k = (l.length + 1) / 2) : Dig.nextF (l.take (2 * k)) = Dig.nextF l := by
  rw [List.take_of_length_le (by omega)]

/-- What the rounds over a level keep: 'next' lies in block nb. -/
def LvI (w3 : World) (N nb : Nat) (lev : List Int) (x : Nat) (W : World) : Prop :=
  ∃ v', Boxed W nb 33 v' ∧ Row W N v' (Dig.nextF (lev.take (2 * x))) ∧ N ≤ W.heap.size ∧ Below w3.heap.size w3 W

theorem lv_fin {w3 : World} {N nb bs bn x : Nat} {lev : List Int} {W W8 w' : World} {v0 v' : Value} {l0 l1 : List Int} {p : Int} (_h3 : w3.heap.size ≤ N) (hnb : nb < N) (h3nb : w3.heap.size ≤ nb) (hbs : bs < N) (hbn : bn < N) (hns : bs ≠ nb) (hnn : bn ≠ nb)
    (hN : N ≤ W.heap.size) (b0 : Boxed W nb 33 v0) (r0 : Row W N v0 l0) (hB : Below w3.heap.size w3 W) (h8 : W8 = W.drew.alloc (.cells #[.int .u64 p] 23)) (hg : W8.grownBy w' v0.ownBlock) (r1 : Row w' N v' l1) (e : l1 = Dig.nextF (lev.take (2 * x))) :
    KeepsFrom N W (w'.setCell ⟨nb, 0, none⟩ v') ∧ ((w'.setCell ⟨nb, 0, none⟩ v').heap[bs]? = W.heap[bs]? ∧ (w'.setCell ⟨nb, 0, none⟩ v').heap[bn]? = W.heap[bn]?) ∧ LvI w3 N nb lev x (w'.setCell ⟨nb, 0, none⟩ v') := by
  subst h8 e
  have hne : ∀ k, k < N → some k ≠ v0.ownBlock := fun k hk he => by have := own_base r0 k he.symm; omega
  have low : ∀ k, k < W.heap.size → some k ≠ v0.ownBlock → w'.heap[k]? = W.heap[k]? := fun k hk hx =>
    (hg.block k (by simp; omega) hx).trans (Below.heap_alloc W.drew _ k hk)
  refine ⟨⟨by have := hg.size; simp at this ⊢; omega, fun k o hk ho hc => ?_⟩, ⟨?_, ?_⟩, v', ?_, ?_, (by have := hg.size; simp at this ⊢; omega), ?_⟩
  · have hlt : k < W.heap.size := (Array.getElem?_eq_some_iff.1 ho).1
    have hx : some k ≠ v0.ownBlock := fun he => by
      obtain ⟨cells, hcc⟩ := own_typed r0 k he.symm
      rw [ho] at hcc
      cases hcc
      cases hc
    exact (Below.heap_setCell _ _ _ _ (by show k ≠ nb; omega)).trans ((low k hlt hx).trans ho)
  · exact (Below.heap_setCell _ _ _ _ (by show bs ≠ nb; omega)).trans (low bs (by omega) (hne bs hbs))
  · exact (Below.heap_setCell _ _ _ _ (by show bn ≠ nb; omega)).trans (low bn (by omega) (hne bn hbn))
  · have hb' : Boxed w' nb 33 v0 := (low nb (by omega) (hne nb hnb)).trans b0
    exact hb'.set v'
  · exact own_setCell r1 (fun he => by have := own_base r1 nb he.symm; omega) _
  · refine Below.setCell ?_ (p := ⟨nb, 0, none⟩) (by show w3.heap.size ≤ nb; omega) _
    exact ((hB.drew).alloc (by simp; omega) _).grown hg (by simp; omega) (fun k hk => by have := own_base r0 k hk; omega)

/-- What is so of a level where it is handed over. -/
def NxL (pages : List (List Int)) (pre : List (Value × List Int)) (x : Value × List Int) (A B : World) : Prop :=
  Row B A.heap.size x.1 x.2 ∧ (0 < x.2.length ∧ x.2.length ≤ 16) ∧ ∃ rest, Dig.allLevels pages = pre.map Prod.snd ++ x.2 :: rest
/-- What a round keeps. -/
def KpL (n0 : Nat) (x : Value × List Int) (B W' : World) : Prop :=
  B.heap.size ≤ W'.heap.size ∧ (∀ k o, n0 ≤ k → B.heap[k]? = some o → o.isCells = false → W'.heap[k]? = some o) ∧ (∀ k o, x.1.ownBlock = some k → B.heap[k]? = some o → o.isCells = true → W'.heap[k]? = some o)

set_option maxRecDepth 100000 in
set_option maxHeartbeats 4000000 in
theorem levels1_in (m : Nat) (hm : 4 ≤ m) (l bp : Nat) (A0 : Option Addr) (cap : Nat) (pages : List (List Int)) (hp0 : 0 < pages.length) (h16 : pages.length ≤ 16) (J : List (Value × List Int) → World → Prop)
    (W : World) (hbp : Boxed W bp 32 (.slice A0 pages.length cap)) (hr : Kd.C (Kd.slice 5 (Kd.int .u8)) W A0 pages.length pages)
    (hY : ∀ pre x A B, J pre A → MvL W.heap.size A B → NxL pages pre x A B → YieldAt FW (m - 1) Try.prog l #[x.1] B fun e W' =>
      e = .returned (.bool true) ∧ J (pre ++ [x]) W' ∧ KpL W.heap.size x B W')
    (h0 : J [] W) :
    CallsIn FW m Try.prog 52 #[.func (.yield l) #[] #[], .pointer (some ⟨bp, 0, none⟩)] W fun e W' => (∃ v, e = .returned v) ∧ ∃ xs A, xs.map Prod.snd = Dig.allLevels pages ∧ J xs A ∧ MvL W.heap.size A W' := by
  have h1 : 1 ≤ m := by omega
  have HR := Lib.hid hr
  clear hr
  have hcp := hbp.cell
  refine callsIn_of_wp_marks Try.func52 rfl trivial ?_ rfl
  simp only [Try.ntmps52, List.size_toArray, List.length_cons, List.length_nil, Nat.reduceAdd, Nat.reduceSub, Array.replicate_succ, Array.replicate_zero, List.push_toArray, List.append_toArray, List.nil_append, List.cons_append]
  gi_wp2
  gi_loopw [3, 10] (fun v i wr => ∃ k : Nat, i = .int .i64 k ∧ k ≤ pages.length ∧ Row wr W.heap.size v ((pages.take k).map Dig.leafF) ∧ Below W.heap.size W wr)
    (fun _ i _ => pages.length - (intOf i).toNat)
  case atStart => exact ⟨0, rfl, by omega, own_nil _ _ _ _, Below.refl _ _⟩
  case round =>
    obtain ⟨k, rfl, hk, hrow, hB⟩ := hrel
    by_cases hlt : k < pages.length
    · obtain ⟨ad, A1, c1, rfl, hcell, hl1, hC⟩ := at_row HR.out k hlt
      have hcell2 : wr.cell? (ad.add k) = some (.slice A1 (rdL pages k).length c1) := (hB.cell (p := ad.add k) (World.block_lt_of_cell? _ _ hcell)).trans hcell
      have HC := Lib.hid (Kd.C_below hC hB)
      clear hC hcell
      have hlt' : (k : Int) < pages.length := by omega
      gi_wp2_with fail
      refine ⟨trivial, (callsIn_wide.2 (leaf_calls wr.heap.size A1 c1 (rdL pages k) _ (Boxed.new wr 22 _).cell (Kd.C_below HC.out ((Below.refl _ wr).alloc (Nat.le_refl _) _)) hl1)).mono ?_⟩
      rintro e w1 ⟨rfl, hb⟩
      have hb1 : Below wr.heap.size wr w1 := ((Below.refl _ wr).alloc (Nat.le_refl _) _).trans (hb.mono (by simp))
      clear hb
      have hrow1 : Row (w1.alloc (.cells #[.int .u64 (Dig.leafF (rdL pages k))] 23)) W.heap.size u3 ((pages.take k).map Dig.leafF) :=
        own_move hrow (fun j hj => (Below.heap_alloc _ _ _ (by have := own_lt hrow j hj; have := hb1.size; omega)).trans (hb1.block j (own_lt hrow j hj)))
      have hle1 : W.heap.size ≤ w1.heap.size := by have := hb1.size; have := hB.size; omega
      have hlt1 : wr.heap.size ≤ w1.heap.size := hb1.size
      have HRow1 := Lib.hid hrow1
      clear hrow1 hrow
      gi_wp2_with (gi_at_builtin; refine append1_in rfl _ _ rfl W.heap.size u3 _ (Dig.leafF (rdL pages k)) w1.heap.size rfl rfl (Boxed.new w1 23 _).cell HRow1.out (by simp; omega) (by simp; omega) ?_; intro v' w' hrow' hg hat)
      go_roundw
      case rel => 
        refine ⟨k + 1, by simp, by omega, ?_, ?_⟩
        · have e : (pages.take (k + 1)).map Dig.leafF = (pages.take k).map Dig.leafF ++ [Dig.leafF (rdL pages k)] := by
            rw [List.take_succ_eq_append_getElem hlt, List.map_append]
            simp [rdL, hlt]
          rw [e]
          exact hrow'
        · exact (((hB.trans (hb1.mono hB.size)).alloc hle1 _).grown hg (by simp; omega) (fun j hj => own_base HRow1.out j hj))
      case measure => simp [intOf]; omega
    · have hge : ¬ (k : Int) < pages.length := by omega
      have hkl : k = pages.length := by omega
      subst hkl
      rw [List.take_length] at hrow
      have HRow := Lib.hid hrow
      clear hrow hge
      gi_wp2
      refine wpIn_loop (fun a wr => ∃ s2 s4 s5 s6 s7 s8 s9 s10 s11 s12 s13 s14 s15 s16 s17 s18 s19 s20 s21 s22 s23 s24 s25 s26 s27 s28 s29 s30 s31 s32 s33 s34 s35 s36 s37 s38 s39 s40 s41 s42 s43 s44 s45 s46 s47 s48 s49 s50 s51 v : Value, ∃ Ds : List Nat, a = { tmps := #[Value.func (Fn.yield l) #[] #[], Value.pointer (some ⟨bp, 0, none⟩), s2, v, s4, s5, s6, s7, s8, s9, s10, s11, s12, s13, s14, s15, s16, s17, s18, s19, s20, s21, s22, s23, s24, s25, s26, s27, s28, s29, s30, s31, s32, s33, s34, s35, s36, s37, s38, s39, s40, s41, s42, s43, s44, s45, s46, s47, s48, s49, s50, s51], defers := Ds.map mark } ∧ Hid (∃ pre A lev k, J pre A ∧ MvL W.heap.size A wr ∧ Row wr A.heap.size v lev ∧ (0 < lev.length ∧ lev.length ≤ 16) ∧ lev.length ≤ k + 1 ∧
        Dig.allLevels pages = pre.map Prod.snd ++ Dig.levelsF k lev ∧ Marks W.heap.size Ds wr ∧ W.heap.size ≤ A.heap.size)) (fun a _ => lenOf (a.tmps.getD 3 undef)) ?_ ?_
      · refine ⟨_, _, _, _, _, _, _, _, _, _, _, _, _, _, _, _, _, _, _, _, _, _, _, _, _, _, _, _, _, _, _, _, _, _, _, _, _, _, _, _, _, _, _, _, _, _, _, _, _, _, [], rfl, ⟨[], W, (pages.map Dig.leafF), pages.length, h0, ?_, HRow.out, by simpa using ⟨hp0, h16⟩, by simp, rfl, Marks.nil _ _, Nat.le_refl _⟩⟩
        exact MvL.of_below hB
      · rintro a wr2 ⟨s2, s4, s5, s6, s7, s8, s9, s10, s11, s12, s13, s14, s15, s16, s17, s18, s19, s20, s21, s22, s23, s24, s25, s26, s27, s28, s29, s30, s31, s32, s33, s34, s35, s36, s37, s38, s39, s40, s41, s42, s43, s44, s45, s46, s47, s48, s49, s50, s51, v, Ds, rfl, HI⟩
        dsimp only
        obtain ⟨pre, A, lev, k, hJ, hT, hrow, hl16, hlk, hE, hM, hA⟩ := HI.out
        clear HI
        obtain ⟨Av, cv, rfl⟩ := own_slice hrow
        have HE := Lib.hid hE
        clear hE
        have HM := Lib.hid hM
        clear hM
        by_cases h1l : 1 < lev.length
        · obtain ⟨k, rfl⟩ : ∃ k', k = k' + 1 := ⟨k - 1, by omega⟩
          have HE2 : Hid (Dig.allLevels pages = (pre ++ [((Value.slice Av lev.length cv), lev)]).map Prod.snd ++ Dig.levelsF k (Dig.nextF lev)) := by
            show _ = _
            rw [HE.out, Dig.levelsF, if_pos h1l]
            simp
          obtain ⟨fn, tmps, assign, body, hy, hR⟩ := hY pre ((Value.slice Av lev.length cv), lev) A wr2 hJ hT ⟨hrow, hl16, _, by have h := HE.out; rw [Dig.levelsF, if_pos h1l] at h; exact h⟩
          clear HE
          dsimp only at hy
          gi_wp2
          refine hR.mono ?_
          rintro e W3 ⟨rfl, hJ3, hk1, hk2, hk3⟩
          have hrow3 := own_move hrow (fun j hj => by obtain ⟨cells, hc⟩ := own_typed hrow j hj; exact (hk3 j _ hj hc rfl).trans hc.symm)
          have HM3 := Lib.hid (HM.out.kept hk2)
          clear hk2 hk3 hrow HM
          have hA3 : A.heap.size ≤ W3.heap.size := Nat.le_trans hT.size hk1
          have h1l' : (1 : Int) < lev.length := by omega
          gi_wp2_with fail
          refine ⟨trivial, (chunk_in (m - 1) _ _ _ _).mono ?_⟩
          rintro e w' ⟨rfl, rfl⟩
          gi_wp2_with fail
          obtain ⟨g, cv', hAv, hg, hg'⟩ := hrow3.form (by omega)
          obtain ⟨rfl, rfl⟩ : Av = some ⟨g, 0, none⟩ ∧ cv = cv' := by
            injection hAv with h1 h2 h3
            exact ⟨h1, h3⟩
          clear hAv
          have hcap : lev.length ≤ cv := own_le hrow3
          have hcmax : lev.length ≤ 140737488355328 := by omega
          have bb : Boxed (((W3.alloc (.cells #[.slice none 0 0] 33)).alloc (.cells #[.slice (some ⟨g, 0, none⟩) lev.length cv] 33)).alloc (.cells #[.int .i64 2] 3)) W3.heap.size 33 (.slice none 0 0) := ((Boxed.new W3 33 _).alloc _).alloc _
          have bs : Boxed (((W3.alloc (.cells #[.slice none 0 0] 33)).alloc (.cells #[.slice (some ⟨g, 0, none⟩) lev.length cv] 33)).alloc (.cells #[.int .i64 2] 3)) (W3.heap.size + 1) 33 (.slice (some ⟨g, 0, none⟩) lev.length cv) := by
            have := (Boxed.new (W3.alloc (.cells #[.slice none 0 0] 33)) 33 (.slice (some ⟨g, 0, none⟩) lev.length cv)).alloc (.cells #[.int .i64 2] 3)
            rwa [World.size_alloc] at this
          have bn : Boxed (((W3.alloc (.cells #[.slice none 0 0] 33)).alloc (.cells #[.slice (some ⟨g, 0, none⟩) lev.length cv] 33)).alloc (.cells #[.int .i64 2] 3)) (W3.heap.size + 1 + 1) 3 (.int .i64 2) := by
            have := Boxed.new ((W3.alloc (.cells #[.slice none 0 0] 33)).alloc (.cells #[.slice (some ⟨g, 0, none⟩) lev.length cv] 33)) 3 (.int .i64 2)
            rwa [World.size_alloc, World.size_alloc] at this
          have hB7 : Below W3.heap.size W3 (((W3.alloc (.cells #[.slice none 0 0] 33)).alloc (.cells #[.slice (some ⟨g, 0, none⟩) lev.length cv] 33)).alloc (.cells #[.int .i64 2] 3)) := (((Below.refl _ W3).alloc (Nat.le_refl _) _).alloc (by simp) _).alloc (by simp; omega) _
          have hs7 : (((W3.alloc (.cells #[.slice none 0 0] 33)).alloc (.cells #[.slice (some ⟨g, 0, none⟩) lev.length cv] 33)).alloc (.cells #[.int .i64 2] 3)).heap.size = W3.heap.size + 3 := by simp
          revert bb bs bn hB7 hs7
          generalize (((W3.alloc (.cells #[.slice none 0 0] 33)).alloc (.cells #[.slice (some ⟨g, 0, none⟩) lev.length cv] 33)).alloc (.cells #[.int .i64 2] 3)) = w7
          intro bb bs bn hB7 hs7
          have hmx : Try.prog.follows .mixedOrders = true := by kernel_rfl
          have hd : 1 ≤ m - 1 - 1 := by omega
          refine' wpIn_range (α := Nat) (gf := 56) (lb := #[.pointer (some ⟨W3.heap.size + 1, 0, none⟩), .pointer (some ⟨W3.heap.size + 1 + 1, 0, none⟩)]) rfl (enters_of Try.func56 (by kernel_rfl) rfl)
            (encs := fun x => #[chunkV g lev.length x]) (Mv := Turn (fun _ => False)) (Nx := fun pre x _ _ => pre = List.range x ∧ 2 * x < lev.length)
            (Kp := fun _ A B => B.heap[W3.heap.size + 1]? = A.heap[W3.heap.size + 1]? ∧ B.heap[W3.heap.size + 1 + 1]? = A.heap[W3.heap.size + 1 + 1]?) (S := fun ys => ys = List.range ((lev.length + 1) / 2)) (Sp := fun _ => True)
            ?seq (fun A B h k o hk _ ho _ => (h.block k (Array.getElem?_eq_some_iff.1 ho).1 (fun hx => hx)).trans ho)
            (fun x A B C hp hk => ⟨hk.1.trans (hp.below.block _ (by omega)), hk.2.trans (hp.below.block _ (by omega))⟩) (fun x A B C hk hp => ⟨(hp.below.block _ (by omega)).trans hk.1, (hp.below.block _ (by omega)).trans hk.2⟩) (fun _ => rfl)
            (fun pre W => LvI W3 w7.heap.size W3.heap.size lev pre.length W) (fun _ _ _ => False)
            ?hI (fun _ _ _ _ h _ => h.elim) (fun o o' => ?h0) _ ?assign ?body ?done (fun _ _ _ _ _ _ _ _ h => h.elim)
          case seq =>
            intro W4 hW4 _ l4 J4 Jx4 hY4 h04
            exact chunk1_in (m - 1) (by omega) l4 (W3.heap.size + 1) (W3.heap.size + 1 + 1) g lev.length cv hcap hcmax J4 Jx4 (fun pre x A B hj ht e1 e2 => hY4 pre x A B hj ht ⟨e1, e2⟩) W4 ((hW4.block _ (by omega)).trans bs) ((hW4.block _ (by omega)).trans bn) h04
          case hI =>
            rintro pre A B ⟨v', h1, h2, h4, h3⟩ hp
            exact ⟨v', hp.heap h1 rfl, own_move h2 (fun k hk => by obtain ⟨cells, hc⟩ := own_typed h2 k hk; exact (hp.heap hc rfl).trans hc.symm), Nat.le_trans h4 hp.below.size, h3.trans (hp.below.mono (by omega))⟩
          case h0 =>
            exact ⟨_, (bb.alloc _).alloc _, own_nil _ _ _ _, (by simp; omega), (hB7.alloc hB7.size _).alloc (by simp; omega) _⟩
          case assign =>
            intro l x W K hK
            gi_wp2
            exact hK
          case body =>
            rintro l pre x A1 B1 W ⟨v0, i1, i2, i4, i3⟩ hT ⟨hpre, hx⟩ hP
            have a1 := i1.lt
            have hlp : pre.length = x := by rw [hpre]; simp
            rw [hlp] at i2
            have b0 : Boxed W W3.heap.size 33 v0 := hP.heap (hT.boxed i1 (fun h => h)) rfl
            have r0 : Row W w7.heap.size v0 (Dig.nextF (lev.take (2 * x))) :=
              own_move i2 (fun k hk => by
                obtain ⟨cells, hc⟩ := own_typed i2 k hk
                exact (hP.heap (((hT.block k (own_lt i2 k hk) (fun h => h))).trans hc) rfl).trans hc.symm)
            have hB1 : Below W3.heap.size W3 W := (i3.trans (hT.below (by omega) (fun k hk h => h))).trans (hP.below.mono (by omega))
            have hNW : w7.heap.size ≤ W.heap.size := Nat.le_trans i4 (Nat.le_trans hT.size hP.below.size)
            have hrowW : Row W A.heap.size (.slice (some ⟨g, 0, none⟩) lev.length cv) lev := own_move hrow3 (fun k hk => hB1.block k (own_lt hrow3 k hk))
            clear i1 i2 i3 i4 hT hP
            have c1 := (own_at hrowW ((2 * x : Nat) : Int) (by omega) (by omega)).1
            rw [Int.toNat_natCast] at c1
            by_cases hodd : 2 * x + 1 < lev.length
            · have c2 := (own_at hrowW ((2 * x + 1 : Nat) : Int) (by omega) (by omega)).1
              rw [Int.toNat_natCast] at c2
              have hv : chunkV g lev.length x = .slice (some ⟨g, 2 * x, none⟩) 2 2 := by
                unfold chunkV
                rw [show min 2 (lev.length - 2 * x) = 2 by omega]
              rw [hv]
              gi_wp2
              have hlen : (pre ++ [x]).length = x + 1 := by rw [hpre]; simp
              have hS : ∀ V : World, V.heap[W3.heap.size]? = W.heap[W3.heap.size]? ∧ V.heap[g]? = W.heap[g]? → True := fun _ _ => trivial
              clear hS
              refine Reg.region_float_in [0, 1, 2, 3, 4, 5, 6] [7, 8, 9, 10] (by kernel_rfl) (fun _ _ h => h) (fun _ _ _ h => h) hmx (by kernel_rfl) (fun V => V.heap[W3.heap.size]? = W.heap[W3.heap.size]? ∧ V.heap[g]? = W.heap[g]?) ⟨rfl, rfl⟩ ?_
              refine Reg.headS_step (v0) rfl rfl (fun V hV => by have hV0 := (World.cell?_of_block (a := ⟨W3.heap.size, 0, none⟩) hV.1).trans b0.cell; go_simp) (fun K hK => ?_)
              go_simp; refine hK _ ?_; clear hK K
              refine Reg.headS_step (.slice (some ⟨g, 2 * x, none⟩) 2 2) rfl rfl (fun V hV => by go_simp) (fun K hK => ?_)
              go_simp; refine hK _ ?_; clear hK K
              refine Reg.headS_step (.pointer (some ⟨g, 2 * x, none⟩)) rfl rfl (fun V hV => by go_simp) (fun K hK => ?_)
              go_simp; refine hK _ ?_; clear hK K
              refine Reg.headS_step (.int .u64 (rd lev ((2 * x : Nat) : Int))) rfl rfl (fun V hV => by have hV1 := (World.cell?_of_block (a := ⟨g, 2 * x, none⟩) hV.2).trans c1; go_simp) (fun K hK => ?_)
              go_simp; refine hK _ ?_; clear hK K
              refine Reg.headS_step (.slice (some ⟨g, 2 * x, none⟩) 2 2) rfl rfl (fun V hV => by go_simp) (fun K hK => ?_)
              go_simp; refine hK _ ?_; clear hK K
              refine Reg.headS_step (.pointer (some ⟨g, 2 * x + 1, none⟩)) rfl rfl (fun V hV => by go_simp) (fun K hK => ?_)
              go_simp; refine hK _ ?_; clear hK K
              refine Reg.headS_step (.int .u64 (rd lev ((2 * x + 1 : Nat) : Int))) rfl rfl (fun V hV => by have hV2 := (World.cell?_of_block (a := ⟨g, 2 * x + 1, none⟩) hV.2).trans c2; go_simp) (fun K hK => ?_)
              go_simp; refine hK _ ?_; clear hK K
              refine Reg.headS_nil ?_
              refine Reg.tailS_step rfl (fun K hK => ?_)
              go_simp
              refine (callsIn_wide.1 (Pair_in 1 (Nat.le_refl _) (rd lev ((2 * x : Nat) : Int)) (rd lev ((2 * x + 1 : Nat) : Int)) _)).mono ?_
              rintro e w' ⟨rfl, rfl⟩
              dsimp only
              refine hK _ _ (.inr ⟨rfl, rfl⟩) ?_
              clear hK K
              refine Reg.tailS_step rfl (fun K hK => ?_)
              go_simp
              refine hK _ _ (.inr ⟨Below.heap_alloc W.drew _ _ (by show W3.heap.size < W.heap.size; omega), Below.heap_alloc W.drew _ _ (by show g < W.heap.size; omega)⟩) ?_
              clear hK K
              refine Reg.tailS_step rfl (fun K hK => ?_)
              refine append1_step rfl _ _ rfl w7.heap.size v0 _ (Dig.pairF (rd lev ((2 * x : Nat) : Int)) (rd lev ((2 * x + 1 : Nat) : Int))) W.heap.size rfl rfl (Boxed.new W.drew 23 _).cell (own_move r0 (fun k hk => Below.heap_alloc W _ k (own_lt r0 k hk))) (by rw [nextF_length, List.length_take]; omega) (by simp; omega) ?_
              intro v' w' hrow' hgr hat
              have k0 : w'.heap[W3.heap.size]? = W.heap[W3.heap.size]? := (hgr.block _ (by simp; omega) (fun he => by have := own_base r0 _ he.symm; omega)).trans (Below.heap_alloc W.drew _ _ (by show W3.heap.size < W.heap.size; omega))
              have k1 : w'.heap[g]? = W.heap[g]? := (hgr.block _ (by simp; omega) (fun he => by have := own_base r0 _ he.symm; omega)).trans (Below.heap_alloc W.drew _ _ (by show g < W.heap.size; omega))
              refine hK _ _ (.inr ⟨k0, k1⟩) ?_
              clear hK K
              obtain ⟨A9, q9, c9, rfl⟩ : ∃ A q c, v' = Value.slice A q c := by
                obtain ⟨A, c, h⟩ := own_slice hrow'
                exact ⟨A, _, c, h⟩
              have b0' : Boxed w' W3.heap.size 33 v0 := k0.trans b0
              have cb := b0'.cell
              have fb := b0'.frozen
              refine Reg.tailS_step rfl (fun K hK => ?_)
              go_simp
              refine hK _ _ (.inl rfl) ?_
              clear hK K
              refine Reg.tailS_nil ?_
              have hfin := lv_fin (w3 := W3) (N := w7.heap.size) (nb := W3.heap.size) (bs := W3.heap.size + 1) (bn := W3.heap.size + 1 + 1) (x := x + 1) (lev := lev) (by omega) (by omega) (Nat.le_refl _) (by omega) (by omega) (by omega) (by omega) hNW b0 r0 hB1 rfl hgr hrow' (next_two lev x hodd).symm
              refine ⟨hfin.1, hfin.2.1, ?_⟩
              show LvI W3 w7.heap.size W3.heap.size lev (pre ++ [x]).length _
              rw [hlen]
              exact hfin.2.2
            · have hodd2 : 2 * x + 1 = lev.length := by omega
              have hv : chunkV g lev.length x = .slice (some ⟨g, 2 * x, none⟩) 1 1 := by
                unfold chunkV
                rw [show min 2 (lev.length - 2 * x) = 1 by omega]
              rw [hv]
              gi_wp2
              have hlen : (pre ++ [x]).length = x + 1 := by rw [hpre]; simp
              have hS : ∀ V : World, V.heap[W3.heap.size]? = W.heap[W3.heap.size]? ∧ V.heap[g]? = W.heap[g]? → True := fun _ _ => trivial
              clear hS
              refine Reg.region_float_in [0, 1, 2, 3] [4, 5, 6] (by kernel_rfl) (fun _ _ h => h) (fun _ _ _ h => h) hmx (by kernel_rfl) (fun V => V.heap[W3.heap.size]? = W.heap[W3.heap.size]? ∧ V.heap[g]? = W.heap[g]?) ⟨rfl, rfl⟩ ?_
              refine Reg.headS_step (v0) rfl rfl (fun V hV => by have hV0 := (World.cell?_of_block (a := ⟨W3.heap.size, 0, none⟩) hV.1).trans b0.cell; go_simp) (fun K hK => ?_)
              go_simp; refine hK _ ?_; clear hK K
              refine Reg.headS_step (.slice (some ⟨g, 2 * x, none⟩) 1 1) rfl rfl (fun V hV => by go_simp) (fun K hK => ?_)
              go_simp; refine hK _ ?_; clear hK K
              refine Reg.headS_step (.pointer (some ⟨g, 2 * x, none⟩)) rfl rfl (fun V hV => by go_simp) (fun K hK => ?_)
              go_simp; refine hK _ ?_; clear hK K
              refine Reg.headS_step (.int .u64 (rd lev ((2 * x : Nat) : Int))) rfl rfl (fun V hV => by have hV1 := (World.cell?_of_block (a := ⟨g, 2 * x, none⟩) hV.2).trans c1; go_simp) (fun K hK => ?_)
              go_simp; refine hK _ ?_; clear hK K
              refine Reg.headS_nil ?_
              refine Reg.tailS_step rfl (fun K hK => ?_)
              go_simp
              refine hK _ _ (.inr ⟨Below.heap_alloc W.drew _ _ (by show W3.heap.size < W.heap.size; omega), Below.heap_alloc W.drew _ _ (by show g < W.heap.size; omega)⟩) ?_
              clear hK K
              refine Reg.tailS_step rfl (fun K hK => ?_)
              refine append1_step rfl _ _ rfl w7.heap.size v0 _ (rd lev ((2 * x : Nat) : Int)) W.heap.size rfl rfl (Boxed.new W.drew 23 _).cell (own_move r0 (fun k hk => Below.heap_alloc W _ k (own_lt r0 k hk))) (by rw [nextF_length, List.length_take]; omega) (by simp; omega) ?_
              intro v' w' hrow' hgr hat
              have k0 : w'.heap[W3.heap.size]? = W.heap[W3.heap.size]? := (hgr.block _ (by simp; omega) (fun he => by have := own_base r0 _ he.symm; omega)).trans (Below.heap_alloc W.drew _ _ (by show W3.heap.size < W.heap.size; omega))
              have k1 : w'.heap[g]? = W.heap[g]? := (hgr.block _ (by simp; omega) (fun he => by have := own_base r0 _ he.symm; omega)).trans (Below.heap_alloc W.drew _ _ (by show g < W.heap.size; omega))
              refine hK _ _ (.inr ⟨k0, k1⟩) ?_
              clear hK K
              obtain ⟨A9, q9, c9, rfl⟩ : ∃ A q c, v' = Value.slice A q c := by
                obtain ⟨A, c, h⟩ := own_slice hrow'
                exact ⟨A, _, c, h⟩
              have b0' : Boxed w' W3.heap.size 33 v0 := k0.trans b0
              have cb := b0'.cell
              have fb := b0'.frozen
              refine Reg.tailS_step rfl (fun K hK => ?_)
              go_simp
              refine hK _ _ (.inl rfl) ?_
              clear hK K
              refine Reg.tailS_nil ?_
              have hfin := lv_fin (w3 := W3) (N := w7.heap.size) (nb := W3.heap.size) (bs := W3.heap.size + 1) (bn := W3.heap.size + 1 + 1) (x := x + 1) (lev := lev) (by omega) (by omega) (Nat.le_refl _) (by omega) (by omega) (by omega) (by omega) hNW b0 r0 hB1 rfl hgr hrow' (next_one lev x hodd2).symm
              refine ⟨hfin.1, hfin.2.1, ?_⟩
              show LvI W3 w7.heap.size W3.heap.size lev (pre ++ [x]).length _
              rw [hlen]
              exact hfin.2.2
          case done =>
            rintro D ys A1 B1 W9 hD rfl ⟨v0, i1, i2, i4, i3⟩ hT hP hK
            have a1 := i1.lt
            have hnx : Dig.nextF (lev.take (2 * (List.range ((lev.length + 1) / 2)).length)) = Dig.nextF lev := next_all lev _ (by simp)
            rw [hnx] at i2
            have b0 : Boxed W9 W3.heap.size 33 v0 := hP.heap (hT.boxed i1 (fun h => h)) rfl
            have r0 : Row W9 w7.heap.size v0 (Dig.nextF lev) :=
              own_move i2 (fun k hk => by
                obtain ⟨cells, hc⟩ := own_typed i2 k hk
                exact (hP.heap (((hT.block k (own_lt i2 k hk) (fun h => h))).trans hc) rfl).trans hc.symm)
            have hB9 : Below W3.heap.size W3 W9 := (i3.trans (hT.below (by omega) (fun k hk h => h))).trans (hP.below.mono (by omega))
            have hM9 := Lib.hid (HM3.out.cons hB9 (by omega) (by omega) hK)
            have hl9 : (Dig.nextF lev).length = (lev.length + 1) / 2 := nextF_length lev
            clear i1 i2 i3 i4 hT hP hnx HM3 hK
            obtain ⟨A9, c9, rfl⟩ := own_slice r0
            have R0 := Lib.hid r0
            clear r0
            have cb := b0.cell
            gi_wp2
            refine ⟨⟨_, _, _, _, _, _, _, _, _, _, _, _, _, _, _, _, _, _, _, _, _, _, _, _, _, _, _, _, _, _, _, _, _, _, _, _, _, _, _, _, _, _, _, _, _, _, _, _, _, _, D :: Ds, rfl, ⟨_, W3, Dig.nextF lev, k, hJ3, MvL.of_below hB9, ?_, by omega, by omega, HE2.out, hM9.out, by omega⟩⟩, ?_⟩
            · have hr := own_weaken R0.out (show W3.heap.size ≤ w7.heap.size by omega)
              rw [hl9] at hr
              show W9.ownsRow W3.heap.size 23 1 _ (Dig.nextF lev).length _
              rw [hl9]
              exact hr
            simp [lenOf]
            omega
        · have hlv : Dig.levelsF k lev = [lev] := by
            cases k with
            | zero => rfl
            | succ k => rw [Dig.levelsF, if_neg h1l]
          have HE2 : Hid (Dig.allLevels pages = pre.map Prod.snd ++ [lev]) := by
            show _ = _
            rw [← hlv]
            exact HE.out
          clear HE hlv
          obtain ⟨fn, tmps, assign, body, hy, hR⟩ := hY pre ((Value.slice Av lev.length cv), lev) A wr2 hJ hT ⟨hrow, hl16, [], HE2.out⟩
          dsimp only at hy
          gi_wp2
          refine hR.mono ?_
          rintro e W3 ⟨rfl, hJ3, hk1, hk2, hk3⟩
          have HM3 := Lib.hid (HM.out.kept hk2)
          clear hk2 hk3 hrow HM
          have h1l' : ¬ (1 : Int) < lev.length := by omega
          gi_wp2
          refine leaves_marks Ds W3 HM3.out (fun W' hW' => ?_)
          exact ⟨_, results_none rfl _ _ _, ⟨_, rfl⟩, pre ++ [((Value.slice Av lev.length cv), lev)], W3, by rw [HE2.out]; simp, hJ3, hW'⟩

end Go.Proofs.Ytnjhegcdjhklfaa.Hand
