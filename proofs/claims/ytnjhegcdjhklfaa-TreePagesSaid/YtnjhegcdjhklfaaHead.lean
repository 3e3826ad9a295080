/- digest.Start, digest.Sum, and the examples at the head of the laws of the digest: they hold. -/
import Derived.Test.YtnjhegcdjhklfaaAdd
import Derived.Tactics
import Derived.KernelRfl
import Derived.Lib.SlBytesConst
namespace Go.Proofs.Ytnjhegcdjhklfaa.Hand
open Go Go.RowKit Go.Shelf Go.Proofs.YtnjhegcdjhklfaaW.PrintWords
open Rng

/-- A literal of bytes reads as its bytes. -/
theorem C_cells (k : IntKind) (w : World) (l : List Int) (e : TypeId) (fr : Nat × Nat) (hl : l.length ≤ 9223372036854775807) :
    Kd.C (Kd.int k) (w.alloc (.cells (l.map (Value.int k)).toArray e fr)) (some ⟨w.heap.size, 0, none⟩) l.length l := by
  refine Kd.C_of_reads (d := (0 : Int)) ⟨rfl, hl, fun _ => ⟨_, rfl, fun j hj => ?_⟩⟩
  have : (⟨w.heap.size, 0, none⟩ : Addr).add j = ⟨w.heap.size, j, none⟩ := by
    unfold Addr.add; split <;> simp_all
  rw [this, World.cell?_alloc_mark]
  simp [hj]

set_option maxRecDepth 100000 in
set_option maxHeartbeats 1000000 in
theorem Start_calls (w : World) : Calls Try.prog 37 #[] w fun e w' => e = .returned (.int .u64 14695981039346656037) ∧ w = w' := by
  go_enter Try.func37, Try.ntmps37
  go_wp2
  go_ret
  exact ⟨rfl, rfl⟩

set_option maxRecDepth 100000 in
set_option maxHeartbeats 1000000 in
theorem Sum_calls (A : Option Addr) (cap : Nat) (xs : List Int) (w : World) (hr : Kd.C (Kd.int .u8) w A xs.length xs) (hc : xs.length ≤ cap) :
    Calls Try.prog 20 #[.slice A xs.length cap] w fun e w' => e = .returned (.int .u64 (Dig.addF 14695981039346656037 xs)) ∧ Below w.heap.size w w' := by
  have H := Lib.hid hr
  clear hr
  go_enter Try.func20, Try.ntmps20
  go_wp2_with fail
  refine (Add_calls _ A cap xs _ w H.out hc rfl).mono ?_
  rintro e w' ⟨rfl, hb⟩
  have HB := Lib.hid hb
  clear hb
  go_wp2_with fail
  go_ret
  exact ⟨rfl, HB.out⟩

theorem h_97 : Dig.addF 14695981039346656037 [97] = 12638187200555641996 := by decide +kernel
theorem h_foobar : Dig.addF 14695981039346656037 [102, 111, 111, 98, 97, 114] = 9625390261332436968 := by decide +kernel
theorem h_pair : (Dig.pairF 1 2 != Dig.pairF 2 1) = true := by decide +kernel

set_option maxRecDepth 100000 in
set_option maxHeartbeats 2000000 in
theorem Head05_calls (r : Bool) (w : World) (h : some true = some r) :
    Calls Try.prog 17 #[] w fun e w' => e = .returned (.bool r) ∧ Below w.heap.size w w' := by
  obtain rfl := Option.some.inj h
  clear h
  have kc := fun (w : World) (C : Array Value) (n c : Nat) => Lib.run_convert_bytes_const (P := Try.prog) w 22 5 C n c Try.underlying22 Try.underlying5
  go_enter Try.func17, Try.ntmps17
  go_wp2_with fail
  refine (Start_calls _).mono ?_
  rintro e w' ⟨rfl, rfl⟩
  go_wp2_with fail
  refine (Sum_calls none 0 [] w (Kd.C_nil _ _) (Nat.le_refl _)).mono ?_
  rintro e w1 ⟨rfl, hb1⟩
  rw [Dig.addF_nil]
  have HB1 := Lib.hid hb1
  clear hb1
  go_wp2_with fail
  refine (Start_calls _).mono ?_
  rintro e w' ⟨rfl, rfl⟩
  go_wp2_with fail
  refine (Sum_calls (some ⟨w1.heap.size, 0, none⟩) 1 [97] _ (C_cells .u8 w1 [97] 5 (1, 2) (by simp)) (by simp)).mono ?_
  rintro e w2 ⟨rfl, hb2⟩
  rw [h_97]
  have HB2 := Lib.hid hb2
  clear hb2
  go_wp2_with fail
  refine (Sum_calls (some ⟨w2.heap.size, 0, none⟩) 6 [102, 111, 111, 98, 97, 114] _ (C_cells .u8 w2 [102, 111, 111, 98, 97, 114] 5 (6, 7) (by simp)) (by simp)).mono ?_
  rintro e w3 ⟨rfl, hb3⟩
  rw [h_foobar]
  have HB3 := Lib.hid hb3
  clear hb3
  go_wp2_with fail
  refine (callsIn_wide.1 (Pair_in 1 (Nat.le_refl _) 1 2 w3)).mono ?_
  rintro e w' ⟨rfl, rfl⟩
  go_wp2_with fail
  refine (callsIn_wide.1 (Pair_in 1 (Nat.le_refl _) 2 1 w3)).mono ?_
  rintro e w' ⟨rfl, rfl⟩
  have hp := h_pair
  go_wp2_with fail
  go_ret
  refine ⟨rfl, ?_⟩
  have b1 := HB1.out
  have b2 := ((b1.alloc b1.size _).trans (HB2.out.mono (by simp; have := b1.size; omega)))
  exact ((b2.alloc b2.size _).trans (HB3.out.mono (by simp; have := b2.size; omega)))

end Go.Proofs.Ytnjhegcdjhklfaa.Hand
