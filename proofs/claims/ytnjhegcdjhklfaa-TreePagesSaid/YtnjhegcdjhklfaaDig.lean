/- The plain functions of the digest and of the tree: what the walks show that the program computes. -/
import Derived.WalkKit
namespace Go.Proofs.Ytnjhegcdjhklfaa.Dig
open Go

/-- One step: XOR, times P, modulo 2^64. -/
def step0 (x c : Int) : Int := IntKind.u64.wrap ((Go.bits .xor .u64 x c) * 1099511628211)
/-- A digest continued by bytes. -/
def addF (s : Int) (l : List Int) : Int := l.foldl (fun x c => step0 x (IntKind.u64.wrap c)) s
/-- The digest of two digests. -/
def pairF (a b : Int) : Int := step0 (step0 3750763034362895578 a) b
/-- The leaf of a page. -/
def leafF (p : List Int) : Int := addF (addF 14695981039346656037 [0]) p

/-- Are these pages? -/
def pagesB (l : List (List Int)) : Bool := decide (0 < l.length) && decide (l.length ≤ 16) && l.all fun p => decide (p.length ≤ 256)

/-- The level after a level. -/
def nextF : List Int → List Int
  | a :: b :: r => pairF a b :: nextF r
  | l => l

/-- The levels from a level on (k: as many rounds as will do). -/
def levelsF : Nat → List Int → List (List Int)
  | 0, l => [l]
  | k + 1, l => if 1 < l.length then l :: levelsF k (nextF l) else [l]

/-- All levels of pages. -/
def allLevels (pages : List (List Int)) : List (List Int) := levelsF pages.length (pages.map leafF)

/-- The root, with the error's number. -/
def rootF (pages : List (List Int)) : Int × Int :=
  if pagesB pages = true then (((allLevels pages).getLast?.getD []).getD 0 0, 0) else (0, 1)

/-- One level of a proof. -/
def proofStep (s : List Int × Nat) (l : List Int) : List Int × Nat :=
  (if s.2 ^^^ 1 < l.length then s.1 ++ [l.getD (s.2 ^^^ 1) 0] else s.1, s.2 / 2)

/-- The proof of page i, with the error's number. -/
def proofF (pages : List (List Int)) (i : Int) : List Int × Int :=
  if pagesB pages = true ∧ 0 ≤ i ∧ i < pages.length then (((allLevels pages).foldl proofStep ([], i.toNat)).1, 0) else ([], 1)

/-- From the leaf of a page up to the root: is the element paired, is it the second one of its pair? -/
def walkF : Nat → Nat → Nat → List (Bool × Bool)
  | 0, _, _ => []
  | k + 1, n, i => if 1 < n then (decide (i ^^^ 1 < n), decide (i % 2 = 1)) :: walkF k ((n + 1) / 2) (i / 2) else []

/-- One place of the walk: none: the proof is too short. -/
def checkStep (s : Option (Int × List Int)) (p : Bool × Bool) : Option (Int × List Int) :=
  s.bind fun t => if p.1 = true then (match t.2 with
    | [] => none
    | d :: r => some (if p.2 = true then pairF d t.1 else pairF t.1 d, r)) else some t

/-- Is a page proved? -/
def checkF (root n i : Int) (page proof : List Int) : Bool :=
  if n < 1 ∨ 16 < n ∨ i < 0 ∨ n ≤ i ∨ 256 < page.length then false else
    match (walkF 16 n.toNat i.toNat).foldl checkStep (some (leafF page, proof)) with
    | some (x, []) => decide (x = root)
    | _ => false

theorem addF_nil (s : Int) : addF s [] = s := rfl
theorem addF_snoc (s : Int) (l : List Int) (c : Int) : addF s (l ++ [c]) = step0 (addF s l) (IntKind.u64.wrap c) := by simp [addF]
theorem addF_append (s : Int) (l m : List Int) : addF s (l ++ m) = addF (addF s l) m := by simp [addF]

end Go.Proofs.Ytnjhegcdjhklfaa.Dig
