/- Plain models: the memory, the run, programs as trees. No program of the dump is named here. -/
import Derived.RowKit
namespace Go.Proofs.YtbepgbkbpkaodaaDoor
open Go.RowKit

structure MemS where
  cells : List Int
  loads : Int
  stores : Int

structure RunS where
  log : List Int
  pos : Nat
  inn : Bool
  may : Bool
  off : Bool
  over : Bool
  err : Int

structure St where
  r : RunS
  m : MemS

def MemS.inb (μ : MemS) (a : Int) : Bool := decide (0 ≤ a) && decide (a < μ.cells.length)
def MemS.at (μ : MemS) (a : Int) : Int := μ.cells.getD a.toNat 0
def MemS.load (μ : MemS) (a : Int) : MemS := if μ.inb a then { μ with loads := wrap64 (μ.loads + 1) } else μ
def MemS.store (μ : MemS) (a v : Int) : MemS :=
  if μ.inb a then { μ with cells := μ.cells.set a.toNat v, stores := wrap64 (μ.stores + 1) } else μ

/-- what `turn` answers: 0: nothing is to be made; 1: it was made ahead; 2: it is to be made now -/
def RunS.turnK (s : RunS) : Nat :=
  if !s.inn || s.off then 0 else if s.pos < s.log.length then 1 else if !s.may then 0 else 2
def RunS.turn (s : RunS) : RunS :=
  if !s.inn || s.off then s else if s.pos < s.log.length then { s with pos := s.pos + 1 }
  else if !s.may then { s with off := true } else { s with may := false }
def RunS.made (s : RunS) (v e : Int) : RunS :=
  if e = 0 then { s with log := s.log ++ [v], pos := s.pos + 1 } else { s with err := e, off := true }

def St.load (s : St) (a : Int) : Int × St :=
  if s.r.turnK = 2 then
    (if s.m.inb a then s.m.at a else 0, ⟨s.r.turn.made (if s.m.inb a then s.m.at a else 0) (if s.m.inb a then 0 else 2), s.m.load a⟩)
  else if s.r.turnK = 1 then (s.r.log.getD s.r.pos 0, ⟨s.r.turn, s.m⟩)
  else (0, ⟨s.r.turn, s.m⟩)
def St.store (s : St) (a v : Int) : St :=
  if s.r.turnK = 2 then ⟨s.r.turn.made 0 (if s.m.inb a then 0 else 2), s.m.store a v⟩
  else ⟨s.r.turn, s.m⟩
def St.isOff (s : St) : Bool := s.r.off || !s.r.inn

inductive Tree (α : Type) where
  | ret (x : α)
  | load (a : Int) (k : Int → Tree α)
  | store (a v : Int) (k : Tree α)
  | off (k : Bool → Tree α)

namespace Tree
def bind {α β : Type} : Tree α → (α → Tree β) → Tree β
  | ret x, f => f x
  | load a k, f => load a fun v => (k v).bind f
  | store a v k, f => store a v (k.bind f)
  | off k, f => off fun b => (k b).bind f

def exec {α : Type} : Tree α → St → α × St
  | ret x, s => (x, s)
  | load a k, s => (k (s.load a).1).exec (s.load a).2
  | store a v k, s => k.exec (s.store a v)
  | off k, s => (k s.isOff).exec s

theorem exec_bind {α β : Type} (t : Tree α) (f : α → Tree β) : ∀ s, (t.bind f).exec s = (f (t.exec s).1).exec (t.exec s).2 := by
  induction t with
  | ret x => intro s; rfl
  | load a k ih => intro s; exact ih _ _
  | store a v k ih => intro s; exact ih _
  | off k ih => intro s; exact ih _ _
end Tree

/-- one Step of a run that is not over yet -/
def RunS.begin (s : RunS) : RunS := { s with pos := 0, inn := true, may := true, off := false }
def RunS.finish (s : RunS) : RunS := { s with inn := false, over := !s.off || decide (s.err ≠ 0) }
def St.step {α : Type} (s : St) (t : Tree α) : α × St :=
  ((t.exec ⟨s.r.begin, s.m⟩).1, ⟨(t.exec ⟨s.r.begin, s.m⟩).2.r.finish, (t.exec ⟨s.r.begin, s.m⟩).2.m⟩)
end Go.Proofs.YtbepgbkbpkaodaaDoor
