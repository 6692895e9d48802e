/- Plain: the parts of programs that read a sealed segment, as trees. -/
import Derived.Test.YtbmgmjfpoepgpaaReadP
namespace Go.Proofs.Ytbmgmjfpoepgpaa
open Go.RowKit

/-- where a reader stands -/
structure RdM where
  base : Int
  at' : Nat
  cell : Int
  have' : Int

structure EntM where
  doc : Int
  pos : List Int

/-- the byte at the place: of the cell that was read -/
def byteOf (v : Int) (n : Nat) : Int := v / pw (n % 4) % 256
def nextT (x : RdM) : Tree (Int × RdM) :=
  if ((x.at' / 4 : Nat) : Int) = x.cell then .ret (byteOf x.have' x.at', ⟨x.base, x.at' + 1, x.cell, x.have'⟩)
  else .load (x.base + ((x.at' / 4 : Nat) : Int)) fun v => .ret (byteOf v x.at', ⟨x.base, x.at' + 1, ((x.at' / 4 : Nat) : Int), v⟩)
/-- one more byte of a number -/
def numAdd (n b : Int) (i : Nat) : Int := n + b % 128 * 2 ^ (7 * i) % 4294967296
def numL : Nat → Nat → Int → RdM → Tree (Int × RdM)
  | 0, _, n, x => .ret (n, x)
  | f + 1, i, n, x => (nextT x).bind fun y => if y.1 < 128 then .ret (numAdd n y.1 i, y.2) else numL f (i + 1) (numAdd n y.1 i) y.2
def numT (x : RdM) : Tree (Int × RdM) := numL 5 0 0 x

theorem byteOf_range {v : Int} (h : 0 ≤ v) (n : Nat) : 0 ≤ byteOf v n ∧ byteOf v n ≤ 255 := by unfold byteOf; omega

/-- byte by byte -/
def ltB (a b : ByteArray) : Bool := Op.bytesLess a.toList b.toList
def docsT (a : Int) : Tree Int := .load a fun d => .ret (d - 1)
def termL (a docs : Int) (key : ByteArray) : Nat → Int → Int → Tree Int
  | 0, _, _ => .ret 0
  | f + 1, lo, hi => if lo < hi then .load (a + 2 + 4 * docs + 2 * ((lo + hi) / 2)) fun rec => (readD rec).bind fun k => .off fun o => if o = true then .ret 0 else if k.toList = key.toList then .load (a + 2 + 4 * docs + 2 * ((lo + hi) / 2) + 1) fun v => .ret v
      else if ltB k key = true then termL a docs key f ((lo + hi) / 2 + 1) hi else termL a docs key f lo ((lo + hi) / 2)
    else .ret 0
def termT (a : Int) (key : ByteArray) : Tree Int := .load a fun d => .load (a + 1) fun hi => if d - 1 < 0 ∨ d - 1 > 64 ∨ hi > 256 then .ret 0 else termL a (d - 1) key 257 0 hi

def posL : Nat → Int → List Int → RdM → Tree (List Int × RdM)
  | 0, _, acc, x => .ret (acc, x)
  | k + 1, at0, acc, x => (numT x).bind fun y => posL k (at0 + y.1) (acc ++ [at0 + y.1]) y.2
def entL (most : Int) : Nat → Int → List EntM → RdM → Tree (List EntM × RdM × Bool)
  | 0, _, out, x => .ret (out, x, false)
  | f + 1, doc, out, x => (numT x).bind fun y => (numT y.2).bind fun z => (posL (min z.1 256).toNat 0 [] z.2).bind fun p => .off fun o =>
      if o = true ∨ doc + y.1 ≥ most then .ret (out, p.2, true) else entL most f (doc + y.1) (out ++ [⟨doc + y.1, p.1⟩]) p.2
def blkL (list most : Int) (n : Nat) : Nat → Nat → List EntM → RdM → Tree (List EntM)
  | 0, _, out, _ => .ret out
  | f + 1, b, out, x => .load (list + 1 + (b : Int)) fun l => (entL most (min 4 (n - 4 * b)) 0 out x).bind fun q => if q.2.2 = true then .ret q.1 else if l / 65536 ≥ wrap64 (most - 1) then .ret q.1 else blkL list most n f (b + 1) q.1 q.2.1
def listT (list most : Int) : Tree (List EntM) := .load list fun n => if n > 64 then .ret [] else blkL list most n.toNat ((n.toNat + 3) / 4) 0 [] ⟨list + 1 + (((n.toNat + 3) / 4 : Nat) : Int), 0, -1, 0⟩
end Go.Proofs.Ytbmgmjfpoepgpaa
