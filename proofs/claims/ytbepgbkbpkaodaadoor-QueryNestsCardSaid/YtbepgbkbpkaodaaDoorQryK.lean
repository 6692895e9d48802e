/- Layer 17 (query): leaf: what it answers; a cell of an own row is stored. -/
import Derived.Test.YtbepgbkbpkaodaaDoorQryJ
import Derived.BigRegion
namespace Go.Proofs.YtbepgbkbpkaodaaDoor
open Go.RowKit

theorem ownB_set {w : World} {B E n sz g cap k : Nat} {xs : List Value} (h : w.ownsRow B E sz (.slice (some ⟨g, 0, none⟩) n cap) n xs) (hn : 0 < n) (hk : k < xs.length) (u : Value) : (w.setCell ⟨g, k, none⟩ u).ownsRow B E sz (.slice (some ⟨g, 0, none⟩) n cap) n (xs.set k u) := by
  refine ⟨by rw [List.length_set]; exact h.1, ?_⟩
  rcases h.2 with ⟨h1, h2⟩ | ⟨g', c', cur, h1, h2, h3, h4, h5, h6, h7⟩
  · omega
  · injection h1 with e1 e2 e3
    injection e1 with e1
    injection e1 with e1
    subst e1 e3
    refine Or.inr ⟨g, cap, cur.setIfInBounds k u, rfl, h2, by simp [World.setCell, Array.getElem?_modify, h3], h4, h5, by simpa using h6, ?_⟩
    rw [Array.toList_setIfInBounds, List.take_set, h7]
theorem ownB_free {w : World} {B E n sz g cap : Nat} {xs : List Value} (h : w.ownsRow B E sz (.slice (some ⟨g, 0, none⟩) n cap) n xs) (hn : 0 < n) (k : Nat) : w.frozen? ⟨g, k, none⟩ = false := by
  rcases h.2 with ⟨h1, h2⟩ | ⟨g', c', cur, h1, h2, h3, h4⟩
  · omega
  · injection h1 with e1 e2 e3
    injection e1 with e1
    injection e1 with e1
    subst e1
    simp [World.frozen?, h3]

/-- a leaf's words: the field, the text, the place behind the first one's -/
def tokF (f : Int) (t : ByteArray × Int) : List Value := [.int .u8 f, .string t.1, .int .i64 t.2]
def relT (ts : List (ByteArray × Nat)) : List (ByteArray × Int) := ts.map fun t => (t.1, (t.2 : Int) - ((ts.head?.map (·.2)).getD 0 : Nat))
/-- how a quoted text ends -/
def quoteE (rs : List Int) (p : Nat) : Nat := p + ((rs.drop p).takeWhile (· != 34)).length
/-- a leaf's field, its text and the place behind it -/
def fieldP (rs : List Int) (p : Nat) : Option (Int × ByteArray × Nat) :=
  let t1 := textS ((rs.drop p).takeWhile isW)
  let b0 := (t1.data.toList[0]?.getD 0).toNat
  if t1.size = 1 ∧ 48 ≤ b0 ∧ b0 ≤ 51 ∧ runeAt rs (wordE rs p) = 58 then some ((b0 : Int) - 48, nextW rs (wordE rs p + 1), wordE rs (skipB rs (wordE rs p + 1))) else none
def leafT (rs : List Int) (f : Int) (t : ByteArray) (p : Nat) : Except Int ((Int × ByteArray) × Nat) :=
  if t.size ≠ 0 then .ok ((f, t), p)
  else if signB rs p 34 = true then (if quoteE rs (signP rs p 34) < rs.length then .ok ((f, textS ((rs.drop (signP rs p 34)).takeWhile (· != 34))), quoteE rs (signP rs p 34) + 1) else .error 8)
  else .error 8
def leafP (rs : List Int) (p : Nat) : Except Int ((Int × ByteArray) × Nat) :=
  match fieldP rs p with
  | some (f, t, q) => leafT rs f t q
  | none => leafT rs 0 (textS ((rs.drop p).takeWhile isW)) (wordE rs p)
end Go.Proofs.YtbepgbkbpkaodaaDoor
