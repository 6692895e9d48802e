/- Plain laws: a record is read back. -/
import Derived.Test.YtbmgmjfpoepgpaaDictP
namespace Go.Proofs.Ytbmgmjfpoepgpaa
open Go.RowKit

def unpackL (cs : List Int) (n : Nat) : List Int := (List.range n).map fun i => cs.getD (i / 4) 0 / pw (i % 4) % 256
def unpackB (cs : List Int) (n : Nat) : ByteArray := ⟨((unpackL cs n).map fun x => UInt8.ofNat x.toNat).toArray⟩

theorem pw_pos (r : Nat) : 0 < pw r := by unfold pw; split <;> (try split) <;> (try split) <;> decide
theorem unpackL_len (cs : List Int) (n : Nat) : (unpackL cs n).length = n := by simp [unpackL]
theorem unpackL_range (cs : List Int) (n : Nat) : ∀ x ∈ unpackL cs n, 0 ≤ x ∧ x ≤ 255 := by
  intro x hx
  simp only [unpackL, List.mem_map] at hx
  obtain ⟨i, _, rfl⟩ := hx
  omega
theorem bsL_unpack (cs : List Int) (n : Nat) : bsL (unpackB cs n) = unpackL cs n := by
  unfold bsL unpackB
  simp only [List.map_map]
  conv => rhs; rw [← List.map_id (unpackL cs n)]
  apply List.map_congr_left
  intro x hx
  have := unpackL_range cs n x hx
  simp only [Function.comp, id]
  rw [UInt8.toNat_ofNat']
  omega
theorem unpack_pack (l : List Int) (h : ∀ x ∈ l, Byte x) : unpackL (packC l) l.length = l := by
  apply List.ext_getElem?
  intro i
  by_cases hi : i < l.length
  · have hq : i / 4 < (l.length + 3) / 4 := by omega
    have hc : (packC l).getD (i / 4) 0 = pc l l.length (i / 4) := by
      unfold packC
      rw [List.getD_eq_getElem?_getD, pcs_get _ _ _ _ hq]; rfl
    have ht : l[i]? = some (l.getD i 0) := by rw [List.getD_eq_getElem?_getD, List.getElem?_eq_getElem hi]; rfl
    rw [ht]
    simp only [unpackL, List.getElem?_map, List.getElem?_range hi, Option.map_some, hc, Option.some.injEq]
    have ra : ∀ u, 0 ≤ (if u < l.length then l.getD u 0 else 0) ∧ (if u < l.length then l.getD u 0 else 0) ≤ 255 := by
      intro u
      have := getD_byte h u
      unfold Byte at this
      split <;> omega
    have e0 : (if i < l.length then l.getD i 0 else 0) = l.getD i 0 := if_pos hi
    generalize hqq : i / 4 = q at *
    generalize hr : i % 4 = r at *
    have hi4 : i = 4 * q + r := by omega
    have hr4 : r < 4 := by omega
    have a0 := ra (4 * q); have a1 := ra (4 * q + 1); have a2 := ra (4 * q + 2); have a3 := ra (4 * q + 3)
    rw [← e0, hi4]
    unfold pc pw
    rcases (by omega : r = 0 ∨ r = 1 ∨ r = 2 ∨ r = 3) with rfl | rfl | rfl | rfl
    · rw [Nat.add_zero]
      generalize (if 4 * q < l.length then l.getD (4 * q) 0 else 0) = x0 at *
      generalize (if 4 * q + 1 < l.length then l.getD (4 * q + 1) 0 else 0) = x1 at *
      generalize (if 4 * q + 2 < l.length then l.getD (4 * q + 2) 0 else 0) = x2 at *
      generalize (if 4 * q + 3 < l.length then l.getD (4 * q + 3) 0 else 0) = x3 at *
      simp; omega
    all_goals
      generalize (if 4 * q < l.length then l.getD (4 * q) 0 else 0) = x0 at *
      generalize (if 4 * q + 1 < l.length then l.getD (4 * q + 1) 0 else 0) = x1 at *
      generalize (if 4 * q + 2 < l.length then l.getD (4 * q + 2) 0 else 0) = x2 at *
      generalize (if 4 * q + 3 < l.length then l.getD (4 * q + 3) 0 else 0) = x3 at *
      simp; omega
  · rw [List.getElem?_eq_none (by rw [unpackL_len]; omega), List.getElem?_eq_none (by omega)]
theorem unpack_text (t : ByteArray) : unpackB (packC (bsL t)) t.size = t := by
  apply bsL_inj
  rw [bsL_unpack, ← bsL_len]
  exact unpack_pack _ (fun x hx => bsL_range t x hx)

def loadsD (a : Int) : Nat → Nat → Tree (List Int)
  | 0, _ => .ret []
  | f + 1, k => .load (a + 2 + k) fun x => (loadsD a f (k + 1)).bind fun l => .ret (x :: l)
def readD (a : Int) : Tree ByteArray := .load (a + 1) fun n => .off fun o => if o = true ∨ 17 < n then .ret ⟨#[]⟩ else (loadsD a ((n.toNat + 3) / 4) 0).bind fun cs => .ret (unpackB cs n.toNat)

section
variable {a n x : Int} {s s1 : St}
theorem readD_out (e : s.load (a + 1) = (n, s1)) (h : s1.isOff = true ∨ 17 < n) : (readD a).exec s = (⟨#[]⟩, s1) := by
  show (if (s.load (a + 1)).2.isOff = true ∨ 17 < (s.load (a + 1)).1 then Tree.ret ⟨#[]⟩ else _ : Tree ByteArray).exec (s.load (a + 1)).2 = _
  rw [e, if_pos h]; rfl
theorem readD_in (e : s.load (a + 1) = (n, s1)) (h : ¬ (s1.isOff = true ∨ 17 < n)) : (readD a).exec s = ((loadsD a ((n.toNat + 3) / 4) 0).bind fun cs => .ret (unpackB ([] ++ cs) n.toNat)).exec s1 := by
  show (if (s.load (a + 1)).2.isOff = true ∨ 17 < (s.load (a + 1)).1 then Tree.ret ⟨#[]⟩ else _ : Tree ByteArray).exec (s.load (a + 1)).2 = _
  rw [e, if_neg h]; rfl
theorem loadsD_step {acc : List Int} {f k m : Nat} (e : s.load (a + 2 + k) = (x, s1)) :
    ((loadsD a (f + 1) k).bind fun l => Tree.ret (unpackB (acc ++ l) m)).exec s = ((loadsD a f (k + 1)).bind fun l => Tree.ret (unpackB ((acc ++ [x]) ++ l) m)).exec s1 := by
  show (((loadsD a f (k + 1)).bind fun l => Tree.ret ((s.load (a + 2 + k)).1 :: l)).bind fun l => Tree.ret (unpackB (acc ++ l) m)).exec (s.load (a + 2 + k)).2 = _
  rw [e]
  simp only [Tree.exec_bind, List.append_assoc, List.singleton_append]
  rfl
end

theorem loadsD_ideal {cs : List Int} {a : Nat} : ∀ (L : List Int) (k : Nat), (∀ (j : Nat) c, L[j]? = some c → cs[a + 2 + k + j]? = some c) → (loadsD a L.length k).ideal cs = some (L, cs, L.length)
  | [], k, _ => rfl
  | c :: L, k, h => by
    have ih := loadsD_ideal L (k + 1) (fun j c hj => by
      have := h (j + 1) c (by simpa using hj)
      rw [← this, show a + 2 + (k + 1) + j = a + 2 + k + (j + 1) by omega])
    show (Tree.load ((a : Int) + 2 + k) fun x => (loadsD a L.length (k + 1)).bind fun l => .ret (x :: l)).ideal cs = _
    rw [load_ideal (i := a + 2 + k + 0) (by omega) (h 0 c rfl), Tree.ideal_bind, ih]
    simp [Tree.ideal]

/-- what is read of a record of a table -/
theorem readD_ideal {cs : List Int} {s n lo hi : Nat} {T : Tab} (R : Rep cs s n T lo hi) {i a : Nat} {t : ByteArray} (hi' : i < n) (e : T i = some (bsL t, a)) :
    ∃ cnt, cnt ≤ 30 ∧ (readD a).ideal cs = some (if t.size ≤ 17 then t else ⟨#[]⟩, cs, cnt) := by
  have h1 := R.size _ _ _ hi' e
  have h2 := fun j c hj => R.key _ _ _ hi' e j c hj
  rw [bsL_len] at h1
  unfold readD
  rw [load_ideal (i := a + 1) (by omega) h1]
  have hof : ∀ (g : Bool → Tree ByteArray), (Tree.off g).ideal cs = (g false).ideal cs := fun g => rfl
  rw [hof]
  by_cases hs : t.size ≤ 17
  · rw [if_neg (by simp; omega), if_pos hs]
    have hl : (packC (bsL t)).length = (t.size + 3) / 4 := by rw [packC_len, bsL_len]
    have hli := loadsD_ideal (cs := cs) (a := a) (packC (bsL t)) 0 (fun j c hj => h2 j c hj)
    rw [hl] at hli
    rw [Tree.ideal_bind, Int.toNat_natCast, hli]
    refine ⟨0 + (t.size + 3) / 4 + 1, by omega, ?_⟩
    simp [Tree.ideal, unpack_text]
  · rw [if_pos (by simp; omega), if_neg hs]
    exact ⟨1, by omega, rfl⟩
end Go.Proofs.Ytbmgmjfpoepgpaa
