/- Layer 3's statements: the instructions as a program: Addr, program. -/
import Derived.Test.YtjnaibmnpajfdaaRun
import Derived.Handy
namespace Go.Proofs.Ytjnaibmnpajfdaa
open Go.RowKit

structure InsM where
  op : Int
  a : Int
  v : Int
def I64 (x : Int) : Prop := -9223372036854775808 ≤ x ∧ x ≤ 9223372036854775807
def InsM.cells (x : InsM) : List Value := [.int .i64 x.op, .int .i64 x.a, .int .u32 x.v]
def InsM.wf (x : InsM) : Prop := I64 x.op ∧ I64 x.a ∧ U32 x.v
def addrM (x : InsM) (last : Int) : Int := if x.op = 2 then last % (x.v + 1) else x.a

def progT : List InsM → Nat → Int → Tree Unit
  | [], _, _ => .ret ()
  | x :: xs, i, last => .off fun o =>
    if o = true ∨ 100 < i ∨ (x.op = 4 ∧ last % 2 = 1) then .ret ()
    else if x.op = 0 ∨ x.op = 2 then .load (addrM x last) fun v => progT xs (i + 1) v
    else if x.op = 1 then .store x.a x.v (progT xs (i + 1) last)
    else if x.op = 3 then .store x.a ((last + x.v) % 4294967296) (progT xs (i + 1) last)
    else progT xs (i + 1) last

theorem progT_stop {x : InsM} {xs : List InsM} {i : Nat} {last : Int} {s : St} (h : s.isOff = true ∨ 100 < i ∨ (x.op = 4 ∧ last % 2 = 1)) :
    (progT (x :: xs) i last).exec s = ((), s) := by
  show (if s.isOff = true ∨ 100 < i ∨ (x.op = 4 ∧ last % 2 = 1) then Tree.ret () else _).exec s = _
  rw [if_pos h]; rfl
theorem progT_go {x : InsM} {xs : List InsM} {i : Nat} {last : Int} {s : St} (h : ¬ (s.isOff = true ∨ 100 < i ∨ (x.op = 4 ∧ last % 2 = 1))) :
    (progT (x :: xs) i last).exec s = (if x.op = 0 ∨ x.op = 2 then Tree.load (addrM x last) fun v => progT xs (i + 1) v
      else if x.op = 1 then .store x.a x.v (progT xs (i + 1) last)
      else if x.op = 3 then .store x.a ((last + x.v) % 4294967296) (progT xs (i + 1) last)
      else progT xs (i + 1) last).exec s := by
  show (if s.isOff = true ∨ 100 < i ∨ (x.op = 4 ∧ last % 2 = 1) then Tree.ret () else _).exec s = _
  rw [if_neg h]
theorem progT_load {x : InsM} {xs : List InsM} {i : Nat} {last : Int} {s : St} (h : ¬ (s.isOff = true ∨ 100 < i ∨ (x.op = 4 ∧ last % 2 = 1))) (h1 : x.op = 0 ∨ x.op = 2) :
    (progT (x :: xs) i last).exec s = (progT xs (i + 1) (s.load (addrM x last)).1).exec (s.load (addrM x last)).2 := by
  rw [progT_go h, if_pos h1]; rfl
theorem progT_store {x : InsM} {xs : List InsM} {i : Nat} {last : Int} {s : St} (h : ¬ (s.isOff = true ∨ 100 < i ∨ (x.op = 4 ∧ last % 2 = 1))) (h1 : x.op = 1) :
    (progT (x :: xs) i last).exec s = (progT xs (i + 1) last).exec (s.store x.a x.v) := by
  rw [progT_go h, if_neg (by omega), if_pos h1]; rfl
theorem progT_store3 {x : InsM} {xs : List InsM} {i : Nat} {last : Int} {s : St} (h : ¬ (s.isOff = true ∨ 100 < i ∨ (x.op = 4 ∧ last % 2 = 1))) (h1 : x.op = 3) :
    (progT (x :: xs) i last).exec s = (progT xs (i + 1) last).exec (s.store x.a ((last + x.v) % 4294967296)) := by
  rw [progT_go h, if_neg (by omega), if_neg (by omega), if_pos h1]; rfl
theorem progT_skip {x : InsM} {xs : List InsM} {i : Nat} {last : Int} {s : St} (h : ¬ (s.isOff = true ∨ 100 < i ∨ (x.op = 4 ∧ last % 2 = 1))) (h0 : x.op ≠ 0) (h2 : x.op ≠ 2) (h1 : x.op ≠ 1) (h3 : x.op ≠ 3) :
    (progT (x :: xs) i last).exec s = (progT xs (i + 1) last).exec s := by
  rw [progT_go h, if_neg (by omega), if_neg h1, if_neg h3]

set_option maxHeartbeats 400000 in
theorem addr_any (op a v last : Int) (w : World) (hv : U32 v) (hl : U32 last) :
    Calls Try.prog 28 #[.agg #[.int .i64 op, .int .i64 a, .int .u32 v], .int .u32 last] w fun e w' =>
      e = .returned (.int .i64 (addrM ⟨op, a, v⟩ last)) ∧ Keeps (· < w.heap.size) w w' := by
  obtain ⟨v0, v1⟩ := hv
  obtain ⟨l0, l1⟩ := hl
  refine calls_hide fun R' hR' => ?_
  by_cases h : op = 2
  · subst h
    have hm0 : 0 ≤ last % (v + 1) := Int.emod_nonneg _ (by omega)
    have hm1 : last % (v + 1) ≤ last := by
      have := Int.emod_lt_of_pos last (show 0 < v + 1 by omega)
      rcases Int.lt_or_le last (v + 1) with h | h
      · rw [Int.emod_eq_of_lt l0 h]; omega
      · omega
    go_enter Try.func28, Try.ntmps28
    go_wp2
    exact hR'.out _ _ ⟨by simp [addrM], (Keeps.refl _ w).alloc (fun b hb => hb) _⟩
  · have hb : (op == 2) = false := by simpa using h
    have H := hid h
    clear h
    go_enter Try.func28, Try.ntmps28
    go_wp2
    exact hR'.out _ _ ⟨by simp [addrM, H.out], (Keeps.refl _ w).alloc (fun b hb => hb) _⟩
end Go.Proofs.Ytjnaibmnpajfdaa
