/- PostBack, walked. Printed by gen/back.py. -/
import Derived.Test.YtbmgmjfpoepgpaaDoorBackP
import Derived.Test.YtbmgmjfpoepgpaaDoorRegHead
import Derived.Test.YtbmgmjfpoepgpaaDoorNeedsP
import Derived.Test.YtbmgmjfpoepgpaaDoorPutD
import Derived.Test.YtbmgmjfpoepgpaaDoorOp09
import Derived.Deep.RegionHeld3
import Derived.Deep.DrawnRows
import Derived.Deep.CutBlock
namespace Go.Proofs.YtbmgmjfpoepgpaaDoor
open Go.RowKit

structure PB (wx : World) (m c aB lB uB B : Nat) (P : Pools) (μ : MemS) (q : Nat → Nat) (T : Tails) (u : V6) (A L : Nat → List Int) (gA gL : Nat → Value) : Prop where
  mem : MemAt wx m c μ
  inv : BackInv P μ.cells q T A L
  used : UsedIs u q
  len : P.b 3 + 256 * P.n 3 ≤ μ.cells.length
  blkA : Blk wx aB (g8 gA)
  blkL : Blk wx lB (g8 gL)
  blkU : Blk wx uB [.int .i64 u.a0, .int .i64 u.a1, .int .i64 u.a2, .int .i64 u.a3, .int .i64 u.a4, .int .i64 u.a5]
  famA : Fam wx 41 .u32 B gA A
  famL : Fam wx 3 .i64 B gL L
  apart : FApart gA gL
theorem PB.keep {w w' : World} {m c aB lB uB B : Nat} {P : Pools} {μ : MemS} {q : Nat → Nat} {T : Tails} {u : V6} {A L : Nat → List Int} {gA gL : Nat → Value} (h : PB w m c aB lB uB B P μ q T u A L gA gL) {K : Nat → Prop} (k : Keeps K w w') (h1 : K m) (h2 : K c) (h3 : K aB) (h4 : K lB) (h5 : K uB) (h6 : ∀ b, B ≤ b → b < w.heap.size → K b) :
    PB w' m c aB lB uB B P μ q T u A L gA gL :=
  ⟨h.mem.keep k h1 h2, h.inv, h.used, h.len, h.blkA.keep k h3, h.blkL.keep k h4, h.blkU.keep k h5, h.famA.keep k h6, h.famL.keep k h6, h.apart⟩
/-- a word was put: all but the rows and what is used -/
theorem PB.put {w w' : World} {m c aB lB uB B : Nat} {P : Pools} {μ μ' : MemS} {q : Nat → Nat} {T : Tails} {u : V6} {A L : Nat → List Int} {gA gL : Nat → Value} (h : PB w m c aB lB uB B P μ q T u A L gA gL) (hm : MemAt w' m c μ') (hc : μ'.cells = μ.cells) (k : Keeps (fun b => b < w.heap.size ∧ b ≠ m ∧ b ≠ c) w w')
    (h3 : aB ≠ m ∧ aB ≠ c) (h4 : lB ≠ m ∧ lB ≠ c) (h5 : uB ≠ m ∧ uB ≠ c) (h6 : m < B ∧ c < B) : PB w' m c aB lB uB B P μ' q T u A L gA gL :=
  ⟨hm, by rw [hc]; exact h.inv, h.used, by rw [hc]; exact h.len, h.blkA.keep k ⟨h.blkA.lt, h3⟩, h.blkL.keep k ⟨h.blkL.lt, h4⟩, h.blkU.keep k ⟨h.blkU.lt, h5⟩, h.famA.keep k (fun b h1 h2 => ⟨h2, by omega, by omega⟩), h.famL.keep k (fun b h1 h2 => ⟨h2, by omega, by omega⟩), h.apart⟩

theorem anyH_gen {P : Program} {md : Region.Mode} {ops : Array Oper} {Q : Exit → Act → World → Prop} {S : World → Prop} {f : Nat} {L : Array Bool} {a : Act} {w : World} (F : World → Prop) (hF : F w) (h : ∀ w', F w' → wpAnyH P md ops Q S f L a w') : wpAnyH P md ops Q S f L a w := h w hF
theorem Tryd.infoBk : (Tryd.prog.info? 3).map (fun i => (i.zero, i.size, i.bytes)) = some (some (.int .i64 0), 1, 8) := by kernel_rfl
theorem info_partsBk {P : Program} {t : TypeId} {z : Value} {a b : Nat} (h : (P.info? t).map (fun i => (i.zero, i.size, i.bytes)) = some (some z, a, b)) : ∃ i, P.info? t = some i ∧ i.zero = some z ∧ i.size = a ∧ i.bytes = b := by
  obtain ⟨i, h1, h2⟩ := Option.map_eq_some_iff.1 h
  simp only [Prod.mk.injEq] at h2
  exact ⟨i, h1, h2.1, h2.2.1, h2.2.2⟩

/-- within the statement that appends -/
structure RB (W : World) (m c aB lB uB B b13 b18 : Nat) (μ' : MemS) (u u' : V6) (x : OpM) (W6 : World) (g0 l0 gA : Nat → Value) (A : Nat → List Int) (gL : Nat → Value) (L : Nat → List Int) : Prop where
  mem : MemAt W m c μ'
  blkA : Blk W aB (g8 g0)
  blkL : Blk W lB (g8 l0)
  blkU : Blk W uB [.int .i64 u.a0, .int .i64 u.a1, .int .i64 u.a2, .int .i64 u.a3, .int .i64 u.a4, .int .i64 u.a5]
  h13 : Blk W b13 [.int .u8 x.t, .int .u32 x.w]
  h18 : Blk W b18 [.int .i64 u'.a0, .int .i64 u'.a1, .int .i64 u'.a2, .int .i64 u'.a3, .int .i64 u'.a4, .int .i64 u'.a5]
  famA : Fam W 41 .u32 B gA A
  famL : Fam W 3 .i64 B gL L
  apart : FApart gA gL
  rowA : ∀ k b, k < 8 → (g0 k).ownBlock = some b → b < b13
  rowL : ∀ k b, k < 8 → (l0 k).ownBlock = some b → b < b13
  lts : m < B ∧ c < B ∧ aB < B ∧ lB < B ∧ uB < B ∧ B ≤ b13 ∧ b13 < b18
  keeps : Keeps (fun b => b < B ∧ b ≠ m ∧ b ≠ c ∧ b ≠ aB ∧ b ≠ lB ∧ b ≠ uB) W6 W
section
variable {W W' : World} {m c aB lB uB B b13 b18 : Nat} {μ' : MemS} {u u' : V6} {x : OpM} {W6 : World} {g0 l0 gA gL : Nat → Value} {A L : Nat → List Int}
theorem RB.keep (h : RB W m c aB lB uB B b13 b18 μ' u u' x W6 g0 l0 gA A gL L) (k : Keeps (· < W.heap.size) W W') : RB W' m c aB lB uB B b13 b18 μ' u u' x W6 g0 l0 gA A gL L :=
  ⟨h.mem.keep k h.mem.obj.lt h.mem.cells.lt, h.blkA.keep k h.blkA.lt, h.blkL.keep k h.blkL.lt, h.blkU.keep k h.blkU.lt, h.h13.keep k h.h13.lt, h.h18.keep k h.h18.lt, h.famA.keep k (fun b _ h => h), h.famL.keep k (fun b _ h => h), h.apart, h.rowA, h.rowL, h.lts, h.keeps.trans (k.mono fun b hb => by have := h.h18.lt; have := h.lts; have := hb.1; omega)⟩
theorem RB.drew' (h : RB W m c aB lB uB B b13 b18 μ' u u' x W6 g0 l0 gA A gL L) : RB W.drew m c aB lB uB B b13 b18 μ' u u' x W6 g0 l0 gA A gL L := h.keep ((Keeps.refl _ _).drew)
theorem RB.alloc' (h : RB W m c aB lB uB B b13 b18 μ' u u' x W6 g0 l0 gA A gL L) (o : Obj) : RB (W.alloc o) m c aB lB uB B b13 b18 μ' u u' x W6 g0 l0 gA A gL L := h.keep ((Keeps.refl _ _).alloc (fun b hb => hb) o)
theorem RB.size (h : RB W m c aB lB uB B b13 b18 μ' u u' x W6 g0 l0 gA A gL L) : B ≤ W.heap.size := by have := h.lts; have := h.h18.lt; omega
theorem RB.rowAlt (h : RB W m c aB lB uB B b13 b18 μ' u u' x W6 g0 l0 g0 A gL L) (j : Nat) (hj : j < 8) {AA : Option Addr} {na ac : Nat} (hg : g0 j = .slice AA na ac) : ∀ b, (Value.slice AA na ac).ownBlock = some b → b < b18 := fun b hb => by
  have := h.rowA j b hj (by rw [hg]; exact hb); have := h.lts; omega
theorem RB.rowLlt (h : RB W m c aB lB uB B b13 b18 μ' u u' x W6 g0 l0 gA A l0 L) (j : Nat) (hj : j < 8) {AA : Option Addr} {na ac : Nat} (hg : l0 j = .slice AA na ac) : ∀ b, (Value.slice AA na ac).ownBlock = some b → b < b18 := fun b hb => by
  have := h.rowL j b hj (by rw [hg]; exact hb); have := h.lts; omega
theorem RB.grownKeeps (h : RB W m c aB lB uB B b13 b18 μ' u u' x W6 g0 l0 gA A gL L) {row : Option Nat} (hg : W.grownBy W' row) (hr : ∀ b, row = some b → B ≤ b ∧ b < b13) : Keeps (fun b => b < W.heap.size ∧ (b < B ∨ b13 ≤ b)) W W' :=
  ⟨hg.os, hg.tape, hg.output, hg.size, fun b hb => hg.block b hb.1 (fun e => by have := hr b e.symm; omega)⟩
theorem RB.done {j : Nat} {vA vL : Value} (h : RB W m c aB lB uB B b13 b18 μ' u u' x W6 g0 l0 (updG g0 j vA) A (updG l0 j vL) L) {P : Pools} {q : Nat → Nat} {T : Tails} (hj : j < 8) (hI : BackInv P μ'.cells q T A L) (hu : UsedIs u' q) (hlen : P.b 3 + 256 * P.n 3 ≤ μ'.cells.length) (hne : m ≠ aB ∧ m ≠ lB ∧ m ≠ uB ∧ c ≠ aB ∧ c ≠ lB ∧ c ≠ uB ∧ aB ≠ lB ∧ aB ≠ uB ∧ lB ≠ uB) :
    PB ((((((((W.setCell ⟨aB, j, none⟩ vA).setCell ⟨lB, j, none⟩ vL).setCell ⟨uB, 0, none⟩ (.int .i64 u'.a0)).setCell ⟨uB, 1, none⟩ (.int .i64 u'.a1)).setCell ⟨uB, 2, none⟩ (.int .i64 u'.a2)).setCell ⟨uB, 3, none⟩ (.int .i64 u'.a3)).setCell ⟨uB, 4, none⟩ (.int .i64 u'.a4)).setCell ⟨uB, 5, none⟩ (.int .i64 u'.a5)) m c aB lB uB B P μ' q T u' A L (updG g0 j vA) (updG l0 j vL) ∧
      Keeps (fun b => b < B ∧ b ≠ m ∧ b ≠ c ∧ b ≠ aB ∧ b ≠ lB ∧ b ≠ uB) W6 ((((((((W.setCell ⟨aB, j, none⟩ vA).setCell ⟨lB, j, none⟩ vL).setCell ⟨uB, 0, none⟩ (.int .i64 u'.a0)).setCell ⟨uB, 1, none⟩ (.int .i64 u'.a1)).setCell ⟨uB, 2, none⟩ (.int .i64 u'.a2)).setCell ⟨uB, 3, none⟩ (.int .i64 u'.a3)).setCell ⟨uB, 4, none⟩ (.int .i64 u'.a4)).setCell ⟨uB, 5, none⟩ (.int .i64 u'.a5)) := by
  have hl := h.lts
  have k : Keeps (fun b => b ≠ aB ∧ b ≠ lB ∧ b ≠ uB) W ((((((((W.setCell ⟨aB, j, none⟩ vA).setCell ⟨lB, j, none⟩ vL).setCell ⟨uB, 0, none⟩ (.int .i64 u'.a0)).setCell ⟨uB, 1, none⟩ (.int .i64 u'.a1)).setCell ⟨uB, 2, none⟩ (.int .i64 u'.a2)).setCell ⟨uB, 3, none⟩ (.int .i64 u'.a3)).setCell ⟨uB, 4, none⟩ (.int .i64 u'.a4)).setCell ⟨uB, 5, none⟩ (.int .i64 u'.a5)) :=
    (((Keeps.refl _ _).setCell (fun h => h.1 rfl) _).setCell (fun h => h.2.1 rfl) _).set6 _ _ _ _ _ _ (fun h => h.2.2 rfl)
  refine ⟨⟨h.mem.keep k ⟨hne.1, hne.2.1, hne.2.2.1⟩ ⟨hne.2.2.2.1, hne.2.2.2.2.1, hne.2.2.2.2.2.1⟩, hI, hu, hlen, ?_, ?_, ?_, h.famA.keep k (fun b _ _ => by omega), h.famL.keep k (fun b _ _ => by omega), h.apart⟩, h.keeps.trans (k.mono fun b hb => ⟨hb.2.2.2.1, hb.2.2.2.2.1, hb.2.2.2.2.2⟩)⟩
  · rw [← g8_set g0 vA hj]
    exact ((h.blkA.set j vA).set_ne vL hne.2.2.2.2.2.2.1).set6_ne _ _ _ _ _ _ hne.2.2.2.2.2.2.2.1
  · rw [← g8_set l0 vL hj]
    exact ((h.blkL.set_ne vA hne.2.2.2.2.2.2.1.symm).set j vL).set6_ne _ _ _ _ _ _ hne.2.2.2.2.2.2.2.2
  · exact Blk.set6 ((h.blkU.set_ne vA hne.2.2.2.2.2.2.2.1.symm).set_ne vL hne.2.2.2.2.2.2.2.2.symm) _ _ _ _ _ _ rfl
theorem RB.appendA (h : RB W m c aB lB uB B b13 b18 μ' u u' x W6 g0 l0 g0 A gL L) {j : Nat} (hj : j < 8) {AA : Option Addr} {na ac g cap : Nat} {w1 : World} (hg : g0 j = .slice AA na ac) (hn : na = (A j).length)
    (hown : w1.ownsRow B 41 1 (.slice (some ⟨g, 0, none⟩) (na + 1) cap) (na + 1) ((A j).map (Value.int .u32) ++ [.int .u32 x.w])) (hgrow : W.grownBy w1 (Value.slice AA na ac).ownBlock) (hat : (Value.slice AA na ac).ownBlock = some g ∨ g = W.heap.size) :
    RB w1 m c aB lB uB B b13 b18 μ' u u' x W6 g0 l0 (updG g0 j (.slice (some ⟨g, 0, none⟩) (na + 1) cap)) (updL A j x.w) gL L := by
  have hl := h.lts
  have hr : ∀ b, (Value.slice AA na ac).ownBlock = some b → B ≤ b ∧ b < b13 := fun b hb => by
    have hb' : (g0 j).ownBlock = some b := by rw [hg]; exact hb
    exact ⟨(own_lt (h.famA.own j hj) hb').1, h.rowA j b hj hb'⟩
  have k := h.grownKeeps hgrow hr
  have hf : ∀ b, (Value.slice (some ⟨g, 0, none⟩) (na + 1) cap).ownBlock = some b → (g0 j).ownBlock = some b ∨ W.heap.size ≤ b := fun b hb => by
    have e : g = b := by simpa [Value.ownBlock] using hb
    subst e
    rcases hat with h1 | h1
    · exact Or.inl (by rw [hg]; exact h1)
    · exact Or.inr (by omega)
  rw [← hg] at hgrow
  subst hn
  exact ⟨h.mem.keep k ⟨h.mem.obj.lt, by omega⟩ ⟨h.mem.cells.lt, by omega⟩, h.blkA.keep k ⟨h.blkA.lt, by omega⟩, h.blkL.keep k ⟨h.blkL.lt, by omega⟩, h.blkU.keep k ⟨h.blkU.lt, by omega⟩, h.h13.keep k ⟨h.h13.lt, by omega⟩, h.h18.keep k ⟨h.h18.lt, by omega⟩,
    h.famA.append hj hgrow hown hf, h.famL.grown hgrow (fun i b hi hb e => h.apart j i b hj hi e.symm hb), h.apart.left h.famL hj hf, h.rowA, h.rowL, hl, h.keeps.trans (k.mono fun b hb => ⟨by have := h.h18.lt; have := hb.1; omega, Or.inl hb.1⟩)⟩
theorem RB.appendL (h : RB W m c aB lB uB B b13 b18 μ' u u' x W6 g0 l0 gA A l0 L) {j : Nat} (hj : j < 8) {AA : Option Addr} {na ac g cap : Nat} {w1 : World} {t2 : Int} (hg : l0 j = .slice AA na ac) (hn : na = (L j).length)
    (hown : w1.ownsRow B 3 1 (.slice (some ⟨g, 0, none⟩) (na + 1) cap) (na + 1) ((L j).map (Value.int .i64) ++ [.int .i64 t2])) (hgrow : W.grownBy w1 (Value.slice AA na ac).ownBlock) (hat : (Value.slice AA na ac).ownBlock = some g ∨ g = W.heap.size) :
    RB w1 m c aB lB uB B b13 b18 μ' u u' x W6 g0 l0 gA A (updG l0 j (.slice (some ⟨g, 0, none⟩) (na + 1) cap)) (updL L j t2) := by
  have hl := h.lts
  have hr : ∀ b, (Value.slice AA na ac).ownBlock = some b → B ≤ b ∧ b < b13 := fun b hb => by
    have hb' : (l0 j).ownBlock = some b := by rw [hg]; exact hb
    exact ⟨(own_lt (h.famL.own j hj) hb').1, h.rowL j b hj hb'⟩
  have k := h.grownKeeps hgrow hr
  have hf : ∀ b, (Value.slice (some ⟨g, 0, none⟩) (na + 1) cap).ownBlock = some b → (l0 j).ownBlock = some b ∨ W.heap.size ≤ b := fun b hb => by
    have e : g = b := by simpa [Value.ownBlock] using hb
    subst e
    rcases hat with h1 | h1
    · exact Or.inl (by rw [hg]; exact h1)
    · exact Or.inr (by omega)
  rw [← hg] at hgrow
  subst hn
  exact ⟨h.mem.keep k ⟨h.mem.obj.lt, by omega⟩ ⟨h.mem.cells.lt, by omega⟩, h.blkA.keep k ⟨h.blkA.lt, by omega⟩, h.blkL.keep k ⟨h.blkL.lt, by omega⟩, h.blkU.keep k ⟨h.blkU.lt, by omega⟩, h.h13.keep k ⟨h.h13.lt, by omega⟩, h.h18.keep k ⟨h.h18.lt, by omega⟩,
    h.famA.grown hgrow (fun i b hi hb e => h.apart i j b hi hj hb e.symm), h.famL.append hj hgrow hown hf, h.apart.right h.famA hj hf, h.rowA, h.rowL, hl, h.keeps.trans (k.mono fun b hb => ⟨by have := h.h18.lt; have := hb.1; omega, Or.inl hb.1⟩)⟩
end

set_option maxRecDepth 100000 in
set_option maxHeartbeats 16000000 in
theorem pb_walk (c : ConfM) (A0 : Option Addr) (ca : Nat) (ops : List OpM) (w : World) (hT : Tab w) (hOa : ∀ x ∈ ops, x.wf)
    (hsa : SlAt w (· < w.heap.size) 2 (.slice A0 ops.length ca) ops.length (ops.flatMap OpM.cells)) :
    Calls Tryd.prog 3 #[.agg c.list.toArray, .slice A0 ops.length ca] w fun e w' => e = .returned (.bool true) ∧ Keeps (· < w.heap.size) w w' := by
  obtain ⟨A1, cap0, he, hca1, hca2⟩ := hsa.form
  injection he with e1 _ e3
  subst e1 e3
  unfold maxLen at hca2
  obtain ⟨p, b, hplan, hb⟩ := plan_any c
  obtain ⟨docs, terms, s0, s1, s2, s3, book, room, kk, bb⟩ := c
  unfold ConfM.list at *
  have HPL := hid hplan
  have HPB := hid hb
  have HT := hid hT
  have HSA := hid hsa
  have HOA := hid hOa
  clear hplan hb hT hsa hOa
  refine calls_hide fun R' hR' => ?_
  unfold PlanM.val at HPL
  go_enter Tryd.func3, Tryd.ntmps3
  go_wp2_with fail
  refine (HPL.out _).mono ?_
  rintro e w1 ⟨rfl, hk1⟩
  have hk : Keeps (· < w.heap.size) w w1 := ((Keeps.refl _ _).alloc (fun b hb => hb) _).trans (hk1.mono fun b hb => by simp only [World.size_alloc]; omega)
  have h0 : 0 < w.heap.size := HT.out.2.2.2.2
  generalize hws : w.heap.size = ws at *
  have hz1 := hk.size
  have Hk := hid hk
  have Hws := hid hws
  have H0 := hid h0
  have Hz1 := hid hz1
  clear hk hws h0 hz1
  clear hk1 HPL
  cases b with
  | false =>
    go_wp2_with fail
    refine (fixed09 _ ?_).mono ?_
    · exact HT.out.keep (Hk.out.alloc (fun b hb => by have := Hk.out.size; have := Hws.out; omega) _) H0.out
    rintro e w2 ⟨rfl, hk2⟩
    have hkf : Keeps (· < ws) w w2 := (Hk.out.alloc (fun b hb => by have := Hk.out.size; have := Hws.out; omega) _).trans (hk2.mono fun b hb => by have := Hk.out.size; have := Hws.out; simp only [World.size_alloc]; omega)
    clear hk2
    have Hkf := hid hkf
    clear hkf
    go_wp2_with fail
    exact hR'.out _ _ ⟨rfl, Hkf.out⟩
  | true =>
    obtain ⟨hcok, hall, hpe⟩ := HPB.out rfl
    clear HPB
    have hcp := conf_pools _ hcok (by omega)
    rw [← hpe] at hcp
    have hpc : p.cells = ConfM.all ⟨docs, terms, s0, s1, s2, s3, book, room, kk, bb⟩ := by rw [hpe]; rfl
    generalize ConfM.all ⟨docs, terms, s0, s1, s2, s3, book, room, kk, bb⟩ = call at *
    generalize ConfM.pools ⟨docs, terms, s0, s1, s2, s3, book, room, kk, bb⟩ = P at *
    obtain ⟨hP, hl, hpt, hc3⟩ := hcp
    have HX := hid (And.intro hP (And.intro hl (And.intro hpt (And.intro hc3 (And.intro hall hpc)))))
    clear hP hl hpt hc3 hall hpc hpe hcok
    go_wp2_with fail
    refine calls_gen (fun W => Blk W w1.heap.size [.int .i64 p.base.a0, .int .i64 p.base.a1, .int .i64 p.base.a2, .int .i64 p.base.a3, .int .i64 p.base.a4, .int .i64 p.base.a5, .int .i64 p.size.a0, .int .i64 p.size.a1, .int .i64 p.size.a2, .int .i64 p.size.a3, .int .i64 p.size.a4, .int .i64 p.size.a5, .int .i64 p.cells, .int .i64 p.slots, .int .i64 p.live] ∧ Keeps (· < ws) w W) ⟨?_, ?_⟩ ?_
    · repeat (first | with_reducible assumption | with_reducible exact Blk.new _ _ _ | with_reducible refine Blk.drew ?_ | with_reducible refine Blk.drewN ?_ _ | with_reducible refine Blk.set_ne ?_ _ ?_ | (with_reducible refine Blk.new' _ _ _ ?_; focus (simp; done)) | with_reducible refine Blk.alloc ?_ _)
      all_goals (first | assumption | (simp; done) | (simp; omega))
    · exact Hk.out.alloc (fun b hb => by have := Hk.out.size; have := Hws.out; omega) _
    rintro W2 ⟨hBP, hK2⟩
    have hbp : ws ≤ w1.heap.size := by have := Hk.out.size; have := Hws.out; omega
    generalize w1.heap.size = bp at *
    clear Hk Hz1
    refine (mem_newI W2 p.cells (by have := HX.out.2.2.2.1; have := HX.out.2.2.2.2.2; omega) (by have := HX.out.2.2.2.2.1; have := HX.out.2.2.2.2.2; omega)).mono ?_
    rintro e w3 ⟨rfl, hm3, hk3, hz3⟩
    have hlb := hBP.lt
    have hB3 := hBP.keep hk3 hlb
    have hK3 := hK2.trans (hk3.mono fun b hb => by omega)
    clear hk3 hBP hK2
    generalize hcc : W2.heap.size = cb at *
    generalize hmm : cb + 1 = m at *
    have HNN := hid (show ws ≤ bp ∧ bp < cb ∧ cb + 1 = m ∧ w3.heap.size = cb + 2 ∧ 0 < ws from ⟨hbp, hlb, hmm, by omega, H0.out⟩)
    have Hm3 := hid hm3
    have HK3 := hid hK3
    have HB3 := hid hB3
    clear hm3 hK3 hB3
    clear hcc hmm hlb hz3 hbp
    go_upto_block 0 with fail
    refine wp_gen (fun W => PB W m cb w3.heap.size (w3.heap.size + 1) (w3.heap.size + 1 + 1) (w3.heap.size + 3) P ⟨List.replicate p.cells.toNat 0, 0, 0⟩ (fun _ => 0) (fun _ => none) zerosN (fun _ => []) (fun _ => []) (fun _ => .slice none 0 0) (fun _ => .slice none 0 0) ∧ Blk W bp [.int .i64 p.base.a0, .int .i64 p.base.a1, .int .i64 p.base.a2, .int .i64 p.base.a3, .int .i64 p.base.a4, .int .i64 p.base.a5, .int .i64 p.size.a0, .int .i64 p.size.a1, .int .i64 p.size.a2, .int .i64 p.size.a3, .int .i64 p.size.a4, .int .i64 p.size.a5, .int .i64 p.cells, .int .i64 p.slots, .int .i64 p.live] ∧ Keeps (· < ws) w W ∧ W.heap.size = w3.heap.size + 3) ⟨?_, ?_, ?_, ?_⟩ ?_
    · refine ⟨Hm3.out.keep (K := (· < w3.heap.size)) ((((Keeps.refl _ _).alloc (fun b hb => hb) _).alloc (fun b hb => by simp; omega) _).alloc (fun b hb => by simp; omega) _) Hm3.out.obj.lt Hm3.out.cells.lt, .start (post_init P HX.out.1 _ (by have := HX.out.2.2.1; have := HX.out.2.2.2.2.2; omega)), used_init, by show _ ≤ (List.replicate p.cells.toNat (0 : Int)).length; rw [List.length_replicate]; have := HX.out.2.2.1; have := HX.out.2.2.2.2.2; omega, ?_, ?_, ?_, Fam.start _ _ _ _, Fam.start _ _ _ _, fun k k' b _ _ hb => by cases hb⟩
      · exact ((Blk.new w3 [.slice none 0 0, .slice none 0 0, .slice none 0 0, .slice none 0 0, .slice none 0 0, .slice none 0 0, .slice none 0 0, .slice none 0 0] _).alloc _).alloc _
      · exact (Blk.new' _ [.slice none 0 0, .slice none 0 0, .slice none 0 0, .slice none 0 0, .slice none 0 0, .slice none 0 0, .slice none 0 0, .slice none 0 0] _ (by simp)).alloc _
      · exact Blk.new' _ [.int .i64 0, .int .i64 0, .int .i64 0, .int .i64 0, .int .i64 0, .int .i64 0] _ (by simp)
    · exact ((HB3.out.alloc _).alloc _).alloc _
    · exact ((HK3.out.alloc (fun b hb => by have := HNN.out; omega) _).alloc (fun b hb => by have := HNN.out; simp; omega) _).alloc (fun b hb => by have := HNN.out; simp; omega) _
    · simp
    clear Hm3 HK3 HB3
    have hnn := HNN.out
    clear HNN
    rintro W6 ⟨hPB, hBp, hKw, hz6⟩
    generalize haB : w3.heap.size = aB at *
    generalize hlB : aB + 1 = lB at *
    generalize huB : lB + 1 = uB at *
    have HNN := hid (show ws ≤ bp ∧ bp < cb ∧ cb < m ∧ m < aB ∧ aB < lB ∧ lB < uB ∧ uB < W6.heap.size ∧ 0 < ws by omega)
    rw [show aB + 3 = W6.heap.size by omega] at hPB
    have HGW := hid (show ∀ b, b < ws → b < W6.heap.size ∧ b ≠ m ∧ b ≠ cb ∧ b ≠ aB ∧ b ≠ lB ∧ b ≠ uB from fun b hb => by omega)
    clear hnn haB hlB huB H0 hz6
    have HPB := hid hPB
    have HBp := hid hBp
    have HKw := hid hKw
    clear hPB hBp hKw
    go_cut [12, 13, 14, 15, 16, 17, 18, 19] from 43 to 97 (fun a b c d e f g h wx => ∃ (μ : MemS) (q : Nat → Nat) (T : Tails) (u : V6) (A L : Nat → List Int) (gA gL : Nat → Value), PB wx m cb aB lB uB W6.heap.size P μ q T u A L gA gL ∧ (∀ k, (A k).length ≤ 61) ∧ Keeps (fun b => b < W6.heap.size ∧ b ≠ m ∧ b ≠ cb ∧ b ≠ aB ∧ b ≠ lB ∧ b ≠ uB) W6 wx)
    case first =>
      go_wp2_with fail
      go_loopw [43] (fun i wr => ∃ (k : Nat) (μ : MemS) (q : Nat → Nat) (T : Tails) (u : V6) (A L : Nat → List Int) (gA gL : Nat → Value), i = .int .i64 (k : Int) ∧ k ≤ ops.length ∧ k ≤ 61 ∧ Hid (PB wr m cb aB lB uB W6.heap.size P μ q T u A L gA gL ∧ (∀ j, (A j).length ≤ k) ∧ Keeps (fun b => b < W6.heap.size ∧ b ≠ m ∧ b ≠ cb ∧ b ≠ aB ∧ b ≠ lB ∧ b ≠ uB) W6 wr)) (fun i _ => ops.length - (intOf i).toNat)
      case atStart => exact ⟨0, _, _, _, _, _, _, _, _, rfl, Nat.zero_le _, by omega, hid ⟨HPB.out, fun _ => Nat.le_refl _, Keeps.refl _ _⟩⟩
      case round =>
        obtain ⟨k, μ, q, T, u, A, L, gA, gL, rfl, hk, hk61, HH⟩ := hrel
        by_cases hlt : k < ops.length
        · have hlt' : (k : Int) < (ops.length : Int) := by omega
          obtain ⟨b, off, cp, e1, hKb, x0, x1⟩ := HSA.out.op (List.getElem?_eq_getElem hlt)
          injection e1 with e1 _ e2
          subst e1 e2
          have hkw := HKw.out.trans (HH.out.2.2.mono HGW.out)
          have y0 := (World.cell?_of_block (a := ⟨b, off + k * 2, none⟩) (hkw.block b hKb)).trans x0
          have y1 := (World.cell?_of_block (a := ⟨b, off + k * 2 + 1, none⟩) (hkw.block b hKb)).trans x1
          have hwf := HOA.out ops[k] (List.getElem_mem hlt)
          generalize ops[k] = x at *
          clear x0 x1
          by_cases h60 : k ≤ 60
          · have h60b : ¬ (k : Int) > 60 := by omega
            have hzr := HH.out.2.2.size
            have Hkw := hid hkw
            have Hzr := hid hzr
            clear hkw hzr
            obtain ⟨j, hj8, gj⟩ : ∃ j : Nat, j < 8 ∧ x.t.tmod 8 = (j : Int) := ⟨(x.t.tmod 8).toNat, by rw [Int.tmod_eq_emod_of_nonneg hwf.1.1]; omega, by rw [Int.tmod_eq_emod_of_nonneg hwf.1.1]; omega⟩
            have gj0 : (0 : Int) ≤ (j : Int) := Int.natCast_nonneg j
            have gj1 : (j : Int) < 8 := by omega
            obtain ⟨LA, lc, hgl⟩ := own_form (HH.out.1.famL.own j hj8)
            obtain ⟨AA, ac, hga⟩ := own_form (HH.out.1.famA.own j hj8)
            have hcL := HH.out.1.blkL.cell j
            rw [g8_get gL hj8, hgl] at hcL
            have hlB : lB < wr.heap.size := HH.out.1.blkL.lt
            have hal : Keeps (· < wr.heap.size) wr (wr.alloc (.cells #[.int .u8 x.t, .int .u32 x.w] 43)) := (Keeps.refl _ _).alloc (fun b hb => hb) _
            have hPB1 := HH.out.1.keep hal HH.out.1.mem.obj.lt HH.out.1.mem.cells.lt HH.out.1.blkA.lt HH.out.1.blkL.lt HH.out.1.blkU.lt (fun b _ h => h)
            have hbp1 := (HBp.out.keep HH.out.2.2 ⟨by have := HNN.out; omega, by have := HNN.out; omega, by have := HNN.out; omega, by have := HNN.out; omega, by have := HNN.out; omega, by have := HNN.out; omega⟩).keep hal (by have := HNN.out; have := Hzr.out; show bp < wr.heap.size; omega)
            have hkk1 := HH.out.2.2.trans (hal.mono fun b hb => by have := Hzr.out; have := hb.1; omega)
            have hTj := HH.out.1.inv.last j
            have HLE := hid HH.out.2.1
            have HINV := hid HH.out.1.inv
            have HLEN := hid HH.out.1.len
            have HAP := hid HH.out.1.apart
            have HRB := hid (show (∀ k b, k < 8 → (gA k).ownBlock = some b → b < wr.heap.size) ∧ (∀ k b, k < 8 → (gL k).ownBlock = some b → b < wr.heap.size) from ⟨fun k b hk hb => (own_lt (HH.out.1.famA.own k hk) hb).2, fun k b hk hb => (own_lt (HH.out.1.famL.own k hk) hb).2⟩)
            obtain ⟨t1, ht1⟩ : ∃ t1, t1 = tailOf P (T j) := ⟨_, rfl⟩
            rw [← ht1] at hTj
            obtain ⟨n, hn⟩ : ∃ n, n = (L j).length := ⟨_, rfl⟩
            rw [← hn] at hgl hcL
            have HGL := hid hgl
            have HGA := hid hga
            have HT1 := hid ht1
            have HN := hid hn
            have HPB1 := hid hPB1
            have Hbp1 := hid hbp1
            have Hkk1 := hid hkk1
            have HTj := hid hTj
            have HWF := hid hwf
            clear hPB1 hbp1 hkk1 hTj hwf
            clear hal hgl hga ht1 hn
            go_upto_if 58 with fail
            refine wp_gen (fun W => Blk W wr.heap.size [.int .u8 x.t, .int .u32 x.w] ∧ PB W m cb aB lB uB W6.heap.size P μ q T u A L gA gL ∧ Blk W bp [.int .i64 p.base.a0, .int .i64 p.base.a1, .int .i64 p.base.a2, .int .i64 p.base.a3, .int .i64 p.base.a4, .int .i64 p.base.a5, .int .i64 p.size.a0, .int .i64 p.size.a1, .int .i64 p.size.a2, .int .i64 p.size.a3, .int .i64 p.size.a4, .int .i64 p.size.a5, .int .i64 p.cells, .int .i64 p.slots, .int .i64 p.live] ∧ Keeps (fun b => b < W6.heap.size ∧ b ≠ m ∧ b ≠ cb ∧ b ≠ aB ∧ b ≠ lB ∧ b ≠ uB) W6 W ∧ W.cell? ⟨lB, j, none⟩ = some (.slice LA n lc)) ⟨Blk.new wr _ _, HPB1.out, Hbp1.out, Hkk1.out, ?_⟩ ?_
            · have h := HPB1.out.blkL.cell j
              rw [g8_get gL hj8, HGL.out] at h
              exact h
            clear HPB1 Hbp1 Hkk1 hcL y0 y1
            rintro W1 ⟨hB13, hPB1, hbp1, hkk1, hcL⟩
            have hz13 := hB13.lt
            have hz0 : W6.heap.size ≤ wr.heap.size := Hzr.out
            generalize wr.heap.size = b13 at *
            have HZ := hid (And.intro hz13 hz0)
            clear hz13 hz0 hlB HH Hzr Hkw
            have HKwW := HKw
            have HPB1 := hid hPB1
            have Hbp1 := hid hbp1
            have Hkk1 := hid hkk1
            have HB13 := hid hB13
            clear hPB1 hbp1 hkk1 hB13
            go_cut [15] from 57 to 65 (fun a wx => a = .int .i64 (t1 : Int) ∧ wx = W1)
            case first =>
              by_cases hn0 : n = 0
              · have hgt : ¬ (n : Int) > 0 := by omega
                have h0t : ((t1 : Nat) : Int) = 0 := by
                  have h := HTj.out
                  have e : L j = [] := List.length_eq_zero_iff.1 (by have := HN.out; omega)
                  rw [e] at h
                  simpa using h.symm
                have H0t := hid h0t
                clear h0t
                clear hn0
                go_wp2_with fail
                go_meet
                case rel => exact ⟨by rw [H0t.out], rfl⟩
              · have hgt : (n : Int) > 0 := by omega
                obtain ⟨n', rfl⟩ : ∃ n', n = n' + 1 := ⟨n - 1, by omega⟩
                have hg : (L j)[n']? = some (t1 : Int) := by
                  have h := HTj.out
                  rw [List.getLast?_eq_getElem?, ← HN.out, Nat.add_sub_cancel] at h
                  rw [List.getElem?_eq_getElem (by have := HN.out; omega)] at h ⊢
                  simpa using h
                obtain ⟨b2, off2, cp2, e1, _, x2⟩ := (own_slAt (HPB1.out.famL.own j hj8)).get n' (t1 : Int) hg
                rw [HGL.out] at e1
                injection e1 with e1 em e2
                clear em
                subst e1 e2
                have hnb : n' + 1 ≤ 100 := by have h1 := HN.out; have h2 := HLE.out j; have h3 := HPB1.out.inv.len j; omega
                have hnb1 : (n' : Int) < 100 := by omega
                have hnb2 : (0 : Int) ≤ (n' : Int) := Int.natCast_nonneg n'
                have hnb3 : (n' : Int) < (n' : Int) + 1 := by omega
                go_wp2_with fail
                go_meet
                case rel => exact ⟨rfl, rfl⟩
            case rest =>
              obtain ⟨rfl, rfl⟩ := hcut
              have HGL' := HGL
              clear HGL HTj
              have hbpc := Hbp1.out
              have huc := HPB1.out.blkU
              have h13c := HB13.out
              have hdet := put_det HX.out.1 HX.out.2.1 HPB1.out.used HPB1.out.inv.inv HPB1.out.len j x.w (show U32 x.w from HWF.out.2)
              rw [← HT1.out] at hdet
              have HDET := hid hdet
              have cp0 := (hbpc).cell 0
              have cp1 := (hbpc).cell 1
              have cp2 := (hbpc).cell 2
              have cp3 := (hbpc).cell 3
              have cp4 := (hbpc).cell 4
              have cp5 := (hbpc).cell 5
              have cp6 := (hbpc).cell 6
              have cp7 := (hbpc).cell 7
              have cp8 := (hbpc).cell 8
              have cp9 := (hbpc).cell 9
              have cp10 := (hbpc).cell 10
              have cp11 := (hbpc).cell 11
              have cp12 := (hbpc).cell 12
              have cp13 := (hbpc).cell 13
              have cp14 := (hbpc).cell 14
              simp only [List.getElem?_cons_zero, List.getElem?_cons_succ] at cp0 cp1 cp2 cp3 cp4 cp5 cp6 cp7 cp8 cp9 cp10 cp11 cp12 cp13 cp14
              have cu0 := (huc).cell 0
              have cu1 := (huc).cell 1
              have cu2 := (huc).cell 2
              have cu3 := (huc).cell 3
              have cu4 := (huc).cell 4
              have cu5 := (huc).cell 5
              simp only [List.getElem?_cons_zero, List.getElem?_cons_succ] at cu0 cu1 cu2 cu3 cu4 cu5
              have cf0 := (h13c).cell 0
              have cf1 := (h13c).cell 1
              simp only [List.getElem?_cons_zero, List.getElem?_cons_succ] at cf0 cf1
              clear hbpc huc h13c hdet hcL
              rcases HDET.out with ⟨q', T', u', cs', hD, hKeep, hUI', hHow, hput⟩ | ⟨hF, hput⟩
              · clear HDET
                have hcon := hput wc (fun b => b < wc.heap.size ∧ b ≠ m ∧ b ≠ cb) m cb μ rfl HPB1.out.mem (fun h => h.2.1 rfl) (fun h => h.2.2 rfl) (fun b hb => hb.1) ⟨by have := HNN.out; have := HZ.out; omega, by have := HNN.out; omega, by have := HNN.out; omega⟩ (HT.out.keep (HKwW.out.trans (Hkk1.out.mono HGW.out)) HNN.out.2.2.2.2.2.2.2)
                unfold PlanM.val V6.val at hcon
                obtain ⟨t2, ht2⟩ : ∃ t2, t2 = tailOf P (T' j) := ⟨_, rfl⟩
                rw [← ht2] at hcon
                have HD := hid (And.intro hD (And.intro hKeep (And.intro hUI' ht2)))
                clear hD hKeep hUI' hHow ht2 hput
                have Hcon := hid hcon
                clear hcon
                go_wp2_with fail
                refine Hcon.out.mono ?_
                rintro e w2 ⟨rfl, ⟨μ', hm', hc'⟩, hk2⟩
                have hz2 := hk2.size
                have g13 := HB13.out.keep hk2 ⟨HB13.out.lt, by have := HNN.out; have := HZ.out; omega, by have := HNN.out; have := HZ.out; omega⟩
                have gA1 := HPB1.out.blkA.keep hk2 ⟨HPB1.out.blkA.lt, by have := HNN.out; omega, by have := HNN.out; omega⟩
                have gL1 := HPB1.out.blkL.keep hk2 ⟨HPB1.out.blkL.lt, by have := HNN.out; omega, by have := HNN.out; omega⟩
                have gU1 := HPB1.out.blkU.keep hk2 ⟨HPB1.out.blkU.lt, by have := HNN.out; omega, by have := HNN.out; omega⟩
                have gFA := HPB1.out.famA.keep hk2 (fun b h1 h2 => ⟨h2, by have := HNN.out; omega, by have := HNN.out; omega⟩)
                have gFL := HPB1.out.famL.keep hk2 (fun b h1 h2 => ⟨h2, by have := HNN.out; omega, by have := HNN.out; omega⟩)
                have gbp := Hbp1.out.keep hk2 ⟨Hbp1.out.lt, by have := HNN.out; omega, by have := HNN.out; omega⟩
                have gkk := Hkk1.out.trans (hk2.mono fun b hb => ⟨by have := hb.1; have := HZ.out; omega, hb.2.1, hb.2.2.1⟩)
                have HZ2 := hid hz2
                clear hk2 hz2 cp0 cp1 cp2 cp3 cp4 cp5 cp6 cp7 cp8 cp9 cp10 cp11 cp12 cp13 cp14 cu0 cu1 cu2 cu3 cu4 cu5 cf0 cf1 Hcon
                have Hm' := hid hm'
                have Hc' := hid hc'
                have HG13 := hid g13
                have HGA1 := hid gA1
                have HGL1 := hid gL1
                have HGU1 := hid gU1
                have HGFA := hid gFA
                have HGFL := hid gFL
                have HGbp := hid gbp
                have HGkk := hid gkk
                clear hm' hc' g13 gA1 gL1 gU1 gFA gFL gbp gkk
                go_wp2_with fail
                refine wp_gen (fun W => Blk W w2.heap.size [.int .i64 u'.a0, .int .i64 u'.a1, .int .i64 u'.a2, .int .i64 u'.a3, .int .i64 u'.a4, .int .i64 u'.a5] ∧ MemAt W m cb μ' ∧ Blk W b13 [.int .u8 x.t, .int .u32 x.w] ∧ Blk W aB (g8 gA) ∧ Blk W lB (g8 gL) ∧ Blk W uB [.int .i64 u.a0, .int .i64 u.a1, .int .i64 u.a2, .int .i64 u.a3, .int .i64 u.a4, .int .i64 u.a5] ∧ Fam W 41 .u32 W6.heap.size gA A ∧ Fam W 3 .i64 W6.heap.size gL L ∧ Keeps (fun b => b < W6.heap.size ∧ b ≠ m ∧ b ≠ cb ∧ b ≠ aB ∧ b ≠ lB ∧ b ≠ uB) W6 W) ⟨Blk.new w2 _ _, Hm'.out.keep (K := (· < w2.heap.size)) ((Keeps.refl _ _).alloc (fun b hb => hb) _) Hm'.out.obj.lt Hm'.out.cells.lt, HG13.out.alloc _, HGA1.out.alloc _, HGL1.out.alloc _, HGU1.out.alloc _, HGFA.out.keep (K := (· < w2.heap.size)) ((Keeps.refl _ _).alloc (fun b hb => hb) _) (fun b _ h => h), HGFL.out.keep (K := (· < w2.heap.size)) ((Keeps.refl _ _).alloc (fun b hb => hb) _) (fun b _ h => h), HGkk.out.alloc (fun b hb => by have := hb.1; have := HZ.out; have := HZ2.out; omega) _⟩ ?_
                clear Hm' HG13 HGA1 HGL1 HGU1 HGFA HGFL HGkk HGbp HPB1 HB13 Hbp1 Hkk1
                rintro W3 ⟨h18, hm3, h13, hA3, hL3, hU3, hFA3, hFL3, hk3⟩
                have hl18 := h18.lt
                generalize hb18 : w2.heap.size = b18 at *
                have HZ3 := hid (show W6.heap.size ≤ b13 ∧ b13 < wc.heap.size ∧ wc.heap.size ≤ b18 ∧ b18 < W3.heap.size from ⟨HZ.out.2, HZ.out.1, by have := HZ2.out; omega, hl18⟩)
                obtain ⟨na, hna⟩ : ∃ na, na = (A j).length := ⟨_, rfl⟩
                have hga' : gA j = .slice AA na ac := by rw [HGA.out, hna]
                have HGA' := hid hga'
                have HNA := hid hna
                clear hga' hna hl18 hb18 HZ2 HGA HZ
                have HNQ := hid (show m ≠ aB ∧ m ≠ lB ∧ m ≠ uB ∧ cb ≠ aB ∧ cb ≠ lB ∧ cb ≠ uB ∧ aB ≠ lB ∧ aB ≠ uB ∧ lB ≠ uB by have := HNN.out; omega)
                have HPBI := hid (show BackInv P μ'.cells q' T' (updL A j x.w) (updL L j (t2 : Int)) ∧ UsedIs u' q' ∧ P.b 3 + 256 * P.n 3 ≤ μ'.cells.length from (by obtain ⟨d1, d2, d3, d4⟩ := HD.out; have hcc := Hc'.out; have hb := HINV.out.put HX.out.1 HWF.out.2 d1; rw [← d4] at hb; exact ⟨by rw [hcc]; exact hb, d3, by rw [hcc, d1.len]; exact HLEN.out⟩))
                have HNB := hid (show na ≤ 100 ∧ n ≤ 100 by have h1 := HLE.out j; have h2 := HINV.out.len j; have := HNA.out; have := HN.out; omega)
                have HR0 := hid (show RB W3 m cb aB lB uB W6.heap.size b13 b18 μ' u u' x W6 gA gL gA A gL L from ⟨hm3, hA3, hL3, hU3, h13, h18, hFA3, hFL3, HAP.out, fun k b hk hb => HRB.out.1 k b hk hb, fun k b hk hb => HRB.out.2 k b hk hb, by have := HNN.out; have := HZ3.out; omega, hk3⟩)
                have HOWNA := hid (show ∀ W, Fam W 41 .u32 W6.heap.size gA A → W.ownsRow W6.heap.size 41 1 (.slice AA na ac) na ((A j).map (Value.int .u32)) from fun W hR => by have := hR.own j hj8; rw [HGA'.out, ← HNA.out] at this; exact this)
                have HOWNL := hid (show ∀ W, Fam W 3 .i64 W6.heap.size gL L → W.ownsRow W6.heap.size 3 1 (.slice LA n lc) n ((L j).map (Value.int .i64)) from fun W hR => by have := hR.own j hj8; rw [HGL'.out, ← HN.out] at this; exact this)
                have HSOF := hid (show ∀ W (ga : Nat → Value) (la : Nat → List Int) (gl : Nat → Value) (ll : Nat → List Int), RB W m cb aB lB uB W6.heap.size b13 b18 μ' u u' x W6 gA gL ga la gl ll → (W.cell? ⟨b18, 0, none⟩ = some (.int .i64 u'.a0) ∧ W.cell? ⟨b18, 1, none⟩ = some (.int .i64 u'.a1) ∧ W.cell? ⟨b18, 2, none⟩ = some (.int .i64 u'.a2) ∧ W.cell? ⟨b18, 3, none⟩ = some (.int .i64 u'.a3) ∧ W.cell? ⟨b18, 4, none⟩ = some (.int .i64 u'.a4) ∧ W.cell? ⟨b18, 5, none⟩ = some (.int .i64 u'.a5) ∧ W.cell? ⟨aB, j, none⟩ = some (.slice AA na ac) ∧ W.cell? ⟨lB, j, none⟩ = some (.slice LA n lc) ∧ W.cell? ⟨b13, 1, none⟩ = some (.int .u32 x.w)) from fun W ga la gl ll h => ⟨h.h18.cell 0, h.h18.cell 1, h.h18.cell 2, h.h18.cell 3, h.h18.cell 4, h.h18.cell 5, by have := h.blkA.cell j; rw [g8_get gA hj8, HGA'.out] at this; exact this, by have := h.blkL.cell j; rw [g8_get gL hj8, HGL'.out] at this; exact this, h.h13.cell 1⟩)
                have c18 := h18
                have c13 := h13.cell 1
                have cA := hA3.cell j
                rw [g8_get gA hj8, HGA'.out] at cA
                have cL := hL3.cell j
                rw [g8_get gL hj8, HGL'.out] at cL
                have z0 := (c18).cell 0
                have z1 := (c18).cell 1
                have z2 := (c18).cell 2
                have z3 := (c18).cell 3
                have z4 := (c18).cell 4
                have z5 := (c18).cell 5
                simp only [List.getElem?_cons_zero, List.getElem?_cons_succ] at z0 z1 z2 z3 z4 z5
                clear c18
                clear h18 hm3 h13 hA3 hL3 hU3 hFA3 hFL3 hk3
                have m1 : ¬ aB = b18 := by have := HNN.out; have := HZ3.out; omega
                have m2 : ¬ lB = b18 := by have := HNN.out; have := HZ3.out; omega
                have m3 : ¬ uB = b18 := by have := HNN.out; have := HZ3.out; omega
                have m4 : ¬ aB = lB := by have := HNN.out; omega
                have m5 : ¬ aB = uB := by have := HNN.out; omega
                have m6 : ¬ lB = uB := by have := HNN.out; omega
                refine wp_region_held_drew (S := fun w' => w'.cell? ⟨b18, 0, none⟩ = some (.int .i64 u'.a0) ∧ w'.cell? ⟨b18, 1, none⟩ = some (.int .i64 u'.a1) ∧ w'.cell? ⟨b18, 2, none⟩ = some (.int .i64 u'.a2) ∧ w'.cell? ⟨b18, 3, none⟩ = some (.int .i64 u'.a3) ∧ w'.cell? ⟨b18, 4, none⟩ = some (.int .i64 u'.a4) ∧ w'.cell? ⟨b18, 5, none⟩ = some (.int .i64 u'.a5)) (by kernel_rfl) ?_ (fun hHeld => ?_)
                · go_keep
                refine wpAnyH_take (i := 1) (oi := _) (v := ?v1) rfl (by kernel_rfl) (by kernel_rfl) (by kernel_rfl) (fun _ _ _ h => h) (Or.inl ⟨by rfl, ?y1⟩) (by assumption) ?qq1
                case y1 => (intro w hSw; (try dsimp only at hSw); go_simp; try with_reducible rfl)
                simp only [Act.put, List.setIfInBounds_toArray, List.set_cons_zero, List.set_cons_succ]
                refine wpAnyH_take (i := 15) (oi := _) (v := ?v15) rfl (by kernel_rfl) (by kernel_rfl) (by kernel_rfl) (fun _ _ _ h => h) (Or.inl ⟨by rfl, ?y15⟩) (by assumption) ?qq15
                case y15 => (intro w hSw; (try dsimp only at hSw); go_simp; try with_reducible rfl)
                simp only [Act.put, List.setIfInBounds_toArray, List.set_cons_zero, List.set_cons_succ]
                clear z0 z1 z2 z3 z4 z5 c13 cA cL
                refine anyH_gen (fun W => RB W m cb aB lB uB W6.heap.size b13 b18 μ' u u' x W6 gA gL gA A gL L ∧ (W.cell? ⟨b18, 0, none⟩ = some (.int .i64 u'.a0) ∧ W.cell? ⟨b18, 1, none⟩ = some (.int .i64 u'.a1) ∧ W.cell? ⟨b18, 2, none⟩ = some (.int .i64 u'.a2) ∧ W.cell? ⟨b18, 3, none⟩ = some (.int .i64 u'.a3) ∧ W.cell? ⟨b18, 4, none⟩ = some (.int .i64 u'.a4) ∧ W.cell? ⟨b18, 5, none⟩ = some (.int .i64 u'.a5))) ⟨HR0.out.drew', hHeld⟩ ?_
                clear HR0 hHeld
                rintro W3 ⟨hR, hHeld⟩
                have HR := hid hR
                clear hR
                refine wpAnyH_head (S := fun w' => w'.cell? ⟨b18, 0, none⟩ = some (.int .i64 u'.a0) ∧ w'.cell? ⟨b18, 1, none⟩ = some (.int .i64 u'.a1) ∧ w'.cell? ⟨b18, 2, none⟩ = some (.int .i64 u'.a2) ∧ w'.cell? ⟨b18, 3, none⟩ = some (.int .i64 u'.a3) ∧ w'.cell? ⟨b18, 4, none⟩ = some (.int .i64 u'.a4) ∧ w'.cell? ⟨b18, 5, none⟩ = some (.int .i64 u'.a5) ∧ w'.cell? ⟨aB, j, none⟩ = some (.slice AA na ac) ∧ w'.cell? ⟨lB, j, none⟩ = some (.slice LA n lc) ∧ w'.cell? ⟨b13, 1, none⟩ = some (.int .u32 x.w)) 17 15 [1, 15] #[false, true, false, false, false, false, false, false, false, false, false, false, false, false, false, true, false] (by kernel_rfl) (by kernel_rfl) (by kernel_rfl) (fun w h => ⟨h.1, h.2.1, h.2.2.1, h.2.2.2.1, h.2.2.2.2.1, h.2.2.2.2.2.1⟩) ?_
                simp only [List.take_succ_cons, List.take_zero]
                have hHeld := HSOF.out _ _ _ _ _ HR.out
                refine wpAnyH_take (i := 0) (oi := _) (v := ?vu1) rfl (by kernel_rfl) (by kernel_rfl) (by kernel_rfl) (fun _ _ _ h => h) (Or.inl ⟨by rfl, ?yu1⟩) (by assumption) ?qu1
                case yu1 => (intro w hSw; (try dsimp only at hSw); go_simp; try with_reducible rfl)
                simp only [Act.put, List.setIfInBounds_toArray, List.set_cons_zero, List.set_cons_succ]
                refine wpAnyH_take (i := 2) (oi := _) (v := ?vu2) rfl (by kernel_rfl) (by kernel_rfl) (by kernel_rfl) (fun _ _ _ h => h) (Or.inl ⟨by rfl, ?yu2⟩) (by assumption) ?qu2
                case yu2 => (intro w hSw; (try dsimp only at hSw); go_simp; try with_reducible rfl)
                simp only [Act.put, List.setIfInBounds_toArray, List.set_cons_zero, List.set_cons_succ]
                refine wpAnyH_take (i := 3) (oi := _) (v := ?vu3) rfl (by kernel_rfl) (by kernel_rfl) (by kernel_rfl) (fun _ _ _ h => h) (Or.inl ⟨by rfl, ?yu3⟩) (by assumption) ?qu3
                case yu3 => (intro w hSw; (try dsimp only at hSw); go_simp; try with_reducible rfl)
                simp only [Act.put, List.setIfInBounds_toArray, List.set_cons_zero, List.set_cons_succ]
                refine wpAnyH_take (i := 4) (oi := _) (v := ?vu4) rfl (by kernel_rfl) (by kernel_rfl) (by kernel_rfl) (fun _ _ _ h => h) (Or.inl ⟨by rfl, ?yu4⟩) (by assumption) ?qu4
                case yu4 => (intro w hSw; (try dsimp only at hSw); go_simp; try with_reducible rfl)
                simp only [Act.put, List.setIfInBounds_toArray, List.set_cons_zero, List.set_cons_succ]
                refine wpAnyH_take (i := 5) (oi := _) (v := ?vu5) rfl (by kernel_rfl) (by kernel_rfl) (by kernel_rfl) (fun _ _ _ h => h) (Or.inl ⟨by rfl, ?yu5⟩) (by assumption) ?qu5
                case yu5 => (intro w hSw; (try dsimp only at hSw); go_simp; try with_reducible rfl)
                simp only [Act.put, List.setIfInBounds_toArray, List.set_cons_zero, List.set_cons_succ]
                refine wpAnyH_take (i := 6) (oi := _) (v := ?vu6) rfl (by kernel_rfl) (by kernel_rfl) (by kernel_rfl) (fun _ _ _ h => h) (Or.inl ⟨by rfl, ?yu6⟩) (by assumption) ?qu6
                case yu6 => (intro w hSw; (try dsimp only at hSw); go_simp; try with_reducible rfl)
                simp only [Act.put, List.setIfInBounds_toArray, List.set_cons_zero, List.set_cons_succ]
                refine wpAnyH_take (i := 9) (oi := _) (v := ?vu7) rfl (by kernel_rfl) (by kernel_rfl) (by kernel_rfl) (fun _ _ _ h => h) (Or.inl ⟨by rfl, ?yu7⟩) (by assumption) ?qu7
                case yu7 => (intro w hSw; (try dsimp only at hSw); go_simp; try with_reducible rfl)
                simp only [Act.put, List.setIfInBounds_toArray, List.set_cons_zero, List.set_cons_succ]
                refine wpAnyH_take (i := 10) (oi := _) (v := ?vu8) rfl (by kernel_rfl) (by kernel_rfl) (by kernel_rfl) (fun _ _ _ h => h) (Or.inl ⟨by rfl, ?yu8⟩) (by assumption) ?qu8
                case yu8 => (intro w hSw; (try dsimp only at hSw); go_simp; try with_reducible rfl)
                simp only [Act.put, List.setIfInBounds_toArray, List.set_cons_zero, List.set_cons_succ]
                refine wpAnyH_take (i := 11) (oi := _) (v := ?vu9) rfl (by kernel_rfl) (by kernel_rfl) (by kernel_rfl) (fun _ _ _ h => h) (Or.inl ⟨by rfl, ?yu9⟩) (by assumption) ?qu9
                case yu9 => (intro w hSw; (try dsimp only at hSw); go_simp; try with_reducible rfl)
                simp only [Act.put, List.setIfInBounds_toArray, List.set_cons_zero, List.set_cons_succ]
                refine wpAnyH_take (i := 12) (oi := _) (v := ?vu10) rfl (by kernel_rfl) (by kernel_rfl) (by kernel_rfl) (fun _ _ _ h => h) (Or.inl ⟨by rfl, ?yu10⟩) (by assumption) ?qu10
                case yu10 => (intro w hSw; (try dsimp only at hSw); go_simp; try with_reducible rfl)
                simp only [Act.put, List.setIfInBounds_toArray, List.set_cons_zero, List.set_cons_succ]
                refine wpAnyH_ready (rs := [7, 13]) (by kernel_rfl) (by simp) ?_
                refine AllReadyH.cons (o := _) rfl (fun K hK => ?au37) (AllReadyH.cons (o := _) rfl (fun K hK => ?au38) (AllReadyH.nil))
                case au37 =>
                  go_simp
                  refine hK.out _ _ ?_ (fun hHeld => ?_)
                  · exact HSOF.out _ _ _ _ _ (HR.out.alloc' _)
                  clear hK K
                  simp only [Act.put, List.setIfInBounds_toArray, List.set_cons_zero, List.set_cons_succ]
                  refine anyH_gen (fun W => RB W m cb aB lB uB W6.heap.size b13 b18 μ' u u' x W6 gA gL gA A gL L ∧ Blk W W3.heap.size [.int .u32 x.w] ∧ b18 < W3.heap.size ∧ (W.cell? ⟨b18, 0, none⟩ = some (.int .i64 u'.a0) ∧ W.cell? ⟨b18, 1, none⟩ = some (.int .i64 u'.a1) ∧ W.cell? ⟨b18, 2, none⟩ = some (.int .i64 u'.a2) ∧ W.cell? ⟨b18, 3, none⟩ = some (.int .i64 u'.a3) ∧ W.cell? ⟨b18, 4, none⟩ = some (.int .i64 u'.a4) ∧ W.cell? ⟨b18, 5, none⟩ = some (.int .i64 u'.a5) ∧ W.cell? ⟨aB, j, none⟩ = some (.slice AA na ac) ∧ W.cell? ⟨lB, j, none⟩ = some (.slice LA n lc) ∧ W.cell? ⟨b13, 1, none⟩ = some (.int .u32 x.w))) ⟨HR.out.alloc' _, Blk.new W3 _ _, (by have := HR.out.h18.lt; omega), hHeld⟩ ?_
                  clear HR hHeld
                  rintro Wu11 ⟨hR, h86, l86, hHeld⟩
                  generalize W3.heap.size = b86 at *
                  have HR := hid hR
                  have H86 := hid (And.intro h86 l86)
                  clear hR h86 l86
                  refine wpAnyH_ready (rs := [8, 13]) (by kernel_rfl) (by simp) ?_
                  refine AllReadyH.cons (o := _) rfl (fun K hK => ?au26) (AllReadyH.cons (o := _) rfl (fun K hK => ?au27) (AllReadyH.nil))
                  case au26 =>
                    obtain ⟨i0, hi, hz0, hz1, hz2⟩ := info_parts Tryd.infoU
                    have hrow := HR.out.rowAlt j hj8 HGA'.out
                    refine step_append_lies _ (by rfl) _ _ 37 (by rfl) W6.heap.size 41 i0 (.int .u32 0) 1 4 Tryd.underlying37 hi hz0 hz1 hz2 rfl (by decide) (.slice AA na ac) na ((A j).map (Value.int .u32)) (by rfl) (HOWNA.out _ HR.out.famA) ⟨b86, 0, none⟩ 1 1 [.int .u32 x.w] (by rfl) rfl (by intro i v hv; rcases i with _ | i; (· have e : (.int .u32 x.w : Value) = v := (by simpa using hv); rw [← e]; exact H86.out.1.cell 0); (· simp at hv)) (by intro v hv; simp at hv; rw [hv]; rfl) (by decide) (by have := HNB.out; unfold maxLen; omega) (by have := HNB.out; omega) (by have := HR.out.size; omega) Wu11.heap.size rfl ?_
                    intro gA1 capA w1 hown hgrow hat hlt
                    have hRn := HR.out.appendA hj8 HGA'.out HNA.out hown hgrow hat
                    refine hK.out _ _ ?_ (fun hHeld => ?_)
                    · exact HSOF.out _ _ _ _ _ hRn
                    clear hK K
                    simp only [Act.put, List.setIfInBounds_toArray, List.set_cons_zero, List.set_cons_succ]
                    refine anyH_gen (fun W => RB W m cb aB lB uB W6.heap.size b13 b18 μ' u u' x W6 gA gL (updG gA j (.slice (some ⟨gA1, 0, none⟩) (na + 1) capA)) (updL A j x.w) gL L ∧ Blk W b86 [.int .u32 x.w] ∧ b18 < b86 ∧ (W.cell? ⟨b18, 0, none⟩ = some (.int .i64 u'.a0) ∧ W.cell? ⟨b18, 1, none⟩ = some (.int .i64 u'.a1) ∧ W.cell? ⟨b18, 2, none⟩ = some (.int .i64 u'.a2) ∧ W.cell? ⟨b18, 3, none⟩ = some (.int .i64 u'.a3) ∧ W.cell? ⟨b18, 4, none⟩ = some (.int .i64 u'.a4) ∧ W.cell? ⟨b18, 5, none⟩ = some (.int .i64 u'.a5) ∧ W.cell? ⟨aB, j, none⟩ = some (.slice AA na ac) ∧ W.cell? ⟨lB, j, none⟩ = some (.slice LA n lc) ∧ W.cell? ⟨b13, 1, none⟩ = some (.int .u32 x.w))) ⟨hRn, H86.out.1.grown hgrow (fun e => by have := hrow _ e.symm; have := H86.out.2; omega), H86.out.2, hHeld⟩ ?_
                    clear HR H86 hHeld hRn hgrow hown hat hlt hrow hi hz0 hz1 hz2 i0
                    rintro Wu12 ⟨hR, h86, l86, hHeld⟩
                    have HR := hid hR
                    have H86 := hid (And.intro h86 l86)
                    clear hR h86 l86
                    refine wpAnyH_take (i := 16) (oi := _) (v := ?vu13) rfl (by kernel_rfl) (by kernel_rfl) (by kernel_rfl) (fun _ _ _ h => h) (Or.inl ⟨by rfl, ?yu13⟩) (by assumption) ?qu13
                    case yu13 => (intro w hSw; (try dsimp only at hSw); go_simp; try with_reducible rfl)
                    simp only [Act.put, List.setIfInBounds_toArray, List.set_cons_zero, List.set_cons_succ]
                    refine wpAnyH_ready (rs := [13]) (by kernel_rfl) (by simp) ?_
                    refine AllReadyH.cons (o := _) rfl (fun K hK => ?au18) (AllReadyH.nil)
                    go_simp
                    refine hK.out _ _ ?_ (fun hHeld => ?_)
                    · exact HSOF.out _ _ _ _ _ (HR.out.alloc' _)
                    clear hK K
                    simp only [Act.put, List.setIfInBounds_toArray, List.set_cons_zero, List.set_cons_succ]
                    refine anyH_gen (fun W => RB W m cb aB lB uB W6.heap.size b13 b18 μ' u u' x W6 gA gL (updG gA j (.slice (some ⟨gA1, 0, none⟩) (na + 1) capA)) (updL A j x.w) gL L ∧ Blk W b86 [.int .u32 x.w] ∧ b18 < b86 ∧ Blk W Wu12.heap.size [.int .i64 (t2 : Int)] ∧ b18 < Wu12.heap.size ∧ (W.cell? ⟨b18, 0, none⟩ = some (.int .i64 u'.a0) ∧ W.cell? ⟨b18, 1, none⟩ = some (.int .i64 u'.a1) ∧ W.cell? ⟨b18, 2, none⟩ = some (.int .i64 u'.a2) ∧ W.cell? ⟨b18, 3, none⟩ = some (.int .i64 u'.a3) ∧ W.cell? ⟨b18, 4, none⟩ = some (.int .i64 u'.a4) ∧ W.cell? ⟨b18, 5, none⟩ = some (.int .i64 u'.a5) ∧ W.cell? ⟨aB, j, none⟩ = some (.slice AA na ac) ∧ W.cell? ⟨lB, j, none⟩ = some (.slice LA n lc) ∧ W.cell? ⟨b13, 1, none⟩ = some (.int .u32 x.w))) ⟨HR.out.alloc' _, H86.out.1.alloc _, H86.out.2, Blk.new Wu12 _ _, (by have := HR.out.h18.lt; omega), hHeld⟩ ?_
                    clear HR H86 hHeld
                    rintro Wu14 ⟨hR, h86, l86, h92, l92, hHeld⟩
                    generalize Wu12.heap.size = b92 at *
                    have HR := hid hR
                    have H86 := hid (And.intro h86 l86)
                    have H92 := hid (And.intro h92 l92)
                    clear hR h86 l86 h92 l92
                    refine wpAnyH_ready (rs := [14]) (by kernel_rfl) (by simp) ?_
                    refine AllReadyH.cons (o := _) rfl (fun K hK => ?au17) (AllReadyH.nil)
                    obtain ⟨i0, hi, hz0, hz1, hz2⟩ := info_partsBk Tryd.infoBk
                    have hrow := HR.out.rowLlt j hj8 HGL'.out
                    refine step_append_lies _ (by rfl) _ _ 39 (by rfl) W6.heap.size 3 i0 (.int .i64 0) 1 8 Tryd.underlying39 hi hz0 hz1 hz2 rfl (by decide) (.slice LA n lc) n ((L j).map (Value.int .i64)) (by rfl) (HOWNL.out _ HR.out.famL) ⟨b92, 0, none⟩ 1 1 [.int .i64 (t2 : Int)] (by rfl) rfl (by intro i v hv; rcases i with _ | i; (· have e : (.int .i64 (t2 : Int) : Value) = v := (by simpa using hv); rw [← e]; exact H92.out.1.cell 0); (· simp at hv)) (by intro v hv; simp at hv; rw [hv]; rfl) (by decide) (by have := HNB.out; unfold maxLen; omega) (by have := HNB.out; omega) (by have := HR.out.size; omega) Wu14.heap.size rfl ?_
                    intro gL1 capL w1 hown hgrow hat hlt
                    have hRn := HR.out.appendL hj8 HGL'.out HN.out hown hgrow hat
                    refine hK.out _ _ ?_ (fun hHeld => ?_)
                    · exact HSOF.out _ _ _ _ _ hRn
                    clear hK K
                    simp only [Act.put, List.setIfInBounds_toArray, List.set_cons_zero, List.set_cons_succ]
                    refine anyH_gen (fun W => RB W m cb aB lB uB W6.heap.size b13 b18 μ' u u' x W6 gA gL (updG gA j (.slice (some ⟨gA1, 0, none⟩) (na + 1) capA)) (updL A j x.w) (updG gL j (.slice (some ⟨gL1, 0, none⟩) (n + 1) capL)) (updL L j (t2 : Int)) ∧ Blk W b86 [.int .u32 x.w] ∧ b18 < b86 ∧ Blk W b92 [.int .i64 (t2 : Int)] ∧ b18 < b92 ∧ (W.cell? ⟨b18, 0, none⟩ = some (.int .i64 u'.a0) ∧ W.cell? ⟨b18, 1, none⟩ = some (.int .i64 u'.a1) ∧ W.cell? ⟨b18, 2, none⟩ = some (.int .i64 u'.a2) ∧ W.cell? ⟨b18, 3, none⟩ = some (.int .i64 u'.a3) ∧ W.cell? ⟨b18, 4, none⟩ = some (.int .i64 u'.a4) ∧ W.cell? ⟨b18, 5, none⟩ = some (.int .i64 u'.a5) ∧ W.cell? ⟨aB, j, none⟩ = some (.slice AA na ac) ∧ W.cell? ⟨lB, j, none⟩ = some (.slice LA n lc) ∧ W.cell? ⟨b13, 1, none⟩ = some (.int .u32 x.w))) ⟨hRn, H86.out.1.grown hgrow (fun e => by have := hrow _ e.symm; have := H86.out.2; omega), H86.out.2, H92.out.1.grown hgrow (fun e => by have := hrow _ e.symm; have := H92.out.2; omega), H92.out.2, hHeld⟩ ?_
                    clear HR H86 H92 hHeld hRn hgrow hown hat hlt hrow hi hz0 hz1 hz2 i0
                    rintro Wu15 ⟨hR, h86, l86, h92, l92, hHeld⟩
                    have HR := hid hR
                    have H86 := hid (And.intro h86 l86)
                    have H92 := hid (And.intro h92 l92)
                    clear hR h86 l86 h92 l92
                    refine wpAnyH_done (by kernel_rfl) ?_ _
                    simp only [Behind, List.length_cons, List.length_nil, Nat.reduceAdd, Nat.reduceSub]
                    have hA := HR.out.blkA.cell j
                    rw [g8_get gA hj8] at hA
                    have fA := HR.out.blkA.free j
                    have hL := HR.out.blkL.cell j
                    rw [g8_get gL hj8] at hL
                    have fL := HR.out.blkL.free j
                    have hU := HR.out.blkU
                    have e0 := (hU).cell 0
                    have e1 := (hU).cell 1
                    have e2 := (hU).cell 2
                    have e3 := (hU).cell 3
                    have e4 := (hU).cell 4
                    have e5 := (hU).cell 5
                    simp only [List.getElem?_cons_zero, List.getElem?_cons_succ] at e0 e1 e2 e3 e4 e5
                    have f0 := (hU).free 0
                    have f1 := (hU).free 1
                    have f2 := (hU).free 2
                    have f3 := (hU).free 3
                    have f4 := (hU).free 4
                    have f5 := (hU).free 5
                    obtain ⟨z0, z1, z2, z3, z4, z5, -, -, -⟩ := hHeld
                    have hHeld := And.intro z0 (And.intro z1 (And.intro z2 (And.intro z3 (And.intro z4 z5))))
                    clear z0 z1 z2 z3 z4 z5 hU
                    refine wpAnyH_ready (rs := [17]) (by kernel_rfl) (by simp) ?_
                    refine AllReadyH.cons (o := _) rfl (fun K hK => ?_) AllReadyH.nil
                    go_simp
                    refine hK.out _ _ ?_ (fun hHeld => ?_)
                    · go_keep
                    clear hK K
                    try simp only [Act.put, List.setIfInBounds_toArray, List.set_cons_zero, List.set_cons_succ]
                    refine wpAnyH_take (i := 18) (oi := _) (v := ?vu16) rfl (by kernel_rfl) (by kernel_rfl) (by kernel_rfl) (fun _ _ _ h => h) (Or.inl ⟨by rfl, ?yu16⟩) (by assumption) ?qu16
                    case yu16 => (intro w hSw; (try dsimp only at hSw); go_simp; try with_reducible rfl)
                    simp only [Act.put, List.setIfInBounds_toArray, List.set_cons_zero, List.set_cons_succ]
                    refine wpAnyH_ready (rs := [19]) (by kernel_rfl) (by simp) ?_
                    refine AllReadyH.cons (o := _) rfl (fun K hK => ?_) AllReadyH.nil
                    go_simp
                    refine hK.out _ _ ?_ (fun hHeld => ?_)
                    · go_keep
                    clear hK K
                    try simp only [Act.put, List.setIfInBounds_toArray, List.set_cons_zero, List.set_cons_succ]
                    refine wpAnyH_ready (rs := [20]) (by kernel_rfl) (by simp) ?_
                    refine AllReadyH.cons (o := _) rfl (fun K hK => ?_) AllReadyH.nil
                    go_simp
                    refine hK.out _ _ ?_ (fun hHeld => ?_)
                    · go_keep
                    clear hK K
                    try simp only [Act.put, List.setIfInBounds_toArray, List.set_cons_zero, List.set_cons_succ]
                    refine anyH_gen (fun W => PB W m cb aB lB uB W6.heap.size P μ' q' T' u' (updL A j x.w) (updL L j (t2 : Int)) (updG gA j (.slice (some ⟨gA1, 0, none⟩) (na + 1) capA)) (updG gL j (.slice (some ⟨gL1, 0, none⟩) (n + 1) capL)) ∧ Keeps (fun b => b < W6.heap.size ∧ b ≠ m ∧ b ≠ cb ∧ b ≠ aB ∧ b ≠ lB ∧ b ≠ uB) W6 W) (HR.out.done hj8 HPBI.out.1 HPBI.out.2.1 HPBI.out.2.2 HNQ.out) ?_
                    clear HR H86 H92 hHeld hA fA hL fL e0 e1 e2 e3 e4 e5 f0 f1 f2 f3 f4 f5
                    rintro WZ ⟨hPZ, hKZ⟩
                    refine wpAnyH_done (by kernel_rfl) ?_ _
                    have HN2 := hid (show PB WZ m cb aB lB uB W6.heap.size P μ' q' T' u' (updL A j x.w) (updL L j (t2 : Int)) (updG gA j (.slice (some ⟨gA1, 0, none⟩) (na + 1) capA)) (updG gL j (.slice (some ⟨gL1, 0, none⟩) (n + 1) capL)) ∧ (∀ i, (updL A j x.w i).length ≤ k + 1) ∧ Keeps (fun b => b < W6.heap.size ∧ b ≠ m ∧ b ≠ cb ∧ b ≠ aB ∧ b ≠ lB ∧ b ≠ uB) W6 WZ from ⟨hPZ, fun i => (by have h1 := HLE.out i; unfold updL; split <;> simp <;> omega), hKZ⟩)
                    clear hPZ hKZ
                    go_wp2_with fail
                    go_roundw
                    case rel => exact ⟨k + 1, μ', q', T', u', _, _, _, _, by go_num, by omega, by omega, HN2⟩
                    case measure => simp [intOf]; omega
                  case au27 =>
                    go_simp
                    refine hK.out _ _ ?_ (fun hHeld => ?_)
                    · exact HSOF.out _ _ _ _ _ (HR.out.alloc' _)
                    clear hK K
                    simp only [Act.put, List.setIfInBounds_toArray, List.set_cons_zero, List.set_cons_succ]
                    refine anyH_gen (fun W => RB W m cb aB lB uB W6.heap.size b13 b18 μ' u u' x W6 gA gL gA A gL L ∧ Blk W b86 [.int .u32 x.w] ∧ b18 < b86 ∧ Blk W Wu11.heap.size [.int .i64 (t2 : Int)] ∧ b18 < Wu11.heap.size ∧ (W.cell? ⟨b18, 0, none⟩ = some (.int .i64 u'.a0) ∧ W.cell? ⟨b18, 1, none⟩ = some (.int .i64 u'.a1) ∧ W.cell? ⟨b18, 2, none⟩ = some (.int .i64 u'.a2) ∧ W.cell? ⟨b18, 3, none⟩ = some (.int .i64 u'.a3) ∧ W.cell? ⟨b18, 4, none⟩ = some (.int .i64 u'.a4) ∧ W.cell? ⟨b18, 5, none⟩ = some (.int .i64 u'.a5) ∧ W.cell? ⟨aB, j, none⟩ = some (.slice AA na ac) ∧ W.cell? ⟨lB, j, none⟩ = some (.slice LA n lc) ∧ W.cell? ⟨b13, 1, none⟩ = some (.int .u32 x.w))) ⟨HR.out.alloc' _, H86.out.1.alloc _, H86.out.2, Blk.new Wu11 _ _, (by have := HR.out.h18.lt; omega), hHeld⟩ ?_
                    clear HR H86 hHeld
                    rintro Wu19 ⟨hR, h86, l86, h92, l92, hHeld⟩
                    generalize Wu11.heap.size = b92 at *
                    have HR := hid hR
                    have H86 := hid (And.intro h86 l86)
                    have H92 := hid (And.intro h92 l92)
                    clear hR h86 l86 h92 l92
                    refine wpAnyH_ready (rs := [8]) (by kernel_rfl) (by simp) ?_
                    refine AllReadyH.cons (o := _) rfl (fun K hK => ?au25) (AllReadyH.nil)
                    obtain ⟨i0, hi, hz0, hz1, hz2⟩ := info_parts Tryd.infoU
                    have hrow := HR.out.rowAlt j hj8 HGA'.out
                    refine step_append_lies _ (by rfl) _ _ 37 (by rfl) W6.heap.size 41 i0 (.int .u32 0) 1 4 Tryd.underlying37 hi hz0 hz1 hz2 rfl (by decide) (.slice AA na ac) na ((A j).map (Value.int .u32)) (by rfl) (HOWNA.out _ HR.out.famA) ⟨b86, 0, none⟩ 1 1 [.int .u32 x.w] (by rfl) rfl (by intro i v hv; rcases i with _ | i; (· have e : (.int .u32 x.w : Value) = v := (by simpa using hv); rw [← e]; exact H86.out.1.cell 0); (· simp at hv)) (by intro v hv; simp at hv; rw [hv]; rfl) (by decide) (by have := HNB.out; unfold maxLen; omega) (by have := HNB.out; omega) (by have := HR.out.size; omega) Wu19.heap.size rfl ?_
                    intro gA1 capA w1 hown hgrow hat hlt
                    have hRn := HR.out.appendA hj8 HGA'.out HNA.out hown hgrow hat
                    refine hK.out _ _ ?_ (fun hHeld => ?_)
                    · exact HSOF.out _ _ _ _ _ hRn
                    clear hK K
                    simp only [Act.put, List.setIfInBounds_toArray, List.set_cons_zero, List.set_cons_succ]
                    refine anyH_gen (fun W => RB W m cb aB lB uB W6.heap.size b13 b18 μ' u u' x W6 gA gL (updG gA j (.slice (some ⟨gA1, 0, none⟩) (na + 1) capA)) (updL A j x.w) gL L ∧ Blk W b86 [.int .u32 x.w] ∧ b18 < b86 ∧ Blk W b92 [.int .i64 (t2 : Int)] ∧ b18 < b92 ∧ (W.cell? ⟨b18, 0, none⟩ = some (.int .i64 u'.a0) ∧ W.cell? ⟨b18, 1, none⟩ = some (.int .i64 u'.a1) ∧ W.cell? ⟨b18, 2, none⟩ = some (.int .i64 u'.a2) ∧ W.cell? ⟨b18, 3, none⟩ = some (.int .i64 u'.a3) ∧ W.cell? ⟨b18, 4, none⟩ = some (.int .i64 u'.a4) ∧ W.cell? ⟨b18, 5, none⟩ = some (.int .i64 u'.a5) ∧ W.cell? ⟨aB, j, none⟩ = some (.slice AA na ac) ∧ W.cell? ⟨lB, j, none⟩ = some (.slice LA n lc) ∧ W.cell? ⟨b13, 1, none⟩ = some (.int .u32 x.w))) ⟨hRn, H86.out.1.grown hgrow (fun e => by have := hrow _ e.symm; have := H86.out.2; omega), H86.out.2, H92.out.1.grown hgrow (fun e => by have := hrow _ e.symm; have := H92.out.2; omega), H92.out.2, hHeld⟩ ?_
                    clear HR H86 H92 hHeld hRn hgrow hown hat hlt hrow hi hz0 hz1 hz2 i0
                    rintro Wu20 ⟨hR, h86, l86, h92, l92, hHeld⟩
                    have HR := hid hR
                    have H86 := hid (And.intro h86 l86)
                    have H92 := hid (And.intro h92 l92)
                    clear hR h86 l86 h92 l92
                    refine wpAnyH_take (i := 16) (oi := _) (v := ?vu21) rfl (by kernel_rfl) (by kernel_rfl) (by kernel_rfl) (fun _ _ _ h => h) (Or.inl ⟨by rfl, ?yu21⟩) (by assumption) ?qu21
                    case yu21 => (intro w hSw; (try dsimp only at hSw); go_simp; try with_reducible rfl)
                    simp only [Act.put, List.setIfInBounds_toArray, List.set_cons_zero, List.set_cons_succ]
                    refine wpAnyH_ready (rs := [14]) (by kernel_rfl) (by simp) ?_
                    refine AllReadyH.cons (o := _) rfl (fun K hK => ?au24) (AllReadyH.nil)
                    obtain ⟨i0, hi, hz0, hz1, hz2⟩ := info_partsBk Tryd.infoBk
                    have hrow := HR.out.rowLlt j hj8 HGL'.out
                    refine step_append_lies _ (by rfl) _ _ 39 (by rfl) W6.heap.size 3 i0 (.int .i64 0) 1 8 Tryd.underlying39 hi hz0 hz1 hz2 rfl (by decide) (.slice LA n lc) n ((L j).map (Value.int .i64)) (by rfl) (HOWNL.out _ HR.out.famL) ⟨b92, 0, none⟩ 1 1 [.int .i64 (t2 : Int)] (by rfl) rfl (by intro i v hv; rcases i with _ | i; (· have e : (.int .i64 (t2 : Int) : Value) = v := (by simpa using hv); rw [← e]; exact H92.out.1.cell 0); (· simp at hv)) (by intro v hv; simp at hv; rw [hv]; rfl) (by decide) (by have := HNB.out; unfold maxLen; omega) (by have := HNB.out; omega) (by have := HR.out.size; omega) Wu20.heap.size rfl ?_
                    intro gL1 capL w1 hown hgrow hat hlt
                    have hRn := HR.out.appendL hj8 HGL'.out HN.out hown hgrow hat
                    refine hK.out _ _ ?_ (fun hHeld => ?_)
                    · exact HSOF.out _ _ _ _ _ hRn
                    clear hK K
                    simp only [Act.put, List.setIfInBounds_toArray, List.set_cons_zero, List.set_cons_succ]
                    refine anyH_gen (fun W => RB W m cb aB lB uB W6.heap.size b13 b18 μ' u u' x W6 gA gL (updG gA j (.slice (some ⟨gA1, 0, none⟩) (na + 1) capA)) (updL A j x.w) (updG gL j (.slice (some ⟨gL1, 0, none⟩) (n + 1) capL)) (updL L j (t2 : Int)) ∧ Blk W b86 [.int .u32 x.w] ∧ b18 < b86 ∧ Blk W b92 [.int .i64 (t2 : Int)] ∧ b18 < b92 ∧ (W.cell? ⟨b18, 0, none⟩ = some (.int .i64 u'.a0) ∧ W.cell? ⟨b18, 1, none⟩ = some (.int .i64 u'.a1) ∧ W.cell? ⟨b18, 2, none⟩ = some (.int .i64 u'.a2) ∧ W.cell? ⟨b18, 3, none⟩ = some (.int .i64 u'.a3) ∧ W.cell? ⟨b18, 4, none⟩ = some (.int .i64 u'.a4) ∧ W.cell? ⟨b18, 5, none⟩ = some (.int .i64 u'.a5) ∧ W.cell? ⟨aB, j, none⟩ = some (.slice AA na ac) ∧ W.cell? ⟨lB, j, none⟩ = some (.slice LA n lc) ∧ W.cell? ⟨b13, 1, none⟩ = some (.int .u32 x.w))) ⟨hRn, H86.out.1.grown hgrow (fun e => by have := hrow _ e.symm; have := H86.out.2; omega), H86.out.2, H92.out.1.grown hgrow (fun e => by have := hrow _ e.symm; have := H92.out.2; omega), H92.out.2, hHeld⟩ ?_
                    clear HR H86 H92 hHeld hRn hgrow hown hat hlt hrow hi hz0 hz1 hz2 i0
                    rintro Wu22 ⟨hR, h86, l86, h92, l92, hHeld⟩
                    have HR := hid hR
                    have H86 := hid (And.intro h86 l86)
                    have H92 := hid (And.intro h92 l92)
                    clear hR h86 l86 h92 l92
                    refine wpAnyH_done (by kernel_rfl) ?_ _
                    simp only [Behind, List.length_cons, List.length_nil, Nat.reduceAdd, Nat.reduceSub]
                    have hA := HR.out.blkA.cell j
                    rw [g8_get gA hj8] at hA
                    have fA := HR.out.blkA.free j
                    have hL := HR.out.blkL.cell j
                    rw [g8_get gL hj8] at hL
                    have fL := HR.out.blkL.free j
                    have hU := HR.out.blkU
                    have e0 := (hU).cell 0
                    have e1 := (hU).cell 1
                    have e2 := (hU).cell 2
                    have e3 := (hU).cell 3
                    have e4 := (hU).cell 4
                    have e5 := (hU).cell 5
                    simp only [List.getElem?_cons_zero, List.getElem?_cons_succ] at e0 e1 e2 e3 e4 e5
                    have f0 := (hU).free 0
                    have f1 := (hU).free 1
                    have f2 := (hU).free 2
                    have f3 := (hU).free 3
                    have f4 := (hU).free 4
                    have f5 := (hU).free 5
                    obtain ⟨z0, z1, z2, z3, z4, z5, -, -, -⟩ := hHeld
                    have hHeld := And.intro z0 (And.intro z1 (And.intro z2 (And.intro z3 (And.intro z4 z5))))
                    clear z0 z1 z2 z3 z4 z5 hU
                    refine wpAnyH_ready (rs := [17]) (by kernel_rfl) (by simp) ?_
                    refine AllReadyH.cons (o := _) rfl (fun K hK => ?_) AllReadyH.nil
                    go_simp
                    refine hK.out _ _ ?_ (fun hHeld => ?_)
                    · go_keep
                    clear hK K
                    try simp only [Act.put, List.setIfInBounds_toArray, List.set_cons_zero, List.set_cons_succ]
                    refine wpAnyH_take (i := 18) (oi := _) (v := ?vu23) rfl (by kernel_rfl) (by kernel_rfl) (by kernel_rfl) (fun _ _ _ h => h) (Or.inl ⟨by rfl, ?yu23⟩) (by assumption) ?qu23
                    case yu23 => (intro w hSw; (try dsimp only at hSw); go_simp; try with_reducible rfl)
                    simp only [Act.put, List.setIfInBounds_toArray, List.set_cons_zero, List.set_cons_succ]
                    refine wpAnyH_ready (rs := [19]) (by kernel_rfl) (by simp) ?_
                    refine AllReadyH.cons (o := _) rfl (fun K hK => ?_) AllReadyH.nil
                    go_simp
                    refine hK.out _ _ ?_ (fun hHeld => ?_)
                    · go_keep
                    clear hK K
                    try simp only [Act.put, List.setIfInBounds_toArray, List.set_cons_zero, List.set_cons_succ]
                    refine wpAnyH_ready (rs := [20]) (by kernel_rfl) (by simp) ?_
                    refine AllReadyH.cons (o := _) rfl (fun K hK => ?_) AllReadyH.nil
                    go_simp
                    refine hK.out _ _ ?_ (fun hHeld => ?_)
                    · go_keep
                    clear hK K
                    try simp only [Act.put, List.setIfInBounds_toArray, List.set_cons_zero, List.set_cons_succ]
                    refine anyH_gen (fun W => PB W m cb aB lB uB W6.heap.size P μ' q' T' u' (updL A j x.w) (updL L j (t2 : Int)) (updG gA j (.slice (some ⟨gA1, 0, none⟩) (na + 1) capA)) (updG gL j (.slice (some ⟨gL1, 0, none⟩) (n + 1) capL)) ∧ Keeps (fun b => b < W6.heap.size ∧ b ≠ m ∧ b ≠ cb ∧ b ≠ aB ∧ b ≠ lB ∧ b ≠ uB) W6 W) (HR.out.done hj8 HPBI.out.1 HPBI.out.2.1 HPBI.out.2.2 HNQ.out) ?_
                    clear HR H86 H92 hHeld hA fA hL fL e0 e1 e2 e3 e4 e5 f0 f1 f2 f3 f4 f5
                    rintro WZ ⟨hPZ, hKZ⟩
                    refine wpAnyH_done (by kernel_rfl) ?_ _
                    have HN2 := hid (show PB WZ m cb aB lB uB W6.heap.size P μ' q' T' u' (updL A j x.w) (updL L j (t2 : Int)) (updG gA j (.slice (some ⟨gA1, 0, none⟩) (na + 1) capA)) (updG gL j (.slice (some ⟨gL1, 0, none⟩) (n + 1) capL)) ∧ (∀ i, (updL A j x.w i).length ≤ k + 1) ∧ Keeps (fun b => b < W6.heap.size ∧ b ≠ m ∧ b ≠ cb ∧ b ≠ aB ∧ b ≠ lB ∧ b ≠ uB) W6 WZ from ⟨hPZ, fun i => (by have h1 := HLE.out i; unfold updL; split <;> simp <;> omega), hKZ⟩)
                    clear hPZ hKZ
                    go_wp2_with fail
                    go_roundw
                    case rel => exact ⟨k + 1, μ', q', T', u', _, _, _, _, by go_num, by omega, by omega, HN2⟩
                    case measure => simp [intOf]; omega
                case au38 =>
                  go_simp
                  refine hK.out _ _ ?_ (fun hHeld => ?_)
                  · exact HSOF.out _ _ _ _ _ (HR.out.alloc' _)
                  clear hK K
                  simp only [Act.put, List.setIfInBounds_toArray, List.set_cons_zero, List.set_cons_succ]
                  refine anyH_gen (fun W => RB W m cb aB lB uB W6.heap.size b13 b18 μ' u u' x W6 gA gL gA A gL L ∧ Blk W W3.heap.size [.int .i64 (t2 : Int)] ∧ b18 < W3.heap.size ∧ (W.cell? ⟨b18, 0, none⟩ = some (.int .i64 u'.a0) ∧ W.cell? ⟨b18, 1, none⟩ = some (.int .i64 u'.a1) ∧ W.cell? ⟨b18, 2, none⟩ = some (.int .i64 u'.a2) ∧ W.cell? ⟨b18, 3, none⟩ = some (.int .i64 u'.a3) ∧ W.cell? ⟨b18, 4, none⟩ = some (.int .i64 u'.a4) ∧ W.cell? ⟨b18, 5, none⟩ = some (.int .i64 u'.a5) ∧ W.cell? ⟨aB, j, none⟩ = some (.slice AA na ac) ∧ W.cell? ⟨lB, j, none⟩ = some (.slice LA n lc) ∧ W.cell? ⟨b13, 1, none⟩ = some (.int .u32 x.w))) ⟨HR.out.alloc' _, Blk.new W3 _ _, (by have := HR.out.h18.lt; omega), hHeld⟩ ?_
                  clear HR hHeld
                  rintro Wu28 ⟨hR, h92, l92, hHeld⟩
                  generalize W3.heap.size = b92 at *
                  have HR := hid hR
                  have H92 := hid (And.intro h92 l92)
                  clear hR h92 l92
                  refine wpAnyH_ready (rs := [7]) (by kernel_rfl) (by simp) ?_
                  refine AllReadyH.cons (o := _) rfl (fun K hK => ?au36) (AllReadyH.nil)
                  go_simp
                  refine hK.out _ _ ?_ (fun hHeld => ?_)
                  · exact HSOF.out _ _ _ _ _ (HR.out.alloc' _)
                  clear hK K
                  simp only [Act.put, List.setIfInBounds_toArray, List.set_cons_zero, List.set_cons_succ]
                  refine anyH_gen (fun W => RB W m cb aB lB uB W6.heap.size b13 b18 μ' u u' x W6 gA gL gA A gL L ∧ Blk W Wu28.heap.size [.int .u32 x.w] ∧ b18 < Wu28.heap.size ∧ Blk W b92 [.int .i64 (t2 : Int)] ∧ b18 < b92 ∧ (W.cell? ⟨b18, 0, none⟩ = some (.int .i64 u'.a0) ∧ W.cell? ⟨b18, 1, none⟩ = some (.int .i64 u'.a1) ∧ W.cell? ⟨b18, 2, none⟩ = some (.int .i64 u'.a2) ∧ W.cell? ⟨b18, 3, none⟩ = some (.int .i64 u'.a3) ∧ W.cell? ⟨b18, 4, none⟩ = some (.int .i64 u'.a4) ∧ W.cell? ⟨b18, 5, none⟩ = some (.int .i64 u'.a5) ∧ W.cell? ⟨aB, j, none⟩ = some (.slice AA na ac) ∧ W.cell? ⟨lB, j, none⟩ = some (.slice LA n lc) ∧ W.cell? ⟨b13, 1, none⟩ = some (.int .u32 x.w))) ⟨HR.out.alloc' _, Blk.new Wu28 _ _, (by have := HR.out.h18.lt; omega), H92.out.1.alloc _, H92.out.2, hHeld⟩ ?_
                  clear HR H92 hHeld
                  rintro Wu29 ⟨hR, h86, l86, h92, l92, hHeld⟩
                  generalize Wu28.heap.size = b86 at *
                  have HR := hid hR
                  have H86 := hid (And.intro h86 l86)
                  have H92 := hid (And.intro h92 l92)
                  clear hR h86 l86 h92 l92
                  refine wpAnyH_ready (rs := [8]) (by kernel_rfl) (by simp) ?_
                  refine AllReadyH.cons (o := _) rfl (fun K hK => ?au35) (AllReadyH.nil)
                  obtain ⟨i0, hi, hz0, hz1, hz2⟩ := info_parts Tryd.infoU
                  have hrow := HR.out.rowAlt j hj8 HGA'.out
                  refine step_append_lies _ (by rfl) _ _ 37 (by rfl) W6.heap.size 41 i0 (.int .u32 0) 1 4 Tryd.underlying37 hi hz0 hz1 hz2 rfl (by decide) (.slice AA na ac) na ((A j).map (Value.int .u32)) (by rfl) (HOWNA.out _ HR.out.famA) ⟨b86, 0, none⟩ 1 1 [.int .u32 x.w] (by rfl) rfl (by intro i v hv; rcases i with _ | i; (· have e : (.int .u32 x.w : Value) = v := (by simpa using hv); rw [← e]; exact H86.out.1.cell 0); (· simp at hv)) (by intro v hv; simp at hv; rw [hv]; rfl) (by decide) (by have := HNB.out; unfold maxLen; omega) (by have := HNB.out; omega) (by have := HR.out.size; omega) Wu29.heap.size rfl ?_
                  intro gA1 capA w1 hown hgrow hat hlt
                  have hRn := HR.out.appendA hj8 HGA'.out HNA.out hown hgrow hat
                  refine hK.out _ _ ?_ (fun hHeld => ?_)
                  · exact HSOF.out _ _ _ _ _ hRn
                  clear hK K
                  simp only [Act.put, List.setIfInBounds_toArray, List.set_cons_zero, List.set_cons_succ]
                  refine anyH_gen (fun W => RB W m cb aB lB uB W6.heap.size b13 b18 μ' u u' x W6 gA gL (updG gA j (.slice (some ⟨gA1, 0, none⟩) (na + 1) capA)) (updL A j x.w) gL L ∧ Blk W b86 [.int .u32 x.w] ∧ b18 < b86 ∧ Blk W b92 [.int .i64 (t2 : Int)] ∧ b18 < b92 ∧ (W.cell? ⟨b18, 0, none⟩ = some (.int .i64 u'.a0) ∧ W.cell? ⟨b18, 1, none⟩ = some (.int .i64 u'.a1) ∧ W.cell? ⟨b18, 2, none⟩ = some (.int .i64 u'.a2) ∧ W.cell? ⟨b18, 3, none⟩ = some (.int .i64 u'.a3) ∧ W.cell? ⟨b18, 4, none⟩ = some (.int .i64 u'.a4) ∧ W.cell? ⟨b18, 5, none⟩ = some (.int .i64 u'.a5) ∧ W.cell? ⟨aB, j, none⟩ = some (.slice AA na ac) ∧ W.cell? ⟨lB, j, none⟩ = some (.slice LA n lc) ∧ W.cell? ⟨b13, 1, none⟩ = some (.int .u32 x.w))) ⟨hRn, H86.out.1.grown hgrow (fun e => by have := hrow _ e.symm; have := H86.out.2; omega), H86.out.2, H92.out.1.grown hgrow (fun e => by have := hrow _ e.symm; have := H92.out.2; omega), H92.out.2, hHeld⟩ ?_
                  clear HR H86 H92 hHeld hRn hgrow hown hat hlt hrow hi hz0 hz1 hz2 i0
                  rintro Wu30 ⟨hR, h86, l86, h92, l92, hHeld⟩
                  have HR := hid hR
                  have H86 := hid (And.intro h86 l86)
                  have H92 := hid (And.intro h92 l92)
                  clear hR h86 l86 h92 l92
                  refine wpAnyH_take (i := 16) (oi := _) (v := ?vu31) rfl (by kernel_rfl) (by kernel_rfl) (by kernel_rfl) (fun _ _ _ h => h) (Or.inl ⟨by rfl, ?yu31⟩) (by assumption) ?qu31
                  case yu31 => (intro w hSw; (try dsimp only at hSw); go_simp; try with_reducible rfl)
                  simp only [Act.put, List.setIfInBounds_toArray, List.set_cons_zero, List.set_cons_succ]
                  refine wpAnyH_ready (rs := [14]) (by kernel_rfl) (by simp) ?_
                  refine AllReadyH.cons (o := _) rfl (fun K hK => ?au34) (AllReadyH.nil)
                  obtain ⟨i0, hi, hz0, hz1, hz2⟩ := info_partsBk Tryd.infoBk
                  have hrow := HR.out.rowLlt j hj8 HGL'.out
                  refine step_append_lies _ (by rfl) _ _ 39 (by rfl) W6.heap.size 3 i0 (.int .i64 0) 1 8 Tryd.underlying39 hi hz0 hz1 hz2 rfl (by decide) (.slice LA n lc) n ((L j).map (Value.int .i64)) (by rfl) (HOWNL.out _ HR.out.famL) ⟨b92, 0, none⟩ 1 1 [.int .i64 (t2 : Int)] (by rfl) rfl (by intro i v hv; rcases i with _ | i; (· have e : (.int .i64 (t2 : Int) : Value) = v := (by simpa using hv); rw [← e]; exact H92.out.1.cell 0); (· simp at hv)) (by intro v hv; simp at hv; rw [hv]; rfl) (by decide) (by have := HNB.out; unfold maxLen; omega) (by have := HNB.out; omega) (by have := HR.out.size; omega) Wu30.heap.size rfl ?_
                  intro gL1 capL w1 hown hgrow hat hlt
                  have hRn := HR.out.appendL hj8 HGL'.out HN.out hown hgrow hat
                  refine hK.out _ _ ?_ (fun hHeld => ?_)
                  · exact HSOF.out _ _ _ _ _ hRn
                  clear hK K
                  simp only [Act.put, List.setIfInBounds_toArray, List.set_cons_zero, List.set_cons_succ]
                  refine anyH_gen (fun W => RB W m cb aB lB uB W6.heap.size b13 b18 μ' u u' x W6 gA gL (updG gA j (.slice (some ⟨gA1, 0, none⟩) (na + 1) capA)) (updL A j x.w) (updG gL j (.slice (some ⟨gL1, 0, none⟩) (n + 1) capL)) (updL L j (t2 : Int)) ∧ Blk W b86 [.int .u32 x.w] ∧ b18 < b86 ∧ Blk W b92 [.int .i64 (t2 : Int)] ∧ b18 < b92 ∧ (W.cell? ⟨b18, 0, none⟩ = some (.int .i64 u'.a0) ∧ W.cell? ⟨b18, 1, none⟩ = some (.int .i64 u'.a1) ∧ W.cell? ⟨b18, 2, none⟩ = some (.int .i64 u'.a2) ∧ W.cell? ⟨b18, 3, none⟩ = some (.int .i64 u'.a3) ∧ W.cell? ⟨b18, 4, none⟩ = some (.int .i64 u'.a4) ∧ W.cell? ⟨b18, 5, none⟩ = some (.int .i64 u'.a5) ∧ W.cell? ⟨aB, j, none⟩ = some (.slice AA na ac) ∧ W.cell? ⟨lB, j, none⟩ = some (.slice LA n lc) ∧ W.cell? ⟨b13, 1, none⟩ = some (.int .u32 x.w))) ⟨hRn, H86.out.1.grown hgrow (fun e => by have := hrow _ e.symm; have := H86.out.2; omega), H86.out.2, H92.out.1.grown hgrow (fun e => by have := hrow _ e.symm; have := H92.out.2; omega), H92.out.2, hHeld⟩ ?_
                  clear HR H86 H92 hHeld hRn hgrow hown hat hlt hrow hi hz0 hz1 hz2 i0
                  rintro Wu32 ⟨hR, h86, l86, h92, l92, hHeld⟩
                  have HR := hid hR
                  have H86 := hid (And.intro h86 l86)
                  have H92 := hid (And.intro h92 l92)
                  clear hR h86 l86 h92 l92
                  refine wpAnyH_done (by kernel_rfl) ?_ _
                  simp only [Behind, List.length_cons, List.length_nil, Nat.reduceAdd, Nat.reduceSub]
                  have hA := HR.out.blkA.cell j
                  rw [g8_get gA hj8] at hA
                  have fA := HR.out.blkA.free j
                  have hL := HR.out.blkL.cell j
                  rw [g8_get gL hj8] at hL
                  have fL := HR.out.blkL.free j
                  have hU := HR.out.blkU
                  have e0 := (hU).cell 0
                  have e1 := (hU).cell 1
                  have e2 := (hU).cell 2
                  have e3 := (hU).cell 3
                  have e4 := (hU).cell 4
                  have e5 := (hU).cell 5
                  simp only [List.getElem?_cons_zero, List.getElem?_cons_succ] at e0 e1 e2 e3 e4 e5
                  have f0 := (hU).free 0
                  have f1 := (hU).free 1
                  have f2 := (hU).free 2
                  have f3 := (hU).free 3
                  have f4 := (hU).free 4
                  have f5 := (hU).free 5
                  obtain ⟨z0, z1, z2, z3, z4, z5, -, -, -⟩ := hHeld
                  have hHeld := And.intro z0 (And.intro z1 (And.intro z2 (And.intro z3 (And.intro z4 z5))))
                  clear z0 z1 z2 z3 z4 z5 hU
                  refine wpAnyH_ready (rs := [17]) (by kernel_rfl) (by simp) ?_
                  refine AllReadyH.cons (o := _) rfl (fun K hK => ?_) AllReadyH.nil
                  go_simp
                  refine hK.out _ _ ?_ (fun hHeld => ?_)
                  · go_keep
                  clear hK K
                  try simp only [Act.put, List.setIfInBounds_toArray, List.set_cons_zero, List.set_cons_succ]
                  refine wpAnyH_take (i := 18) (oi := _) (v := ?vu33) rfl (by kernel_rfl) (by kernel_rfl) (by kernel_rfl) (fun _ _ _ h => h) (Or.inl ⟨by rfl, ?yu33⟩) (by assumption) ?qu33
                  case yu33 => (intro w hSw; (try dsimp only at hSw); go_simp; try with_reducible rfl)
                  simp only [Act.put, List.setIfInBounds_toArray, List.set_cons_zero, List.set_cons_succ]
                  refine wpAnyH_ready (rs := [19]) (by kernel_rfl) (by simp) ?_
                  refine AllReadyH.cons (o := _) rfl (fun K hK => ?_) AllReadyH.nil
                  go_simp
                  refine hK.out _ _ ?_ (fun hHeld => ?_)
                  · go_keep
                  clear hK K
                  try simp only [Act.put, List.setIfInBounds_toArray, List.set_cons_zero, List.set_cons_succ]
                  refine wpAnyH_ready (rs := [20]) (by kernel_rfl) (by simp) ?_
                  refine AllReadyH.cons (o := _) rfl (fun K hK => ?_) AllReadyH.nil
                  go_simp
                  refine hK.out _ _ ?_ (fun hHeld => ?_)
                  · go_keep
                  clear hK K
                  try simp only [Act.put, List.setIfInBounds_toArray, List.set_cons_zero, List.set_cons_succ]
                  refine anyH_gen (fun W => PB W m cb aB lB uB W6.heap.size P μ' q' T' u' (updL A j x.w) (updL L j (t2 : Int)) (updG gA j (.slice (some ⟨gA1, 0, none⟩) (na + 1) capA)) (updG gL j (.slice (some ⟨gL1, 0, none⟩) (n + 1) capL)) ∧ Keeps (fun b => b < W6.heap.size ∧ b ≠ m ∧ b ≠ cb ∧ b ≠ aB ∧ b ≠ lB ∧ b ≠ uB) W6 W) (HR.out.done hj8 HPBI.out.1 HPBI.out.2.1 HPBI.out.2.2 HNQ.out) ?_
                  clear HR H86 H92 hHeld hA fA hL fL e0 e1 e2 e3 e4 e5 f0 f1 f2 f3 f4 f5
                  rintro WZ ⟨hPZ, hKZ⟩
                  refine wpAnyH_done (by kernel_rfl) ?_ _
                  have HN2 := hid (show PB WZ m cb aB lB uB W6.heap.size P μ' q' T' u' (updL A j x.w) (updL L j (t2 : Int)) (updG gA j (.slice (some ⟨gA1, 0, none⟩) (na + 1) capA)) (updG gL j (.slice (some ⟨gL1, 0, none⟩) (n + 1) capL)) ∧ (∀ i, (updL A j x.w i).length ≤ k + 1) ∧ Keeps (fun b => b < W6.heap.size ∧ b ≠ m ∧ b ≠ cb ∧ b ≠ aB ∧ b ≠ lB ∧ b ≠ uB) W6 WZ from ⟨hPZ, fun i => (by have h1 := HLE.out i; unfold updL; split <;> simp <;> omega), hKZ⟩)
                  clear hPZ hKZ
                  go_wp2_with fail
                  go_roundw
                  case rel => exact ⟨k + 1, μ', q', T', u', _, _, _, _, by go_num, by omega, by omega, HN2⟩
                  case measure => simp [intOf]; omega
              · clear HDET
                have hcon := hput wc (fun b => b < wc.heap.size ∧ b ≠ m ∧ b ≠ cb) m cb μ rfl HPB1.out.mem (fun h => h.2.1 rfl) (fun h => h.2.2 rfl) (fun b hb => hb.1) ⟨by have := HNN.out; have := HZ.out; omega, by have := HNN.out; omega, by have := HNN.out; omega⟩ (HT.out.keep (HKwW.out.trans (Hkk1.out.mono HGW.out)) HNN.out.2.2.2.2.2.2.2)
                unfold PlanM.val V6.val at hcon
                unfold zeros6v at hcon
                clear hput hF
                have Hcon := hid hcon
                clear hcon
                go_wp2_with fail
                refine Hcon.out.mono ?_
                rintro e w2 ⟨rfl, ⟨μ', hm', hc'⟩, hk2⟩
                have hPB2 := HPB1.out.put hm' hc' hk2 (by have := HNN.out; omega) (by have := HNN.out; omega) (by have := HNN.out; omega) (by have := HNN.out; omega)
                have hkk2 := Hkk1.out.trans (hk2.mono fun b hb => ⟨by have := hb.1; have := HZ.out; omega, hb.2.1, hb.2.2.1⟩)
                have hal2 : Keeps (· < w2.heap.size) w2 (w2.alloc (.cells #[.int .i64 0, .int .i64 0, .int .i64 0, .int .i64 0, .int .i64 0, .int .i64 0] 27)) := (Keeps.refl _ _).alloc (fun b hb => hb) _
                have hPB3 := hPB2.keep hal2 hPB2.mem.obj.lt hPB2.mem.cells.lt hPB2.blkA.lt hPB2.blkL.lt hPB2.blkU.lt (fun b _ h => h)
                have hkk3 := hkk2.trans (hal2.mono fun b hb => by have := hkk2.size; have := hb.1; omega)
                have HN2 := hid (And.intro hPB3 (And.intro (show ∀ i, (A i).length ≤ k + 1 from fun i => by have := HLE.out i; omega) hkk3))
                clear hPB2 hPB3 hkk2 hkk3 hal2 hk2 hm' hc' HPB1 Hkk1 Hbp1 HB13 cp0 cp1 cp2 cp3 cp4 cp5 cp6 cp7 cp8 cp9 cp10 cp11 cp12 cp13 cp14 cu0 cu1 cu2 cu3 cu4 cu5 cf0 cf1 Hcon
                go_wp2_with fail
                go_roundw
                case rel => exact ⟨k + 1, μ', q, T, u, A, L, gA, gL, by go_num, by omega, by omega, HN2⟩
                case measure => simp [intOf]; omega
          · have h60b : (k : Int) > 60 := by omega
            have hal : Keeps (fun b => b < W6.heap.size ∧ b ≠ m ∧ b ≠ cb ∧ b ≠ aB ∧ b ≠ lB ∧ b ≠ uB) W6 (wr.alloc (.cells #[.int .u8 x.t, .int .u32 x.w] 43)) := HH.out.2.2.alloc (fun b hb => by have := HH.out.2.2.size; have := hb.1; omega) _
            have hal2 : Keeps (· < wr.heap.size) wr (wr.alloc (.cells #[.int .u8 x.t, .int .u32 x.w] 43)) := (Keeps.refl _ _).alloc (fun b hb => hb) _
            have hPB2 := HH.out.1.keep hal2 HH.out.1.mem.obj.lt HH.out.1.mem.cells.lt HH.out.1.blkA.lt HH.out.1.blkL.lt HH.out.1.blkU.lt (fun b _ h => h)
            have Hkw := hid hkw
            have Hal := hid hal
            have HPB2 := hid hPB2
            clear hkw hal hPB2
            clear hal2 hwf
            go_wp2_with fail
            go_meet
            case rel => exact ⟨μ, q, T, u, A, L, gA, gL, HPB2.out, fun j => by have := HH.out.2.1 j; omega, Hal.out⟩
        · have hlt' : ¬ (k : Int) < (ops.length : Int) := by omega
          go_wp2_with fail
          go_meet
          case rel => exact ⟨μ, q, T, u, A, L, gA, gL, HH.out.1, fun j => by have := HH.out.2.1 j; omega, HH.out.2.2⟩
    case rest =>
      obtain ⟨μ, q, T, u, A, L, gA, gL, hPB, hlen, hK⟩ := hcut
      have HH := hid (And.intro hPB hK)
      have hpw := HX.out.2.1.wf HX.out.1
      have hnc : p.cells = ((p.cells.toNat : Nat) : Int) := by have := HX.out.2.2.2.1; have := HX.out.2.2.2.2.2; omega
      have hn9 : p.cells.toNat ≤ 9000 := by have := HX.out.2.2.2.2.1; have := HX.out.2.2.2.2.2; omega
      have Hlen := hid hlen
      have Hpw := hid hpw
      have Hnc := hid hnc
      have Hn9 := hid hn9
      clear hlen hpw hnc hn9
      clear hPB hK HPB HSA HOA
      go_wp2_with fail
      go_loopw [98] (fun i wr => ∃ (k : Nat) (μ : MemS), i = .int .i64 (k : Int) ∧ k ≤ 8 ∧ Hid (PB wr m cb aB lB uB W6.heap.size P μ q T u A L gA gL ∧ Keeps (fun b => b < W6.heap.size ∧ b ≠ m ∧ b ≠ cb ∧ b ≠ aB ∧ b ≠ lB ∧ b ≠ uB) W6 wr)) (fun i _ => 8 - (intOf i).toNat)
      case atStart => exact ⟨0, μ, rfl, by omega, HH⟩
      case round =>
        clear HH
        obtain ⟨k, μ, rfl, hk, HH⟩ := hrel
        by_cases hk8 : k < 8
        · have hk8' : (k : Int) < 8 := by omega
          have hk0 : (0 : Int) ≤ (k : Int) := Int.natCast_nonneg k
          obtain ⟨LA, lc, hgl⟩ := own_form (HH.out.1.famL.own k hk8)
          obtain ⟨n, hn⟩ : ∃ n, n = (L k).length := ⟨_, rfl⟩
          rw [← hn] at hgl
          have hcL := HH.out.1.blkL.cell k
          rw [g8_get gL hk8, hgl] at hcL
          have hn100 : n ≤ 100 := by have := Hlen.out k; have := HH.out.1.inv.len k; omega
          have hn100' : (n : Int) ≤ 100 := by omega
          have HGL := hid hgl
          have HN := hid hn
          clear hgl hn
          go_wp2_with fail
          go_loopw [105] (fun i wi => ∃ (i0 : Nat) (μ : MemS), i = .int .i64 (i0 : Int) ∧ i0 ≤ n ∧ Hid (PB wi m cb aB lB uB W6.heap.size P μ q T u A L gA gL ∧ Keeps (fun b => b < W6.heap.size ∧ b ≠ m ∧ b ≠ cb ∧ b ≠ aB ∧ b ≠ lB ∧ b ≠ uB) W6 wi)) (fun i _ => n - (intOf i).toNat)
          case atStart => exact ⟨0, μ, rfl, Nat.zero_le _, HH⟩
          case round =>
            rename World => wi
            clear HH hcL
            obtain ⟨i, μ, rfl, hi, HH⟩ := hrel
            by_cases hin : i < n
            · have hin' : (i : Int) < (n : Int) := by omega
              have hi0 : (0 : Int) ≤ (i : Int) := Int.natCast_nonneg i
              have hg : (L k)[i]? = some ((L k)[i]'(by have := HN.out; omega)) := List.getElem?_eq_getElem _
              generalize (L k)[i]'(by have := HN.out; omega) = tv at hg
              obtain ⟨b2, off2, cp2, e1, _, x2⟩ := (own_slAt (HH.out.1.famL.own k hk8)).get i tv hg
              rw [HGL.out] at e1
              injection e1 with e1 em e2
              clear em
              subst e1 e2
              obtain ⟨tn, rfl, htn, hch⟩ := HH.out.1.inv.chain k i tv hg
              have HCL := hid (show tn ≤ p.cells.toNat from (by have := HX.out.2.2.1; have := HX.out.2.2.2.2.2; omega))
              have hcL := HH.out.1.blkL.cell k
              rw [g8_get gL hk8, HGL.out] at hcL
              by_cases h3 : i % 3 > 0
              · have h3' : decide ((i : Int) % 3 > 0) = true := by simp; omega
                have h3b : (i : Int) % 3 > 0 := by omega
                by_cases h4 : i + 1 < n
                · have h4' : (i : Int) < (n : Int) - 1 := by omega
                  clear h3 h4 hch hg
                  go_wp2_with fail
                  go_roundw
                  case rel => exact ⟨i + 1, μ, by go_num, by omega, HH⟩
                  case measure => simp [intOf]; omega
                · have h4' : ¬ (i : Int) < (n : Int) - 1 := by omega
                  clear h3 h4
                  have hbpi := HBp.out.keep HH.out.2 ⟨by have := HNN.out; omega, by have := HNN.out; omega, by have := HNN.out; omega, by have := HNN.out; omega, by have := HNN.out; omega, by have := HNN.out; omega⟩
                  have hTi : Tab wi := HT.out.keep (HKw.out.trans (HH.out.2.mono HGW.out)) HNN.out.2.2.2.2.2.2.2
                  have hlA : i < (A k).length := by have := HH.out.1.inv.len k; have := HN.out; omega
                  have hwl : ((A k).take (i + 1)).reverse.length = i + 1 := by simp; omega
                  have htop := Chain.len hch
                  obtain ⟨n0, hn0, hid0⟩ := walk_ideal (p := p) HX.out.1 HX.out.2.1 hch p.cells.toNat [] (by have := HCL.out; omega)
                  rw [List.nil_append] at hid0
                  generalize hws : ((A k).take (i + 1)).reverse = ws at *
                  have cp0 := (hbpi).cell 0
                  have cp1 := (hbpi).cell 1
                  have cp2 := (hbpi).cell 2
                  have cp3 := (hbpi).cell 3
                  have cp4 := (hbpi).cell 4
                  have cp5 := (hbpi).cell 5
                  have cp6 := (hbpi).cell 6
                  have cp7 := (hbpi).cell 7
                  have cp8 := (hbpi).cell 8
                  have cp9 := (hbpi).cell 9
                  have cp10 := (hbpi).cell 10
                  have cp11 := (hbpi).cell 11
                  have cp12 := (hbpi).cell 12
                  have cp13 := (hbpi).cell 13
                  have cp14 := (hbpi).cell 14
                  simp only [List.getElem?_cons_zero, List.getElem?_cons_succ] at cp0 cp1 cp2 cp3 cp4 cp5 cp6 cp7 cp8 cp9 cp10 cp11 cp12 cp13 cp14
                  have HW0 := hid hws
                  have HL0 := hid hwl
                  have HI0 := hid hid0
                  have HTI := hid hTi
                  have HHLA := hid hlA
                  have HN0 := hid (show n0 ≤ 262143 by omega)
                  clear hws hwl hid0 hTi hlA hn0 htop hch hbpi hg
                  go_wp2_with fail
                  refine (walk09 (K := fun b => b < wi.heap.size ∧ b ≠ m ∧ b ≠ cb) HH.out.1.mem (fun h => h.2.1 rfl) (fun h => h.2.2 rfl) (fun b hb => hb.1) ⟨by have := HNN.out; have := HH.out.2.size; omega, by have := HNN.out; omega, by have := HNN.out; omega⟩ HTI.out p Hpw.out (tn : Int) (by have := HCL.out; have := Hn9.out; omega) p.cells.toNat Hnc.out (by have := Hn9.out; omega) HI0.out HN0.out).mono ?_
                  rintro e w4 ⟨g, rfl, hS4, ⟨μ4, hm4, hc4⟩, hk4⟩
                  have hk4' : Keeps (fun b => b < wi.heap.size ∧ b ≠ m ∧ b ≠ cb) wi w4 := hk4
                  have hPB4 := HH.out.1.put hm4 hc4 hk4' (by have := HNN.out; omega) (by have := HNN.out; omega) (by have := HNN.out; omega) (by have := HNN.out; omega)
                  have hK4 := HH.out.2.trans (hk4'.mono fun b hb => ⟨by have := hb.1; have := HH.out.2.size; omega, hb.2.1, hb.2.2.1⟩)
                  obtain ⟨gA0, gc, rfl, -, -⟩ := hS4.form
                  have hS4' : SlAt w4 (fun _ => True) 1 (.slice gA0 ws.length gc) ws.length (ws.map (Value.int .u32)) := hS4
                  have HS4 := hid hS4'
                  rw [HL0.out]
                  have HH4 := hid (And.intro hPB4 hK4)
                  obtain ⟨AA, ac, hga⟩ := own_form (HH4.out.1.famA.own k hk8)
                  have hcA := HH4.out.1.blkA.cell k
                  rw [g8_get gA hk8, hga] at hcA
                  have HGA := hid hga
                  clear hS4 hS4' hm4 hc4 hk4 hk4' hPB4 hK4 hga x2 hcL HH cp0 cp1 cp2 cp3 cp4 cp5 cp6 cp7 cp8 cp9 cp10 cp11 cp12 cp13 cp14
                  go_wp2_with fail
                  go_loopw [133] (fun jv wj => ∃ j nd : Nat, jv = .int .i64 (j : Int) ∧ j ≤ i + 1 ∧ w4.drewN nd = wj) (fun jv _ => i + 1 - (intOf jv).toNat)
                  case atStart => exact ⟨0, 0, rfl, Nat.zero_le _, rfl⟩
                  case round =>
                    rename World => wj
                    obtain ⟨j, nd, rfl, hj, hw⟩ := hrel
                    have HWJ := hid hw
                    by_cases hji : j < i + 1
                    · have hji' : (j : Int) < (i : Int) + 1 := by omega
                      have hv : ws[j]? = some (ws[j]'(by have := HL0.out; omega)) := List.getElem?_eq_getElem _
                      generalize ws[j]'(by have := HL0.out; omega) = v at hv
                      have hv2 : (A k)[i - j]? = some v := by
                        have h := back_get HHLA.out (show j ≤ i by omega)
                        rw [HW0.out, hv] at h
                        exact h.symm
                      obtain ⟨b3, o3, c3, e1, _, x3⟩ := HS4.out.get j v hv
                      injection e1 with e1 em e2
                      clear em
                      subst e1 e2
                      obtain ⟨b4, o4, c4, e1, _, x4⟩ := (own_slAt (HH4.out.1.famA.own k hk8)).get (i - j) v hv2
                      rw [HGA.out] at e1
                      injection e1 with e1 em e2
                      clear em
                      subst e1 e2
                      have y3 : wj.cell? ⟨b3, o3 + j, none⟩ = some (.int .u32 v) := by rw [← hw]; exact x3
                      have y4 : wj.cell? ⟨b4, o4 + (i - j), none⟩ = some (.int .u32 v) := by rw [← hw]; exact x4
                      have y5 : wj.cell? ⟨aB, k, none⟩ = some (.slice (some ⟨b4, o4, none⟩) (A k).length ac) := by rw [← hw]; exact hcA
                      have hAl : ((A k).length : Int) ≤ 100 := by have := Hlen.out k; omega
                      have hi100 : (i : Int) < 100 := by omega
                      have hw1 : IntKind.i64.wrap ((i : Int) - (j : Int)) = (i : Int) - (j : Int) := IntWalk.i64_in _ (by omega)
                      have hw2 : (0 : Int) ≤ (i : Int) - (j : Int) := by omega
                      have hw3 : (i : Int) - (j : Int) < ((A k).length : Int) := by have := HHLA.out; omega
                      have hw4 : ((i : Int) - (j : Int)).toNat = i - j := by omega
                      have hw5 : (0 : Int) ≤ (j : Int) := Int.natCast_nonneg j
                      generalize (A k).length = na at *
                      have hvv : (v != v) = false := by simp
                      clear x3 x4 hw hv hv2
                      go_wp2_with fail
                      go_quiet (fail)
                      clear hw1 hw2 hw3 hw4
                      go_wp2_with fail
                      go_roundw
                      case rel => exact ⟨j + 1, nd + nq, by go_num, by omega, by rw [← HWJ.out]; simp [World.drewN, Nat.add_assoc]⟩
                      case measure => simp [intOf]; omega
                    · have hji' : ¬ (j : Int) < (i : Int) + 1 := by omega
                      have hPBj := HH4.out.1.keep (K := fun _ => True) ((Keeps.refl _ _).drewN nd) trivial trivial trivial trivial trivial (fun _ _ _ => trivial)
                      have hKj := HH4.out.2.drewN nd
                      rw [hw] at hPBj hKj
                      have HHj := hid (And.intro hPBj hKj)
                      clear hPBj hKj hw HWJ
                      go_wp2_with fail
                      go_roundw
                      case rel => exact ⟨i + 1, μ4, by go_num, by omega, HHj⟩
                      case measure => simp [intOf]; omega
              · have h3' : decide ((i : Int) % 3 > 0) = false := by simp; omega
                have h3b : ¬ (i : Int) % 3 > 0 := by omega
                clear h3
                have hbpi := HBp.out.keep HH.out.2 ⟨by have := HNN.out; omega, by have := HNN.out; omega, by have := HNN.out; omega, by have := HNN.out; omega, by have := HNN.out; omega, by have := HNN.out; omega⟩
                have hTi : Tab wi := HT.out.keep (HKw.out.trans (HH.out.2.mono HGW.out)) HNN.out.2.2.2.2.2.2.2
                have hlA : i < (A k).length := by have := HH.out.1.inv.len k; have := HN.out; omega
                have hwl : ((A k).take (i + 1)).reverse.length = i + 1 := by simp; omega
                have htop := Chain.len hch
                obtain ⟨n0, hn0, hid0⟩ := walk_ideal (p := p) HX.out.1 HX.out.2.1 hch p.cells.toNat [] (by have := HCL.out; omega)
                rw [List.nil_append] at hid0
                generalize hws : ((A k).take (i + 1)).reverse = ws at *
                have cp0 := (hbpi).cell 0
                have cp1 := (hbpi).cell 1
                have cp2 := (hbpi).cell 2
                have cp3 := (hbpi).cell 3
                have cp4 := (hbpi).cell 4
                have cp5 := (hbpi).cell 5
                have cp6 := (hbpi).cell 6
                have cp7 := (hbpi).cell 7
                have cp8 := (hbpi).cell 8
                have cp9 := (hbpi).cell 9
                have cp10 := (hbpi).cell 10
                have cp11 := (hbpi).cell 11
                have cp12 := (hbpi).cell 12
                have cp13 := (hbpi).cell 13
                have cp14 := (hbpi).cell 14
                simp only [List.getElem?_cons_zero, List.getElem?_cons_succ] at cp0 cp1 cp2 cp3 cp4 cp5 cp6 cp7 cp8 cp9 cp10 cp11 cp12 cp13 cp14
                have HW0 := hid hws
                have HL0 := hid hwl
                have HI0 := hid hid0
                have HTI := hid hTi
                have HHLA := hid hlA
                have HN0 := hid (show n0 ≤ 262143 by omega)
                clear hws hwl hid0 hTi hlA hn0 htop hch hbpi hg
                go_wp2_with fail
                refine (walk09 (K := fun b => b < wi.heap.size ∧ b ≠ m ∧ b ≠ cb) HH.out.1.mem (fun h => h.2.1 rfl) (fun h => h.2.2 rfl) (fun b hb => hb.1) ⟨by have := HNN.out; have := HH.out.2.size; omega, by have := HNN.out; omega, by have := HNN.out; omega⟩ HTI.out p Hpw.out (tn : Int) (by have := HCL.out; have := Hn9.out; omega) p.cells.toNat Hnc.out (by have := Hn9.out; omega) HI0.out HN0.out).mono ?_
                rintro e w4 ⟨g, rfl, hS4, ⟨μ4, hm4, hc4⟩, hk4⟩
                have hk4' : Keeps (fun b => b < wi.heap.size ∧ b ≠ m ∧ b ≠ cb) wi w4 := hk4
                have hPB4 := HH.out.1.put hm4 hc4 hk4' (by have := HNN.out; omega) (by have := HNN.out; omega) (by have := HNN.out; omega) (by have := HNN.out; omega)
                have hK4 := HH.out.2.trans (hk4'.mono fun b hb => ⟨by have := hb.1; have := HH.out.2.size; omega, hb.2.1, hb.2.2.1⟩)
                obtain ⟨gA0, gc, rfl, -, -⟩ := hS4.form
                have hS4' : SlAt w4 (fun _ => True) 1 (.slice gA0 ws.length gc) ws.length (ws.map (Value.int .u32)) := hS4
                have HS4 := hid hS4'
                rw [HL0.out]
                have HH4 := hid (And.intro hPB4 hK4)
                obtain ⟨AA, ac, hga⟩ := own_form (HH4.out.1.famA.own k hk8)
                have hcA := HH4.out.1.blkA.cell k
                rw [g8_get gA hk8, hga] at hcA
                have HGA := hid hga
                clear hS4 hS4' hm4 hc4 hk4 hk4' hPB4 hK4 hga x2 hcL HH cp0 cp1 cp2 cp3 cp4 cp5 cp6 cp7 cp8 cp9 cp10 cp11 cp12 cp13 cp14
                go_wp2_with fail
                go_loopw [133] (fun jv wj => ∃ j nd : Nat, jv = .int .i64 (j : Int) ∧ j ≤ i + 1 ∧ w4.drewN nd = wj) (fun jv _ => i + 1 - (intOf jv).toNat)
                case atStart => exact ⟨0, 0, rfl, Nat.zero_le _, rfl⟩
                case round =>
                  rename World => wj
                  obtain ⟨j, nd, rfl, hj, hw⟩ := hrel
                  have HWJ := hid hw
                  by_cases hji : j < i + 1
                  · have hji' : (j : Int) < (i : Int) + 1 := by omega
                    have hv : ws[j]? = some (ws[j]'(by have := HL0.out; omega)) := List.getElem?_eq_getElem _
                    generalize ws[j]'(by have := HL0.out; omega) = v at hv
                    have hv2 : (A k)[i - j]? = some v := by
                      have h := back_get HHLA.out (show j ≤ i by omega)
                      rw [HW0.out, hv] at h
                      exact h.symm
                    obtain ⟨b3, o3, c3, e1, _, x3⟩ := HS4.out.get j v hv
                    injection e1 with e1 em e2
                    clear em
                    subst e1 e2
                    obtain ⟨b4, o4, c4, e1, _, x4⟩ := (own_slAt (HH4.out.1.famA.own k hk8)).get (i - j) v hv2
                    rw [HGA.out] at e1
                    injection e1 with e1 em e2
                    clear em
                    subst e1 e2
                    have y3 : wj.cell? ⟨b3, o3 + j, none⟩ = some (.int .u32 v) := by rw [← hw]; exact x3
                    have y4 : wj.cell? ⟨b4, o4 + (i - j), none⟩ = some (.int .u32 v) := by rw [← hw]; exact x4
                    have y5 : wj.cell? ⟨aB, k, none⟩ = some (.slice (some ⟨b4, o4, none⟩) (A k).length ac) := by rw [← hw]; exact hcA
                    have hAl : ((A k).length : Int) ≤ 100 := by have := Hlen.out k; omega
                    have hi100 : (i : Int) < 100 := by omega
                    have hw1 : IntKind.i64.wrap ((i : Int) - (j : Int)) = (i : Int) - (j : Int) := IntWalk.i64_in _ (by omega)
                    have hw2 : (0 : Int) ≤ (i : Int) - (j : Int) := by omega
                    have hw3 : (i : Int) - (j : Int) < ((A k).length : Int) := by have := HHLA.out; omega
                    have hw4 : ((i : Int) - (j : Int)).toNat = i - j := by omega
                    have hw5 : (0 : Int) ≤ (j : Int) := Int.natCast_nonneg j
                    generalize (A k).length = na at *
                    have hvv : (v != v) = false := by simp
                    clear x3 x4 hw hv hv2
                    go_wp2_with fail
                    go_quiet (fail)
                    clear hw1 hw2 hw3 hw4
                    go_wp2_with fail
                    go_roundw
                    case rel => exact ⟨j + 1, nd + nq, by go_num, by omega, by rw [← HWJ.out]; simp [World.drewN, Nat.add_assoc]⟩
                    case measure => simp [intOf]; omega
                  · have hji' : ¬ (j : Int) < (i : Int) + 1 := by omega
                    have hPBj := HH4.out.1.keep (K := fun _ => True) ((Keeps.refl _ _).drewN nd) trivial trivial trivial trivial trivial (fun _ _ _ => trivial)
                    have hKj := HH4.out.2.drewN nd
                    rw [hw] at hPBj hKj
                    have HHj := hid (And.intro hPBj hKj)
                    clear hPBj hKj hw HWJ
                    go_wp2_with fail
                    go_roundw
                    case rel => exact ⟨i + 1, μ4, by go_num, by omega, HHj⟩
                    case measure => simp [intOf]; omega
            · have hin' : ¬ (i : Int) < (n : Int) := by omega
              go_wp2_with fail
              go_roundw
              case rel => exact ⟨k + 1, μ, by go_num, by omega, HH⟩
              case measure => simp [intOf]; omega
        · have hk8' : ¬ (k : Int) < 8 := by omega
          have hkw := HKw.out.trans (HH.out.2.mono HGW.out)
          have hTc : Tab wr := HT.out.keep hkw HNN.out.2.2.2.2.2.2.2
          have Hkw := hid hkw
          have HTc := hid hTc
          clear hkw hTc
          go_wp2_with fail
          refine (fixed09 _ HTc.out).mono ?_
          rintro e w10 ⟨rfl, hk10⟩
          have hkf := Hkw.out.trans (hk10.mono fun b hb => by have := (HGW.out b hb).1; have := HH.out.2.size; omega)
          clear hk10
          have Hkf := hid hkf
          clear hkf
          go_wp2_with fail
          exact hR'.out _ _ ⟨rfl, Hkf.out⟩
end Go.Proofs.YtbmgmjfpoepgpaaDoor
