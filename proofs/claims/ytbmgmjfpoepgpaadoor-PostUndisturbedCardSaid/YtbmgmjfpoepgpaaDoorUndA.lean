/- The closure of PostUndisturbed that adds a word. Printed by gen/unda.py. -/
import Derived.Test.YtbmgmjfpoepgpaaDoorPutD
import Derived.Test.YtbmgmjfpoepgpaaDoorLawR
import Derived.Deep.RegionHeld3
import Derived.Deep.DrawnRows
import Derived.Deep.CutRange
namespace Go.Proofs.YtbmgmjfpoepgpaaDoor
open Go.RowKit

def tlist (P : Pools) (T : Tails) : List Value := [.int .i64 ((tailOf P (T 0) : Nat) : Int), .int .i64 ((tailOf P (T 1) : Nat) : Int), .int .i64 ((tailOf P (T 2) : Nat) : Int), .int .i64 ((tailOf P (T 3) : Nat) : Int), .int .i64 ((tailOf P (T 4) : Nat) : Int), .int .i64 ((tailOf P (T 5) : Nat) : Int), .int .i64 ((tailOf P (T 6) : Nat) : Int), .int .i64 ((tailOf P (T 7) : Nat) : Int)]
theorem tlist_get (P : Pools) (T : Tails) {j : Nat} (h : j < 8) : (tlist P T)[j]? = some (.int .i64 ((tailOf P (T j) : Nat) : Int)) := by
  have hc : j = 0 ∨ j = 1 ∨ j = 2 ∨ j = 3 ∨ j = 4 ∨ j = 5 ∨ j = 6 ∨ j = 7 := by omega
  rcases hc with rfl | rfl | rfl | rfl | rfl | rfl | rfl | rfl <;> rfl
theorem tlist_set (P : Pools) {T T' : Tails} {j : Nat} (h : j < 8) (ho : ∀ i, i ≠ j → T' i = T i) : (tlist P T).set j (.int .i64 ((tailOf P (T' j) : Nat) : Int)) = tlist P T' := by
  have hc : j = 0 ∨ j = 1 ∨ j = 2 ∨ j = 3 ∨ j = 4 ∨ j = 5 ∨ j = 6 ∨ j = 7 := by omega
  rcases hc with rfl | rfl | rfl | rfl | rfl | rfl | rfl | rfl <;> simp only [tlist, List.set_cons_zero, List.set_cons_succ] <;> simp [ho]
/-- a memory with terms' places -/
structure PW (w : World) (m c uB tB : Nat) (P : Pools) (μ : MemS) (q : Nat → Nat) (T : Tails) (u : V6) : Prop where
  mem : MemAt w m c μ
  inv : PostInv P μ.cells q T
  used : UsedIs u q
  len : P.b 3 + 256 * P.n 3 ≤ μ.cells.length
  blkU : Blk w uB [.int .i64 u.a0, .int .i64 u.a1, .int .i64 u.a2, .int .i64 u.a3, .int .i64 u.a4, .int .i64 u.a5]
  blkT : Blk w tB (tlist P T)
theorem PW.keep {w w' : World} {m c uB tB : Nat} {P : Pools} {μ : MemS} {q : Nat → Nat} {T : Tails} {u : V6} (h : PW w m c uB tB P μ q T u) {K : Nat → Prop} (k : Keeps K w w') (h1 : K m) (h2 : K c) (h3 : K uB) (h4 : K tB) : PW w' m c uB tB P μ q T u :=
  ⟨h.mem.keep k h1 h2, h.inv, h.used, h.len, h.blkU.keep k h3, h.blkT.keep k h4⟩

set_option maxRecDepth 100000 in
set_option maxHeartbeats 1600000 in
theorem padd_call {w : World} {m c mB pB uB tB : Nat} {p : PlanM} {P : Pools} (hP : P.ok) (hl : p.lays P) {μ : MemS} {q : Nat → Nat} {T : Tails} {u : V6} (h : PW w m c uB tB P μ q T u) (x v : Int) (hx : 0 ≤ x ∧ x ≤ 255) (hv : U32 v) (hT : Tab w)
    (hbm : Blk w mB [.pointer (some ⟨m, 0, none⟩)]) (hbp : Blk w pB [.int .i64 p.base.a0, .int .i64 p.base.a1, .int .i64 p.base.a2, .int .i64 p.base.a3, .int .i64 p.base.a4, .int .i64 p.base.a5, .int .i64 p.size.a0, .int .i64 p.size.a1, .int .i64 p.size.a2, .int .i64 p.size.a3, .int .i64 p.size.a4, .int .i64 p.size.a5, .int .i64 p.cells, .int .i64 p.slots, .int .i64 p.live])
    (hne : mB ≠ m ∧ mB ≠ c ∧ pB ≠ m ∧ pB ≠ c ∧ uB ≠ m ∧ uB ≠ c ∧ tB ≠ m ∧ tB ≠ c ∧ mB ≠ uB ∧ mB ≠ tB ∧ pB ≠ uB ∧ pB ≠ tB ∧ uB ≠ tB ∧ 0 ≠ m ∧ 0 ≠ c) :
    Calls Tryd.prog 17 #[.agg #[.int .u8 x, .int .u32 v], .pointer (some ⟨mB, 0, none⟩), .pointer (some ⟨pB, 0, none⟩), .pointer (some ⟨uB, 0, none⟩), .pointer (some ⟨tB, 0, none⟩)] w fun e w' =>
      e = .returned (.tuple #[]) ∧ ∃ μ' q' T' u', PW w' m c uB tB P μ' q' T' u' ∧ PutKeep P μ.cells q T μ'.cells q' T' ∧ (∀ t l, Chain P μ.cells (Used P q T) t l → Chain P μ'.cells (Used P q' T') t l) ∧ (∀ i l, Chain P μ.cells (Used P q T) (tailOf P (T i)) l → ∃ l', Chain P μ'.cells (Used P q' T') (tailOf P (T' i)) l' ∧ l'.length ≤ l.length + 1) ∧ Keeps (fun b => b < w.heap.size ∧ b ≠ m ∧ b ≠ c ∧ b ≠ uB ∧ b ≠ tB) w w' := by
  obtain ⟨hm, hI, hU, hlen, hbU, hbT⟩ := h
  obtain ⟨j, hj8, gj⟩ : ∃ j : Nat, j < 8 ∧ x.tmod 8 = (j : Int) := ⟨(x.tmod 8).toNat, by rw [Int.tmod_eq_emod_of_nonneg hx.1]; omega, by rw [Int.tmod_eq_emod_of_nonneg hx.1]; omega⟩
  have hdet := put_det hP hl hU hI hlen j v hv
  have htj := tlist_get P T hj8
  obtain ⟨t1, ht1⟩ : ∃ t1, t1 = tailOf P (T j) := ⟨_, rfl⟩
  rw [← ht1] at hdet htj
  have HDET := hid hdet
  have HTJ := hid htj
  have HT := hid hT
  have HI := hid hI
  have HU := hid hU
  have HLEN := hid hlen
  have HM := hid hm
  have HBM := hid hbm
  have HBP := hid hbp
  have HBU := hid hbU
  have HBT := hid hbT
  have HNE0 := hid hne
  have HT1E := hid ht1
  have HPP := hid (And.intro hP hl)
  clear hdet htj hT hI hU hlen hm hbm hbp hbU hbT hne ht1 hP hl hv
  refine calls_hide fun R' hR' => ?_
  go_enter Tryd.func17, Tryd.ntmps17
  go_wp2_with fail
  refine wp_gen (fun W => Blk W w.heap.size [.int .u8 x, .int .u32 v] ∧ Blk W mB [.pointer (some ⟨m, 0, none⟩)] ∧ Blk W pB [.int .i64 p.base.a0, .int .i64 p.base.a1, .int .i64 p.base.a2, .int .i64 p.base.a3, .int .i64 p.base.a4, .int .i64 p.base.a5, .int .i64 p.size.a0, .int .i64 p.size.a1, .int .i64 p.size.a2, .int .i64 p.size.a3, .int .i64 p.size.a4, .int .i64 p.size.a5, .int .i64 p.cells, .int .i64 p.slots, .int .i64 p.live] ∧ Blk W uB [.int .i64 u.a0, .int .i64 u.a1, .int .i64 u.a2, .int .i64 u.a3, .int .i64 u.a4, .int .i64 u.a5] ∧ Blk W tB (tlist P T) ∧ MemAt W m c μ ∧ Keeps (· < w.heap.size) w W) ⟨?_, ?_, ?_, ?_, ?_, ?_, ?_⟩ ?_
  · exact Blk.new w _ _
  · exact HBM.out.alloc _
  · exact HBP.out.alloc _
  · exact HBU.out.alloc _
  · exact HBT.out.alloc _
  · exact HM.out.keep ((Keeps.refl (· < w.heap.size) w).alloc (fun b hb => hb) _) HM.out.obj.lt HM.out.cells.lt
  · exact (Keeps.refl _ _).alloc (fun b hb => hb) _
  rintro w1 ⟨h5, hM, hPb, hUb, hTb, hm1, hk1⟩
  have hl0 : mB < w.heap.size ∧ pB < w.heap.size ∧ uB < w.heap.size ∧ tB < w.heap.size ∧ m < w.heap.size ∧ c < w.heap.size ∧ 0 < w.heap.size := ⟨HBM.out.lt, HBP.out.lt, HBU.out.lt, HBT.out.lt, HM.out.obj.lt, HM.out.cells.lt, HT.out.2.2.2.2⟩
  have hz1 := h5.lt
  generalize hB5 : w.heap.size = B5 at *
  have HL1 := hid (show mB < w1.heap.size ∧ pB < w1.heap.size ∧ uB < w1.heap.size ∧ tB < w1.heap.size ∧ B5 < w1.heap.size ∧ m < w1.heap.size ∧ c < w1.heap.size ∧ mB < B5 ∧ pB < B5 ∧ uB < B5 ∧ tB < B5 ∧ m < B5 ∧ c < B5 by omega)
  have hne := HNE0.out
  have HNE := hid (show mB ≠ m ∧ mB ≠ c ∧ pB ≠ m ∧ pB ≠ c ∧ uB ≠ m ∧ uB ≠ c ∧ tB ≠ m ∧ tB ≠ c ∧ B5 ≠ m ∧ B5 ≠ c ∧ uB ≠ tB by omega)
  have HNM := hid (And.intro hne.2.2.2.2.2.2.2.2.2.2.2.2.2.1 hne.2.2.2.2.2.2.2.2.2.2.2.2.2.2)
  have HT1 := hid (HT.out.keep hk1 (by show 0 < B5; omega))
  have HM1 := hid hm1
  have HK1 := hid hk1
  have HB1 := hid (And.intro hM (And.intro hPb (And.intro hUb (And.intro hTb h5))))
  have n1 : ¬ w1.heap.size = mB := by omega
  have n2 : ¬ w1.heap.size = pB := by omega
  have n3 : ¬ w1.heap.size = uB := by omega
  have n4 : ¬ w1.heap.size = tB := by omega
  have n5 : ¬ w1.heap.size = B5 := by omega
  have gj0 : (0 : Int) ≤ (j : Int) := Int.natCast_nonneg j
  have gj1 : (j : Int) < 8 := by omega
  have hct := hTb.cell j
  rw [HTJ.out] at hct
  have cm0 := (hM).cell 0
  simp only [List.getElem?_cons_zero] at cm0
  have cp0 := (hPb).cell 0
  have cp1 := (hPb).cell 1
  have cp2 := (hPb).cell 2
  have cp3 := (hPb).cell 3
  have cp4 := (hPb).cell 4
  have cp5 := (hPb).cell 5
  have cp6 := (hPb).cell 6
  have cp7 := (hPb).cell 7
  have cp8 := (hPb).cell 8
  have cp9 := (hPb).cell 9
  have cp10 := (hPb).cell 10
  have cp11 := (hPb).cell 11
  have cp12 := (hPb).cell 12
  have cp13 := (hPb).cell 13
  have cp14 := (hPb).cell 14
  simp only [List.getElem?_cons_zero, List.getElem?_cons_succ] at cp0 cp1 cp2 cp3 cp4 cp5 cp6 cp7 cp8 cp9 cp10 cp11 cp12 cp13 cp14
  have cu0 := (hUb).cell 0
  have cu1 := (hUb).cell 1
  have cu2 := (hUb).cell 2
  have cu3 := (hUb).cell 3
  have cu4 := (hUb).cell 4
  have cu5 := (hUb).cell 5
  simp only [List.getElem?_cons_zero, List.getElem?_cons_succ] at cu0 cu1 cu2 cu3 cu4 cu5
  have cf0 := (h5).cell 0
  have cf1 := (h5).cell 1
  simp only [List.getElem?_cons_zero, List.getElem?_cons_succ] at cf0 cf1
  clear h5 hM hPb hUb hTb hm1 hk1 hz1 hne hl0 HBM HBP HBU HBT HM HT HNE0
  rcases HDET.out with ⟨q', T', u', cs', hD, hKeep, hUI', hHow, hput⟩ | ⟨hF, hput⟩
  · clear HDET
    rw [HT1E.out] at hput
    rw [← HT1E.out] at hput
    have HD := hid (And.intro hD (And.intro hKeep hUI'))
    clear hD hKeep hUI' hHow
    obtain ⟨t2, ht2⟩ : ∃ t2, t2 = tailOf P (T' j) := ⟨_, rfl⟩
    rw [← ht2] at hput
    have HN0 := hid (show ∀ wx, Keeps (· < w1.heap.size) w1 wx → Calls Tryd.prog 12 #[.pointer (some ⟨m, 0, none⟩), p.val, u.val, .int .i64 (t1 : Int), .int .u32 v] wx fun e w' => e = .returned (.tuple #[.int .i64 (t2 : Int), u'.val, .int .i64 0]) ∧ Hid ((∃ μ', MemAt w' m c μ' ∧ μ'.cells = cs') ∧ Keeps (fun b => b < w1.heap.size ∧ b ≠ m ∧ b ≠ c) w1 w' ∧ Keeps (fun b => b < wx.heap.size ∧ b ≠ m ∧ b ≠ c) wx w') ∧ (w'.cell? ⟨mB, 0, none⟩ = some (.pointer (some ⟨m, 0, none⟩)) ∧ w'.cell? ⟨pB, 0, none⟩ = some (.int .i64 p.base.a0) ∧ w'.cell? ⟨pB, 1, none⟩ = some (.int .i64 p.base.a1) ∧ w'.cell? ⟨pB, 2, none⟩ = some (.int .i64 p.base.a2) ∧ w'.cell? ⟨pB, 3, none⟩ = some (.int .i64 p.base.a3) ∧ w'.cell? ⟨pB, 4, none⟩ = some (.int .i64 p.base.a4) ∧ w'.cell? ⟨pB, 5, none⟩ = some (.int .i64 p.base.a5) ∧ w'.cell? ⟨pB, 6, none⟩ = some (.int .i64 p.size.a0) ∧ w'.cell? ⟨pB, 7, none⟩ = some (.int .i64 p.size.a1) ∧ w'.cell? ⟨pB, 8, none⟩ = some (.int .i64 p.size.a2) ∧ w'.cell? ⟨pB, 9, none⟩ = some (.int .i64 p.size.a3) ∧ w'.cell? ⟨pB, 10, none⟩ = some (.int .i64 p.size.a4) ∧ w'.cell? ⟨pB, 11, none⟩ = some (.int .i64 p.size.a5) ∧ w'.cell? ⟨pB, 12, none⟩ = some (.int .i64 p.cells) ∧ w'.cell? ⟨pB, 13, none⟩ = some (.int .i64 p.slots) ∧ w'.cell? ⟨pB, 14, none⟩ = some (.int .i64 p.live) ∧ w'.cell? ⟨uB, 0, none⟩ = some (.int .i64 u.a0) ∧ w'.cell? ⟨uB, 1, none⟩ = some (.int .i64 u.a1) ∧ w'.cell? ⟨uB, 2, none⟩ = some (.int .i64 u.a2) ∧ w'.cell? ⟨uB, 3, none⟩ = some (.int .i64 u.a3) ∧ w'.cell? ⟨uB, 4, none⟩ = some (.int .i64 u.a4) ∧ w'.cell? ⟨uB, 5, none⟩ = some (.int .i64 u.a5) ∧ w'.cell? ⟨tB, j, none⟩ = some (.int .i64 (t1 : Int)) ∧ w'.cell? ⟨B5, 0, none⟩ = some (.int .u8 x) ∧ w'.cell? ⟨B5, 1, none⟩ = some (.int .u32 v)) ∧ (¬ w'.heap.size = mB ∧ ¬ w'.heap.size = pB ∧ ¬ w'.heap.size = uB ∧ ¬ w'.heap.size = tB ∧ ¬ w'.heap.size = B5) from fun wx hx => by
      refine (hput wx (fun b => b < wx.heap.size ∧ b ≠ m ∧ b ≠ c) m c μ rfl (HM1.out.keep hx HM1.out.obj.lt HM1.out.cells.lt) (fun e => e.2.1 rfl) (fun e => e.2.2 rfl) (fun b hb => hb.1) ⟨by have := hx.size; have := HT1.out.2.2.2.2; omega, HNM.out.1, HNM.out.2⟩ (HT1.out.keep hx HT1.out.2.2.2.2)).mono ?_
      rintro e w' ⟨rfl, h1, h2⟩
      have hk : Keeps (fun b => b < w1.heap.size ∧ b ≠ m ∧ b ≠ c) w1 w' := (hx.mono fun b hb => hb.1).trans (h2.mono fun b hb => ⟨by have := hx.size; omega, hb.2⟩)
      have hz := hk.size
      have hl := HL1.out
      have hne := HNE.out
      have g1 := HB1.out.1.keep hk ⟨by omega, by omega, by omega⟩
      have g2 := HB1.out.2.1.keep hk ⟨by omega, by omega, by omega⟩
      have g3 := HB1.out.2.2.1.keep hk ⟨by omega, by omega, by omega⟩
      have g4 := HB1.out.2.2.2.1.keep hk ⟨by omega, by omega, by omega⟩
      have g5 := HB1.out.2.2.2.2.keep hk ⟨by omega, by omega, by omega⟩
      exact ⟨rfl, ⟨h1, hk, h2⟩, ⟨g1.cell 0, g2.cell 0, g2.cell 1, g2.cell 2, g2.cell 3, g2.cell 4, g2.cell 5, g2.cell 6, g2.cell 7, g2.cell 8, g2.cell 9, g2.cell 10, g2.cell 11, g2.cell 12, g2.cell 13, g2.cell 14, g3.cell 0, g3.cell 1, g3.cell 2, g3.cell 3, g3.cell 4, g3.cell 5, by have := g4.cell j; rw [HTJ.out] at this; exact this, g5.cell 0, g5.cell 1⟩, by omega, by omega, by omega, by omega, by omega⟩)
    have HN1 := hid (show ∀ wx, Blk wx w1.heap.size [.int .i64 0, .int .i64 0, .int .i64 0, .int .i64 0, .int .i64 0, .int .i64 0] → Keeps (· < w1.heap.size) w1 wx → Calls Tryd.prog 12 #[.pointer (some ⟨m, 0, none⟩), p.val, u.val, .int .i64 (t1 : Int), .int .u32 v] wx fun e w' => e = .returned (.tuple #[.int .i64 (t2 : Int), u'.val, .int .i64 0]) ∧ Hid ((∃ μ', MemAt w' m c μ' ∧ μ'.cells = cs') ∧ Keeps (fun b => b < w1.heap.size ∧ b ≠ m ∧ b ≠ c) w1 w' ∧ Blk w' w1.heap.size [.int .i64 0, .int .i64 0, .int .i64 0, .int .i64 0, .int .i64 0, .int .i64 0]) ∧ (w'.cell? ⟨w1.heap.size, 0, none⟩ = some (.int .i64 0) ∧ w'.cell? ⟨w1.heap.size, 1, none⟩ = some (.int .i64 0) ∧ w'.cell? ⟨w1.heap.size, 2, none⟩ = some (.int .i64 0) ∧ w'.cell? ⟨w1.heap.size, 3, none⟩ = some (.int .i64 0) ∧ w'.cell? ⟨w1.heap.size, 4, none⟩ = some (.int .i64 0) ∧ w'.cell? ⟨w1.heap.size, 5, none⟩ = some (.int .i64 0) ∧ w'.frozen? ⟨w1.heap.size, 0, none⟩ = false ∧ w'.frozen? ⟨w1.heap.size, 1, none⟩ = false ∧ w'.frozen? ⟨w1.heap.size, 2, none⟩ = false ∧ w'.frozen? ⟨w1.heap.size, 3, none⟩ = false ∧ w'.frozen? ⟨w1.heap.size, 4, none⟩ = false ∧ w'.frozen? ⟨w1.heap.size, 5, none⟩ = false) ∧ (w'.cell? ⟨mB, 0, none⟩ = some (.pointer (some ⟨m, 0, none⟩)) ∧ w'.cell? ⟨pB, 0, none⟩ = some (.int .i64 p.base.a0) ∧ w'.cell? ⟨pB, 1, none⟩ = some (.int .i64 p.base.a1) ∧ w'.cell? ⟨pB, 2, none⟩ = some (.int .i64 p.base.a2) ∧ w'.cell? ⟨pB, 3, none⟩ = some (.int .i64 p.base.a3) ∧ w'.cell? ⟨pB, 4, none⟩ = some (.int .i64 p.base.a4) ∧ w'.cell? ⟨pB, 5, none⟩ = some (.int .i64 p.base.a5) ∧ w'.cell? ⟨pB, 6, none⟩ = some (.int .i64 p.size.a0) ∧ w'.cell? ⟨pB, 7, none⟩ = some (.int .i64 p.size.a1) ∧ w'.cell? ⟨pB, 8, none⟩ = some (.int .i64 p.size.a2) ∧ w'.cell? ⟨pB, 9, none⟩ = some (.int .i64 p.size.a3) ∧ w'.cell? ⟨pB, 10, none⟩ = some (.int .i64 p.size.a4) ∧ w'.cell? ⟨pB, 11, none⟩ = some (.int .i64 p.size.a5) ∧ w'.cell? ⟨pB, 12, none⟩ = some (.int .i64 p.cells) ∧ w'.cell? ⟨pB, 13, none⟩ = some (.int .i64 p.slots) ∧ w'.cell? ⟨pB, 14, none⟩ = some (.int .i64 p.live) ∧ w'.cell? ⟨uB, 0, none⟩ = some (.int .i64 u.a0) ∧ w'.cell? ⟨uB, 1, none⟩ = some (.int .i64 u.a1) ∧ w'.cell? ⟨uB, 2, none⟩ = some (.int .i64 u.a2) ∧ w'.cell? ⟨uB, 3, none⟩ = some (.int .i64 u.a3) ∧ w'.cell? ⟨uB, 4, none⟩ = some (.int .i64 u.a4) ∧ w'.cell? ⟨uB, 5, none⟩ = some (.int .i64 u.a5) ∧ w'.cell? ⟨tB, j, none⟩ = some (.int .i64 (t1 : Int)) ∧ w'.cell? ⟨B5, 0, none⟩ = some (.int .u8 x) ∧ w'.cell? ⟨B5, 1, none⟩ = some (.int .u32 v)) ∧ (¬ w'.heap.size = mB ∧ ¬ w'.heap.size = pB ∧ ¬ w'.heap.size = uB ∧ ¬ w'.heap.size = tB ∧ ¬ w'.heap.size = B5) from fun wx hb hx => by
      refine (HN0.out wx hx).mono ?_
      rintro e w' ⟨rfl, h1, h2, h3⟩
      have hl := HL1.out
      have hb' := hb.keep h1.out.2.2 ⟨hb.lt, by omega, by omega⟩
      exact ⟨rfl, ⟨h1.out.1, h1.out.2.1, hb'⟩, ⟨hb'.cell 0, hb'.cell 1, hb'.cell 2, hb'.cell 3, hb'.cell 4, hb'.cell 5, hb'.free 0, hb'.free 1, hb'.free 2, hb'.free 3, hb'.free 4, hb'.free 5⟩, h2, h3⟩)
    unfold PlanM.val V6.val at HN0 HN1
    go_cut [6, 7, 8] from 10 to 23 (fun a b e wx => ∃ B7, a = .int .i64 (t2 : Int) ∧ b = .pointer (some ⟨B7, 0, none⟩) ∧ e = .int .i64 0 ∧ w1.heap.size ≤ B7 ∧ Blk wx B7 [.int .i64 u'.a0, .int .i64 u'.a1, .int .i64 u'.a2, .int .i64 u'.a3, .int .i64 u'.a4, .int .i64 u'.a5] ∧ (∃ μ', MemAt wx m c μ' ∧ μ'.cells = cs') ∧ Keeps (fun b => b < w1.heap.size ∧ b ≠ m ∧ b ≠ c) w1 wx)
    case first =>
      go_region_held3 (fun w' => w'.cell? ⟨mB, 0, none⟩ = some (.pointer (some ⟨m, 0, none⟩)) ∧ w'.cell? ⟨pB, 0, none⟩ = some (.int .i64 p.base.a0) ∧ w'.cell? ⟨pB, 1, none⟩ = some (.int .i64 p.base.a1) ∧ w'.cell? ⟨pB, 2, none⟩ = some (.int .i64 p.base.a2) ∧ w'.cell? ⟨pB, 3, none⟩ = some (.int .i64 p.base.a3) ∧ w'.cell? ⟨pB, 4, none⟩ = some (.int .i64 p.base.a4) ∧ w'.cell? ⟨pB, 5, none⟩ = some (.int .i64 p.base.a5) ∧ w'.cell? ⟨pB, 6, none⟩ = some (.int .i64 p.size.a0) ∧ w'.cell? ⟨pB, 7, none⟩ = some (.int .i64 p.size.a1) ∧ w'.cell? ⟨pB, 8, none⟩ = some (.int .i64 p.size.a2) ∧ w'.cell? ⟨pB, 9, none⟩ = some (.int .i64 p.size.a3) ∧ w'.cell? ⟨pB, 10, none⟩ = some (.int .i64 p.size.a4) ∧ w'.cell? ⟨pB, 11, none⟩ = some (.int .i64 p.size.a5) ∧ w'.cell? ⟨pB, 12, none⟩ = some (.int .i64 p.cells) ∧ w'.cell? ⟨pB, 13, none⟩ = some (.int .i64 p.slots) ∧ w'.cell? ⟨pB, 14, none⟩ = some (.int .i64 p.live) ∧ w'.cell? ⟨uB, 0, none⟩ = some (.int .i64 u.a0) ∧ w'.cell? ⟨uB, 1, none⟩ = some (.int .i64 u.a1) ∧ w'.cell? ⟨uB, 2, none⟩ = some (.int .i64 u.a2) ∧ w'.cell? ⟨uB, 3, none⟩ = some (.int .i64 u.a3) ∧ w'.cell? ⟨uB, 4, none⟩ = some (.int .i64 u.a4) ∧ w'.cell? ⟨uB, 5, none⟩ = some (.int .i64 u.a5) ∧ w'.cell? ⟨tB, j, none⟩ = some (.int .i64 (t1 : Int)) ∧ w'.cell? ⟨B5, 0, none⟩ = some (.int .u8 x) ∧ w'.cell? ⟨B5, 1, none⟩ = some (.int .u32 v)) (go_keep)
        (first
          | (go_at_call 12; refine (HN1.out _ ?_ ?_).mono ?_; (focus ((repeat (first | with_reducible exact Blk.new _ _ _ | with_reducible refine Blk.drew ?_ | with_reducible refine Blk.drewN ?_ _ | (with_reducible refine Blk.new' _ _ _ ?_; focus (simp; done)))); done)); (focus ((repeat (first | with_reducible exact HKW.out | with_reducible exact Keeps.refl _ _ | with_reducible refine Keeps.drew ?_ | with_reducible refine Keeps.drewN ?_ _ | with_reducible refine Keeps.alloc ?_ ?_ _)); all_goals (intro b hb; exact hb))); rintro e wb ⟨rfl, HW, ⟨zc0, zc1, zc2, zc3, zc4, zc5, zf0, zf1, zf2, zf3, zf4, zf5⟩, ⟨q0, q1, q2, q3, q4, q5, q6, q7, q8, q9, q10, q11, q12, q13, q14, q15, q16, q17, q18, q19, q20, q21, q22, q23, q24⟩, ⟨e0, e1, e2, e3, e4⟩⟩)
          | (go_at_call 12; refine (HN0.out _ ?_).mono ?_; (focus ((repeat (first | with_reducible exact HKW.out | with_reducible exact Keeps.refl _ _ | with_reducible refine Keeps.drew ?_ | with_reducible refine Keeps.drewN ?_ _ | with_reducible refine Keeps.alloc ?_ ?_ _)); all_goals (intro b hb; exact hb))); rintro e wb ⟨rfl, HW, ⟨q0, q1, q2, q3, q4, q5, q6, q7, q8, q9, q10, q11, q12, q13, q14, q15, q16, q17, q18, q19, q20, q21, q22, q23, q24⟩, ⟨e0, e1, e2, e3, e4⟩⟩))
      all_goals
        go_wp2_with fail
        go_meet
      · case rel =>
          exact ⟨_, (by rw [ht2]), rfl, rfl, HW.out.2.1.size, Blk.new wb _ _, (by obtain ⟨μ', hm', hc'⟩ := HW.out.1; exact ⟨μ', hm'.keep (K := (· < wb.heap.size)) ((Keeps.refl _ _).alloc (fun b hb => hb) _) hm'.obj.lt hm'.cells.lt, hc'⟩), HW.out.2.1.alloc (fun b hb => by have := HW.out.2.1.size; omega) _⟩
      · case rel =>
          exact ⟨_, (by rw [ht2]), rfl, rfl, Nat.le_refl _, Blk.set6 HW.out.2.2 _ _ _ _ _ _ rfl, (by obtain ⟨μ', hm', hc'⟩ := HW.out.1; exact ⟨μ', hm'.keep (K := (· ≠ w1.heap.size)) ((Keeps.refl _ _).set6 _ _ _ _ _ _ (fun h => h rfl)) (by have := HL1.out; omega) (by have := HL1.out; omega), hc'⟩), HW.out.2.1.set6 _ _ _ _ _ _ (fun h => by have := h.1; omega)⟩
    case rest =>
      obtain ⟨B7, rfl, rfl, rfl, hB7, hBk, ⟨μ', hm', hc'⟩, hkc⟩ := hcut
      have hl := HL1.out
      have hne := HNE.out
      have hzc := hkc.size
      have g3 := HB1.out.2.2.1.keep hkc ⟨by omega, by omega, by omega⟩
      have g4 := HB1.out.2.2.2.1.keep hkc ⟨by omega, by omega, by omega⟩
      have g5 := HB1.out.2.2.2.2.keep hkc ⟨by omega, by omega, by omega⟩
      have hkw : Keeps (fun b => b < B5 ∧ b ≠ m ∧ b ≠ c) w wc := (HK1.out.mono fun b hb => hb.1).trans (hkc.mono fun b hb => ⟨by omega, hb.2⟩)
      clear hkc HB1 HN0 HN1
      clear hct n1 n2 n3 n4 n5 cm0 cp0 cp1 cp2 cp3 cp4 cp5 cp6 cp7 cp8 cp9 cp10 cp11 cp12 cp13 cp14 cu0 cu1 cu2 cu3 cu4 cu5 cf0 cf1
      have Hkw := hid hkw
      have Hm' := hid hm'
      have Hc' := hid hc'
      clear hkw hm' hc'
      have G3 := hid g3
      have G4 := hid g4
      have gtj := g4.cell j
      rw [HTJ.out] at gtj
      have cu0 := (g3).cell 0
      have cu1 := (g3).cell 1
      have cu2 := (g3).cell 2
      have cu3 := (g3).cell 3
      have cu4 := (g3).cell 4
      have cu5 := (g3).cell 5
      simp only [List.getElem?_cons_zero, List.getElem?_cons_succ] at cu0 cu1 cu2 cu3 cu4 cu5
      have cz0 := (hBk).cell 0
      have cz1 := (hBk).cell 1
      have cz2 := (hBk).cell 2
      have cz3 := (hBk).cell 3
      have cz4 := (hBk).cell 4
      have cz5 := (hBk).cell 5
      simp only [List.getElem?_cons_zero, List.getElem?_cons_succ] at cz0 cz1 cz2 cz3 cz4 cz5
      have cf0 := (g5).cell 0
      have cf1 := (g5).cell 1
      simp only [List.getElem?_cons_zero, List.getElem?_cons_succ] at cf0 cf1
      have ft := g4.free j
      have fu0 := (g3).free 0
      have fu1 := (g3).free 1
      have fu2 := (g3).free 2
      have fu3 := (g3).free 3
      have fu4 := (g3).free 4
      have fu5 := (g3).free 5
      have m1 : ¬ tB = B7 := by omega
      have m2 : ¬ uB = B7 := by omega
      have m3 : ¬ tB = B5 := by omega
      have m4 : ¬ uB = B5 := by omega
      have m5 : ¬ tB = uB := by omega
      have m6 : ¬ uB = tB := by omega
      have M7 := hid (And.intro hB7 hzc)
      clear g3 g4 g5 hBk hne hl hB7 hzc
      have HT2 := hid ht2
      clear ht2
      go_wp2_with fail
      go_region_held3 (fun w' => w'.cell? ⟨B7, 0, none⟩ = some (.int .i64 u'.a0) ∧ w'.cell? ⟨B7, 1, none⟩ = some (.int .i64 u'.a1) ∧ w'.cell? ⟨B7, 2, none⟩ = some (.int .i64 u'.a2) ∧ w'.cell? ⟨B7, 3, none⟩ = some (.int .i64 u'.a3) ∧ w'.cell? ⟨B7, 4, none⟩ = some (.int .i64 u'.a4) ∧ w'.cell? ⟨B7, 5, none⟩ = some (.int .i64 u'.a5) ∧ w'.cell? ⟨B5, 0, none⟩ = some (.int .u8 x)) (go_keep) (fail)
      all_goals
        go_wp2_with fail
        refine bp_gen (fun W => Blk W uB [.int .i64 u'.a0, .int .i64 u'.a1, .int .i64 u'.a2, .int .i64 u'.a3, .int .i64 u'.a4, .int .i64 u'.a5] ∧ Blk W tB ((tlist P T).set j (.int .i64 (t2 : Int))) ∧ MemAt W m c μ' ∧ Keeps (fun b => b < B5 ∧ b ≠ m ∧ b ≠ c ∧ b ≠ uB ∧ b ≠ tB) w W) ⟨?_, ?_, ?_, ?_⟩ ?_
        · first | with_reducible exact Blk.set6 (G3.out.set_ne _ m6) _ _ _ _ _ _ rfl | with_reducible exact (Blk.set6 (G3.out.set_ne _ m6) _ _ _ _ _ _ rfl).drew
        · first | with_reducible exact Blk.set6_ne (G4.out.set j _) _ _ _ _ _ _ m5 | with_reducible exact (Blk.set6_ne (G4.out.set j _) _ _ _ _ _ _ m5).drew
        · refine Hm'.out.keep (K := fun b => b ≠ tB ∧ b ≠ uB) ?_ (by have := HNE.out; omega) (by have := HNE.out; omega)
          repeat (first | with_reducible exact Keeps.refl _ _ | with_reducible refine Keeps.drew ?_ | with_reducible refine Keeps.setCell ?_ ?_ _)
          all_goals simp
        · have hk9 := Hkw.out.mono (K' := fun b => b < B5 ∧ b ≠ m ∧ b ≠ c ∧ b ≠ uB ∧ b ≠ tB) fun b hb => ⟨hb.1, hb.2.1, hb.2.2.1⟩
          repeat (first | with_reducible exact hk9 | with_reducible refine Keeps.drew ?_ | with_reducible refine Keeps.setCell ?_ ?_ _)
          all_goals simp
        rintro W ⟨k1, k2, k3, k4⟩
        go_end0
        obtain ⟨hD, hKe, hUs⟩ := HD.out
        have hcc := Hc'.out
        subst hcc
        rw [HT2.out, tlist_set P hj8 hD.other] at k2
        refine hR'.out _ _ ⟨rfl, μ', q', T', u', ⟨k3, hD.inv, hUs, by rw [hD.len]; exact HLEN.out, k1, k2⟩, hKe, hD.keep, ?_, k4⟩
        intro i l hc
        by_cases hij : i = j
        · subst hij
          exact ⟨_, hD.new _ hc, by simp⟩
        · rw [hD.other i hij]
          exact ⟨_, hD.keep _ _ hc, by omega⟩
  · clear HDET
    have HN0 := hid (show ∀ wx, Keeps (· < w1.heap.size) w1 wx → Calls Tryd.prog 12 #[.pointer (some ⟨m, 0, none⟩), p.val, u.val, .int .i64 (t1 : Int), .int .u32 v] wx fun e w' => e = .returned (.tuple #[.int .i64 0, zeros6v.val, .int .i64 3]) ∧ Hid ((∃ μ', MemAt w' m c μ' ∧ μ'.cells = μ.cells) ∧ Keeps (fun b => b < w1.heap.size ∧ b ≠ m ∧ b ≠ c) w1 w' ∧ Keeps (fun b => b < wx.heap.size ∧ b ≠ m ∧ b ≠ c) wx w') ∧ (w'.cell? ⟨mB, 0, none⟩ = some (.pointer (some ⟨m, 0, none⟩)) ∧ w'.cell? ⟨pB, 0, none⟩ = some (.int .i64 p.base.a0) ∧ w'.cell? ⟨pB, 1, none⟩ = some (.int .i64 p.base.a1) ∧ w'.cell? ⟨pB, 2, none⟩ = some (.int .i64 p.base.a2) ∧ w'.cell? ⟨pB, 3, none⟩ = some (.int .i64 p.base.a3) ∧ w'.cell? ⟨pB, 4, none⟩ = some (.int .i64 p.base.a4) ∧ w'.cell? ⟨pB, 5, none⟩ = some (.int .i64 p.base.a5) ∧ w'.cell? ⟨pB, 6, none⟩ = some (.int .i64 p.size.a0) ∧ w'.cell? ⟨pB, 7, none⟩ = some (.int .i64 p.size.a1) ∧ w'.cell? ⟨pB, 8, none⟩ = some (.int .i64 p.size.a2) ∧ w'.cell? ⟨pB, 9, none⟩ = some (.int .i64 p.size.a3) ∧ w'.cell? ⟨pB, 10, none⟩ = some (.int .i64 p.size.a4) ∧ w'.cell? ⟨pB, 11, none⟩ = some (.int .i64 p.size.a5) ∧ w'.cell? ⟨pB, 12, none⟩ = some (.int .i64 p.cells) ∧ w'.cell? ⟨pB, 13, none⟩ = some (.int .i64 p.slots) ∧ w'.cell? ⟨pB, 14, none⟩ = some (.int .i64 p.live) ∧ w'.cell? ⟨uB, 0, none⟩ = some (.int .i64 u.a0) ∧ w'.cell? ⟨uB, 1, none⟩ = some (.int .i64 u.a1) ∧ w'.cell? ⟨uB, 2, none⟩ = some (.int .i64 u.a2) ∧ w'.cell? ⟨uB, 3, none⟩ = some (.int .i64 u.a3) ∧ w'.cell? ⟨uB, 4, none⟩ = some (.int .i64 u.a4) ∧ w'.cell? ⟨uB, 5, none⟩ = some (.int .i64 u.a5) ∧ w'.cell? ⟨tB, j, none⟩ = some (.int .i64 (t1 : Int)) ∧ w'.cell? ⟨B5, 0, none⟩ = some (.int .u8 x) ∧ w'.cell? ⟨B5, 1, none⟩ = some (.int .u32 v)) ∧ (¬ w'.heap.size = mB ∧ ¬ w'.heap.size = pB ∧ ¬ w'.heap.size = uB ∧ ¬ w'.heap.size = tB ∧ ¬ w'.heap.size = B5) from fun wx hx => by
      refine (hput wx (fun b => b < wx.heap.size ∧ b ≠ m ∧ b ≠ c) m c μ rfl (HM1.out.keep hx HM1.out.obj.lt HM1.out.cells.lt) (fun e => e.2.1 rfl) (fun e => e.2.2 rfl) (fun b hb => hb.1) ⟨by have := hx.size; have := HT1.out.2.2.2.2; omega, HNM.out.1, HNM.out.2⟩ (HT1.out.keep hx HT1.out.2.2.2.2)).mono ?_
      rintro e w' ⟨rfl, h1, h2⟩
      have hk : Keeps (fun b => b < w1.heap.size ∧ b ≠ m ∧ b ≠ c) w1 w' := (hx.mono fun b hb => hb.1).trans (h2.mono fun b hb => ⟨by have := hx.size; omega, hb.2⟩)
      have hz := hk.size
      have hl := HL1.out
      have hne := HNE.out
      have g1 := HB1.out.1.keep hk ⟨by omega, by omega, by omega⟩
      have g2 := HB1.out.2.1.keep hk ⟨by omega, by omega, by omega⟩
      have g3 := HB1.out.2.2.1.keep hk ⟨by omega, by omega, by omega⟩
      have g4 := HB1.out.2.2.2.1.keep hk ⟨by omega, by omega, by omega⟩
      have g5 := HB1.out.2.2.2.2.keep hk ⟨by omega, by omega, by omega⟩
      exact ⟨rfl, ⟨h1, hk, h2⟩, ⟨g1.cell 0, g2.cell 0, g2.cell 1, g2.cell 2, g2.cell 3, g2.cell 4, g2.cell 5, g2.cell 6, g2.cell 7, g2.cell 8, g2.cell 9, g2.cell 10, g2.cell 11, g2.cell 12, g2.cell 13, g2.cell 14, g3.cell 0, g3.cell 1, g3.cell 2, g3.cell 3, g3.cell 4, g3.cell 5, by have := g4.cell j; rw [HTJ.out] at this; exact this, g5.cell 0, g5.cell 1⟩, by omega, by omega, by omega, by omega, by omega⟩)
    have HN1 := hid (show ∀ wx, Blk wx w1.heap.size [.int .i64 0, .int .i64 0, .int .i64 0, .int .i64 0, .int .i64 0, .int .i64 0] → Keeps (· < w1.heap.size) w1 wx → Calls Tryd.prog 12 #[.pointer (some ⟨m, 0, none⟩), p.val, u.val, .int .i64 (t1 : Int), .int .u32 v] wx fun e w' => e = .returned (.tuple #[.int .i64 0, zeros6v.val, .int .i64 3]) ∧ Hid ((∃ μ', MemAt w' m c μ' ∧ μ'.cells = μ.cells) ∧ Keeps (fun b => b < w1.heap.size ∧ b ≠ m ∧ b ≠ c) w1 w' ∧ Blk w' w1.heap.size [.int .i64 0, .int .i64 0, .int .i64 0, .int .i64 0, .int .i64 0, .int .i64 0]) ∧ (w'.cell? ⟨w1.heap.size, 0, none⟩ = some (.int .i64 0) ∧ w'.cell? ⟨w1.heap.size, 1, none⟩ = some (.int .i64 0) ∧ w'.cell? ⟨w1.heap.size, 2, none⟩ = some (.int .i64 0) ∧ w'.cell? ⟨w1.heap.size, 3, none⟩ = some (.int .i64 0) ∧ w'.cell? ⟨w1.heap.size, 4, none⟩ = some (.int .i64 0) ∧ w'.cell? ⟨w1.heap.size, 5, none⟩ = some (.int .i64 0) ∧ w'.frozen? ⟨w1.heap.size, 0, none⟩ = false ∧ w'.frozen? ⟨w1.heap.size, 1, none⟩ = false ∧ w'.frozen? ⟨w1.heap.size, 2, none⟩ = false ∧ w'.frozen? ⟨w1.heap.size, 3, none⟩ = false ∧ w'.frozen? ⟨w1.heap.size, 4, none⟩ = false ∧ w'.frozen? ⟨w1.heap.size, 5, none⟩ = false) ∧ (w'.cell? ⟨mB, 0, none⟩ = some (.pointer (some ⟨m, 0, none⟩)) ∧ w'.cell? ⟨pB, 0, none⟩ = some (.int .i64 p.base.a0) ∧ w'.cell? ⟨pB, 1, none⟩ = some (.int .i64 p.base.a1) ∧ w'.cell? ⟨pB, 2, none⟩ = some (.int .i64 p.base.a2) ∧ w'.cell? ⟨pB, 3, none⟩ = some (.int .i64 p.base.a3) ∧ w'.cell? ⟨pB, 4, none⟩ = some (.int .i64 p.base.a4) ∧ w'.cell? ⟨pB, 5, none⟩ = some (.int .i64 p.base.a5) ∧ w'.cell? ⟨pB, 6, none⟩ = some (.int .i64 p.size.a0) ∧ w'.cell? ⟨pB, 7, none⟩ = some (.int .i64 p.size.a1) ∧ w'.cell? ⟨pB, 8, none⟩ = some (.int .i64 p.size.a2) ∧ w'.cell? ⟨pB, 9, none⟩ = some (.int .i64 p.size.a3) ∧ w'.cell? ⟨pB, 10, none⟩ = some (.int .i64 p.size.a4) ∧ w'.cell? ⟨pB, 11, none⟩ = some (.int .i64 p.size.a5) ∧ w'.cell? ⟨pB, 12, none⟩ = some (.int .i64 p.cells) ∧ w'.cell? ⟨pB, 13, none⟩ = some (.int .i64 p.slots) ∧ w'.cell? ⟨pB, 14, none⟩ = some (.int .i64 p.live) ∧ w'.cell? ⟨uB, 0, none⟩ = some (.int .i64 u.a0) ∧ w'.cell? ⟨uB, 1, none⟩ = some (.int .i64 u.a1) ∧ w'.cell? ⟨uB, 2, none⟩ = some (.int .i64 u.a2) ∧ w'.cell? ⟨uB, 3, none⟩ = some (.int .i64 u.a3) ∧ w'.cell? ⟨uB, 4, none⟩ = some (.int .i64 u.a4) ∧ w'.cell? ⟨uB, 5, none⟩ = some (.int .i64 u.a5) ∧ w'.cell? ⟨tB, j, none⟩ = some (.int .i64 (t1 : Int)) ∧ w'.cell? ⟨B5, 0, none⟩ = some (.int .u8 x) ∧ w'.cell? ⟨B5, 1, none⟩ = some (.int .u32 v)) ∧ (¬ w'.heap.size = mB ∧ ¬ w'.heap.size = pB ∧ ¬ w'.heap.size = uB ∧ ¬ w'.heap.size = tB ∧ ¬ w'.heap.size = B5) from fun wx hb hx => by
      refine (HN0.out wx hx).mono ?_
      rintro e w' ⟨rfl, h1, h2, h3⟩
      have hl := HL1.out
      have hb' := hb.keep h1.out.2.2 ⟨hb.lt, by omega, by omega⟩
      exact ⟨rfl, ⟨h1.out.1, h1.out.2.1, hb'⟩, ⟨hb'.cell 0, hb'.cell 1, hb'.cell 2, hb'.cell 3, hb'.cell 4, hb'.cell 5, hb'.free 0, hb'.free 1, hb'.free 2, hb'.free 3, hb'.free 4, hb'.free 5⟩, h2, h3⟩)
    unfold PlanM.val V6.val at HN0 HN1
    unfold zeros6v at HN0 HN1
    go_cut [6, 7, 8] from 10 to 23 (fun a b e wx => ∃ B7, a = .int .i64 0 ∧ b = .pointer (some ⟨B7, 0, none⟩) ∧ e = .int .i64 3 ∧ w1.heap.size ≤ B7 ∧ Blk wx B7 [.int .i64 zeros6v.a0, .int .i64 zeros6v.a1, .int .i64 zeros6v.a2, .int .i64 zeros6v.a3, .int .i64 zeros6v.a4, .int .i64 zeros6v.a5] ∧ (∃ μ', MemAt wx m c μ' ∧ μ'.cells = μ.cells) ∧ Keeps (fun b => b < w1.heap.size ∧ b ≠ m ∧ b ≠ c) w1 wx)
    case first =>
      go_region_held3 (fun w' => w'.cell? ⟨mB, 0, none⟩ = some (.pointer (some ⟨m, 0, none⟩)) ∧ w'.cell? ⟨pB, 0, none⟩ = some (.int .i64 p.base.a0) ∧ w'.cell? ⟨pB, 1, none⟩ = some (.int .i64 p.base.a1) ∧ w'.cell? ⟨pB, 2, none⟩ = some (.int .i64 p.base.a2) ∧ w'.cell? ⟨pB, 3, none⟩ = some (.int .i64 p.base.a3) ∧ w'.cell? ⟨pB, 4, none⟩ = some (.int .i64 p.base.a4) ∧ w'.cell? ⟨pB, 5, none⟩ = some (.int .i64 p.base.a5) ∧ w'.cell? ⟨pB, 6, none⟩ = some (.int .i64 p.size.a0) ∧ w'.cell? ⟨pB, 7, none⟩ = some (.int .i64 p.size.a1) ∧ w'.cell? ⟨pB, 8, none⟩ = some (.int .i64 p.size.a2) ∧ w'.cell? ⟨pB, 9, none⟩ = some (.int .i64 p.size.a3) ∧ w'.cell? ⟨pB, 10, none⟩ = some (.int .i64 p.size.a4) ∧ w'.cell? ⟨pB, 11, none⟩ = some (.int .i64 p.size.a5) ∧ w'.cell? ⟨pB, 12, none⟩ = some (.int .i64 p.cells) ∧ w'.cell? ⟨pB, 13, none⟩ = some (.int .i64 p.slots) ∧ w'.cell? ⟨pB, 14, none⟩ = some (.int .i64 p.live) ∧ w'.cell? ⟨uB, 0, none⟩ = some (.int .i64 u.a0) ∧ w'.cell? ⟨uB, 1, none⟩ = some (.int .i64 u.a1) ∧ w'.cell? ⟨uB, 2, none⟩ = some (.int .i64 u.a2) ∧ w'.cell? ⟨uB, 3, none⟩ = some (.int .i64 u.a3) ∧ w'.cell? ⟨uB, 4, none⟩ = some (.int .i64 u.a4) ∧ w'.cell? ⟨uB, 5, none⟩ = some (.int .i64 u.a5) ∧ w'.cell? ⟨tB, j, none⟩ = some (.int .i64 (t1 : Int)) ∧ w'.cell? ⟨B5, 0, none⟩ = some (.int .u8 x) ∧ w'.cell? ⟨B5, 1, none⟩ = some (.int .u32 v)) (go_keep)
        (first
          | (go_at_call 12; refine (HN1.out _ ?_ ?_).mono ?_; (focus ((repeat (first | with_reducible exact Blk.new _ _ _ | with_reducible refine Blk.drew ?_ | with_reducible refine Blk.drewN ?_ _ | (with_reducible refine Blk.new' _ _ _ ?_; focus (simp; done)))); done)); (focus ((repeat (first | with_reducible exact HKW.out | with_reducible exact Keeps.refl _ _ | with_reducible refine Keeps.drew ?_ | with_reducible refine Keeps.drewN ?_ _ | with_reducible refine Keeps.alloc ?_ ?_ _)); all_goals (intro b hb; exact hb))); rintro e wb ⟨rfl, HW, ⟨zc0, zc1, zc2, zc3, zc4, zc5, zf0, zf1, zf2, zf3, zf4, zf5⟩, ⟨q0, q1, q2, q3, q4, q5, q6, q7, q8, q9, q10, q11, q12, q13, q14, q15, q16, q17, q18, q19, q20, q21, q22, q23, q24⟩, ⟨e0, e1, e2, e3, e4⟩⟩)
          | (go_at_call 12; refine (HN0.out _ ?_).mono ?_; (focus ((repeat (first | with_reducible exact HKW.out | with_reducible exact Keeps.refl _ _ | with_reducible refine Keeps.drew ?_ | with_reducible refine Keeps.drewN ?_ _ | with_reducible refine Keeps.alloc ?_ ?_ _)); all_goals (intro b hb; exact hb))); rintro e wb ⟨rfl, HW, ⟨q0, q1, q2, q3, q4, q5, q6, q7, q8, q9, q10, q11, q12, q13, q14, q15, q16, q17, q18, q19, q20, q21, q22, q23, q24⟩, ⟨e0, e1, e2, e3, e4⟩⟩))
      all_goals
        go_wp2_with fail
        go_meet
      · case rel =>
          exact ⟨_, rfl, rfl, rfl, HW.out.2.1.size, Blk.new wb _ _, (by obtain ⟨μ', hm', hc'⟩ := HW.out.1; exact ⟨μ', hm'.keep (K := (· < wb.heap.size)) ((Keeps.refl _ _).alloc (fun b hb => hb) _) hm'.obj.lt hm'.cells.lt, hc'⟩), HW.out.2.1.alloc (fun b hb => by have := HW.out.2.1.size; omega) _⟩
      · case rel =>
          exact ⟨_, rfl, rfl, rfl, Nat.le_refl _, Blk.set6 HW.out.2.2 _ _ _ _ _ _ rfl, (by obtain ⟨μ', hm', hc'⟩ := HW.out.1; exact ⟨μ', hm'.keep (K := (· ≠ w1.heap.size)) ((Keeps.refl _ _).set6 _ _ _ _ _ _ (fun h => h rfl)) (by have := HL1.out; omega) (by have := HL1.out; omega), hc'⟩), HW.out.2.1.set6 _ _ _ _ _ _ (fun h => by have := h.1; omega)⟩
    case rest =>
      obtain ⟨B7, rfl, rfl, rfl, hB7, hBk, ⟨μ', hm', hc'⟩, hkc⟩ := hcut
      have hl := HL1.out
      have hne := HNE.out
      have hzc := hkc.size
      have g3 := HB1.out.2.2.1.keep hkc ⟨by omega, by omega, by omega⟩
      have g4 := HB1.out.2.2.2.1.keep hkc ⟨by omega, by omega, by omega⟩
      have g5 := HB1.out.2.2.2.2.keep hkc ⟨by omega, by omega, by omega⟩
      have hkw : Keeps (fun b => b < B5 ∧ b ≠ m ∧ b ≠ c) w wc := (HK1.out.mono fun b hb => hb.1).trans (hkc.mono fun b hb => ⟨by omega, hb.2⟩)
      clear hkc HB1 HN0 HN1
      clear hct n1 n2 n3 n4 n5 cm0 cp0 cp1 cp2 cp3 cp4 cp5 cp6 cp7 cp8 cp9 cp10 cp11 cp12 cp13 cp14 cu0 cu1 cu2 cu3 cu4 cu5 cf0 cf1
      have Hkw := hid hkw
      have Hm' := hid hm'
      have Hc' := hid hc'
      clear hkw hm' hc'
      have hcc := Hc'.out
      have G3 := hid g3
      have G4 := hid g4
      clear g3 g4
      clear g5 hBk hne hl hB7 hzc
      have HCC := hid hcc
      clear hcc
      go_wp2_with fail
      go_end0
      refine hR'.out _ _ ⟨rfl, μ', q, T, u, ⟨Hm'.out, by rw [HCC.out]; exact HI.out, HU.out, by rw [HCC.out]; exact HLEN.out, G3.out, G4.out⟩, ⟨fun _ h => h, fun _ _ => by rw [HCC.out]⟩, fun t l h => (by rw [HCC.out]; exact h), fun i l h => ⟨l, by rw [HCC.out]; exact h, by omega⟩, Hkw.out.mono fun b hb => ⟨hb.1, hb.2.1, hb.2.2.1⟩⟩
end Go.Proofs.YtbmgmjfpoepgpaaDoor
