/- Contracts: post.Put. -/
import Derived.Test.YtbmgmjfpoepgpaaDoorPoolT
import Derived.Test.YtbmgmjfpoepgpaaDoorRun
import Derived.Test.YtbmgmjfpoepgpaaDoorInit
import Derived.Deep.RegionHeld3
import Derived.Deep.DrawnRows
import Derived.Deep.CutRange
namespace Go.Proofs.YtbmgmjfpoepgpaaDoor
open Go.RowKit

def zeros6v : V6 := ⟨0, 0, 0, 0, 0, 0⟩
def V6.list (u : V6) : List Value := [.int .i64 u.a0, .int .i64 u.a1, .int .i64 u.a2, .int .i64 u.a3, .int .i64 u.a4, .int .i64 u.a5]
/-- the accesses of a Put behind a tail within a slab -/
def putIn (t v : Int) : Tree Unit := .store (t + 1) v (.ret ())
/-- .. that takes a slab at a -/
def putNew (t a v : Int) : Tree Unit := if t = 0 then .store (a + 1) v (.ret ()) else .store a t (.store (a + 1) v (.ret ()))

set_option maxRecDepth 100000 in
set_option maxHeartbeats 4000000 in
theorem put_in {w : World} {K : Nat → Prop} {r m c : Nat} {s : St} (h : RM w K r m c s) (hK0 : K 0) (ht : Tab w) (p : PlanM) (hp : p.Wf) (u : V6) (t v : Int) (ht0 : 0 ≤ t ∧ t ≤ 131072) (hv : U32 v) (hn : p.next t = (-1, true)) :
    Calls Tryd.prog 37 #[.pointer (some ⟨r, 0, none⟩), p.val, u.val, .int .i64 t, .int .u32 v] w fun e w' =>
      e = .returned (.tuple #[.int .i64 (t + 1), u.val, .int .i64 0]) ∧ RM w' K r m c ((putIn t v).exec s).2 ∧ Keeps K w w' := by
  have H := hid h
  have HT := hid ht
  have HP := hid hp
  have HK0 := hid hK0
  have HLT := hid h.lt
  obtain ⟨ht0', ht1⟩ := ht0
  have hcall := fun w hw => next_call p t w HP.out hw (by omega)
  rw [hn] at hcall
  clear h ht hp hK0 hn
  refine calls_hide fun R' hR' => ?_
  unfold PlanM.val V6.val at *
  go_enter Tryd.func37, Tryd.ntmps37
  go_wp2_with fail
  refine calls_gen (fun W => Blk W w.heap.size p.flat ∧ Blk W (w.heap.size + 1) [.int .i64 u.a0, .int .i64 u.a1, .int .i64 u.a2, .int .i64 u.a3, .int .i64 u.a4, .int .i64 u.a5] ∧ Blk W (w.heap.size + 1 + 1) [.int .i64 0, .int .i64 0, .int .i64 0, .int .i64 0, .int .i64 0, .int .i64 0] ∧ Keeps (· < w.heap.size) w W) ⟨?_, ?_, ?_, ?_⟩ (fun W0 HW => ?_)
  · have h0 := Blk.new w p.flat 29
    exact (h0.alloc _).alloc _
  · repeat (first | with_reducible assumption | with_reducible exact Blk.new _ _ _ | with_reducible refine Blk.drew ?_ | with_reducible refine Blk.drewN ?_ _ | with_reducible refine Blk.set_ne ?_ _ ?_ | (with_reducible refine Blk.new' _ _ _ ?_; focus (simp; done)) | with_reducible refine Blk.alloc ?_ _)
    all_goals (first | assumption | (simp; done) | (simp; omega))
  · repeat (first | with_reducible assumption | with_reducible exact Blk.new _ _ _ | with_reducible refine Blk.drew ?_ | with_reducible refine Blk.drewN ?_ _ | with_reducible refine Blk.set_ne ?_ _ ?_ | (with_reducible refine Blk.new' _ _ _ ?_; focus (simp; done)) | with_reducible refine Blk.alloc ?_ _)
    all_goals (first | assumption | (simp; done) | (simp; omega))
  · repeat (first | with_reducible assumption | with_reducible exact Keeps.refl _ _ | with_reducible refine Keeps.drew ?_ | with_reducible refine Keeps.drewN ?_ _ | with_reducible refine Keeps.setCell ?_ ?_ _ | with_reducible refine Keeps.alloc ?_ ?_ _)
    all_goals (first | (simp; done) | (simp; omega) | (intro b hb; first | exact hb | omega | (simp; omega) | (simp only [World.size_alloc]; omega)))
  obtain ⟨hA0, hA1, hA2, hkA⟩ := HW
  refine (hcall W0 (HT.out.keep hkA HT.out.2.2.2.2)).mono ?_
  rintro e w1 ⟨rfl, hk1⟩
  have hB0 := hA0.keep hk1 hA0.lt
  have hB1 := hA1.keep hk1 hA1.lt
  have hB2 := hA2.keep hk1 hA2.lt
  have hkw := hkA.trans (hk1.mono fun b hb => by have := hkA.size; omega)
  have hT1 := HT.out.keep hkw HT.out.2.2.2.2
  clear hcall hA0 hA1 hA2 hkA hk1
  have hR1 := H.out.moreB hkw
  generalize hBB : w.heap.size = B at *
  have hg0 : K B ∨ (B ≤ B ∧ B < w1.heap.size) := Or.inr ⟨by omega, hB0.lt⟩
  have hg1 : K (B + 1) ∨ (B ≤ B + 1 ∧ B + 1 < w1.heap.size) := Or.inr ⟨by omega, hB1.lt⟩
  have hg2 : K (B + 1 + 1) ∨ (B ≤ B + 1 + 1 ∧ B + 1 + 1 < w1.heap.size) := Or.inr ⟨by omega, hB2.lt⟩
  generalize hK1 : (fun b => K b ∨ (B ≤ b ∧ b < w1.heap.size)) = K1 at *
  have hKK : ∀ b, K b → K1 b := by rw [← hK1]; exact fun b hb => Or.inl hb
  have hg0' : K1 B := by rw [← hK1]; exact hg0
  have hg1' : K1 (B + 1) := by rw [← hK1]; exact hg1
  have hg2' : K1 (B + 1 + 1) := by rw [← hK1]; exact hg2
  have hlt' : ∀ b, K b → b < B := HLT.out
  have hkK : Keeps K w w1 := hkw.mono hlt'
  clear hK1 hg0 hg1 hg2
  have HKK := hid hKK
  have Hg0' := hid hg0'
  have Hg1' := hid hg1'
  have Hg2' := hid hg2'
  have HkK := hid hkK
  have Hlt' := hid hlt'
  have HBB := hid hBB
  clear hKK hg0' hg1' hg2' hkK hlt' hBB
  have HR1 := hid hR1
  have HB1 := hid hB1
  have HB2 := hid hB2
  clear hR1 hB0 hB1 hB2 hT1 hkw
  go_wp2_with fail
  refine (step_store HR1.out (t + 1) v hv).mono ?_
  rintro e w3 ⟨rfl, hr3, hk3⟩
  have hE1 := HB1.out.keep hk3 Hg1'.out
  have hE2 := HB2.out.keep hk3 Hg2'.out
  have hkf : Keeps K w w3 := HkK.out.trans (hk3.mono HKK.out)
  have hrf : RM w3 K1 r m c (s.store (t + 1) v) := hr3
  clear hr3 hk3
  have Hkf := hid hkf
  have Hrf := hid hrf
  clear hkf hrf
  have d0 := (hE1).cell 0
  have d1 := (hE1).cell 1
  have d2 := (hE1).cell 2
  have d3 := (hE1).cell 3
  have d4 := (hE1).cell 4
  have d5 := (hE1).cell 5
  simp only [List.getElem?_cons_zero, List.getElem?_cons_succ] at d0 d1 d2 d3 d4 d5
  have z0 := (hE2).cell 0
  have z1 := (hE2).cell 1
  have z2 := (hE2).cell 2
  have z3 := (hE2).cell 3
  have z4 := (hE2).cell 4
  have z5 := (hE2).cell 5
  simp only [List.getElem?_cons_zero, List.getElem?_cons_succ] at z0 z1 z2 z3 z4 z5
  have f2 := hE2.free
  go_wp2_with fail
  go_region
  go_wp2_with fail
  refine bp_gen (fun W => Blk W (B + 1 + 1) [.int .i64 u.a0, .int .i64 u.a1, .int .i64 u.a2, .int .i64 u.a3, .int .i64 u.a4, .int .i64 u.a5] ∧ Keeps K w W ∧ RM W K1 r m c (s.store (t + 1) v)) ⟨?_, ?_, ?_⟩ ?_
  · first | with_reducible exact Blk.set6 hE2 _ _ _ _ _ _ (by simp) | with_reducible exact (Blk.set6 hE2 _ _ _ _ _ _ (by simp)).drew
  · repeat (first | with_reducible exact Hkf.out | with_reducible refine Keeps.drew ?_ | with_reducible refine Keeps.setCell ?_ ?_ _)
    all_goals (intro hb; have := Hlt'.out _ hb; simp at this; omega)
  · repeat (first | with_reducible exact Hrf.out | with_reducible exact Hg2'.out | with_reducible refine RM.drew ?_ | with_reducible refine RM.setK ?_ ?_ _)
    all_goals exact Hg2'.out
  clear hE1 hE2 f2 d0 d1 d2 d3 d4 d5 z0 z1 z2 z3 z4 z5
  rintro W3 ⟨hE2, hkf, hrf⟩
  have d0 := (hE2).cell 0
  have d1 := (hE2).cell 1
  have d2 := (hE2).cell 2
  have d3 := (hE2).cell 3
  have d4 := (hE2).cell 4
  have d5 := (hE2).cell 5
  simp only [List.getElem?_cons_zero, List.getElem?_cons_succ] at d0 d1 d2 d3 d4 d5
  refine bodyPost_ret (v := .tuple #[.int .i64 (t + 1), .agg #[.int .i64 u.a0, .int .i64 u.a1, .int .i64 u.a2, .int .i64 u.a3, .int .i64 u.a4, .int .i64 u.a5], .int .i64 0]) ?_ rfl ?_
  · simp [results, Tryd.results37, go_sem, d0, d1, d2, d3, d4, d5]
  · exact hR'.out _ _ ⟨rfl, hrf.mono HKK.out, hkf⟩

set_option maxRecDepth 100000 in
set_option maxHeartbeats 4000000 in
theorem put_new {w : World} {K : Nat → Prop} {r m c : Nat} {s : St} (h : RM w K r m c s) (hK0 : K 0) (ht : Tab w) (p : PlanM) (hp : p.Wf) (u : V6) (t v : Int) (k : Nat) (hk : k ≤ 3) (ht0 : 0 ≤ t ∧ t ≤ 131072) (hv : U32 v) (hn : p.next t = ((k : Int), true)) (h0 : 0 ≤ u.uK k) (hfit : u.uK k + szK k ≤ p.sK k) :
    Calls Tryd.prog 37 #[.pointer (some ⟨r, 0, none⟩), p.val, u.val, .int .i64 t, .int .u32 v] w fun e w' =>
      e = .returned (.tuple #[.int .i64 (p.bK k + u.uK k + 1), (u.up k (szK k)).val, .int .i64 0]) ∧ RM w' K r m c ((putNew t (p.bK k + u.uK k) v).exec s).2 ∧ Keeps K w w' := by
  have H := hid h
  have HT := hid ht
  have HP := hid hp
  have HK0 := hid hK0
  have HLT := hid h.lt
  obtain ⟨ht0', ht1⟩ := ht0
  have hcall := fun w hw => next_call p t w HP.out hw (by omega)
  rw [hn] at hcall
  clear h ht hp hK0 hn
  refine calls_hide fun R' hR' => ?_
  unfold PlanM.val V6.val at *
  go_enter Tryd.func37, Tryd.ntmps37
  go_wp2_with fail
  refine calls_gen (fun W => Blk W w.heap.size p.flat ∧ Blk W (w.heap.size + 1) [.int .i64 u.a0, .int .i64 u.a1, .int .i64 u.a2, .int .i64 u.a3, .int .i64 u.a4, .int .i64 u.a5] ∧ Blk W (w.heap.size + 1 + 1) [.int .i64 0, .int .i64 0, .int .i64 0, .int .i64 0, .int .i64 0, .int .i64 0] ∧ Keeps (· < w.heap.size) w W) ⟨?_, ?_, ?_, ?_⟩ (fun W0 HW => ?_)
  · have h0 := Blk.new w p.flat 29
    exact (h0.alloc _).alloc _
  · repeat (first | with_reducible assumption | with_reducible exact Blk.new _ _ _ | with_reducible refine Blk.drew ?_ | with_reducible refine Blk.drewN ?_ _ | with_reducible refine Blk.set_ne ?_ _ ?_ | (with_reducible refine Blk.new' _ _ _ ?_; focus (simp; done)) | with_reducible refine Blk.alloc ?_ _)
    all_goals (first | assumption | (simp; done) | (simp; omega))
  · repeat (first | with_reducible assumption | with_reducible exact Blk.new _ _ _ | with_reducible refine Blk.drew ?_ | with_reducible refine Blk.drewN ?_ _ | with_reducible refine Blk.set_ne ?_ _ ?_ | (with_reducible refine Blk.new' _ _ _ ?_; focus (simp; done)) | with_reducible refine Blk.alloc ?_ _)
    all_goals (first | assumption | (simp; done) | (simp; omega))
  · repeat (first | with_reducible assumption | with_reducible exact Keeps.refl _ _ | with_reducible refine Keeps.drew ?_ | with_reducible refine Keeps.drewN ?_ _ | with_reducible refine Keeps.setCell ?_ ?_ _ | with_reducible refine Keeps.alloc ?_ ?_ _)
    all_goals (first | (simp; done) | (simp; omega) | (intro b hb; first | exact hb | omega | (simp; omega) | (simp only [World.size_alloc]; omega)))
  obtain ⟨hA0, hA1, hA2, hkA⟩ := HW
  refine (hcall W0 (HT.out.keep hkA HT.out.2.2.2.2)).mono ?_
  rintro e w1 ⟨rfl, hk1⟩
  have hB0 := hA0.keep hk1 hA0.lt
  have hB1 := hA1.keep hk1 hA1.lt
  have hB2 := hA2.keep hk1 hA2.lt
  have hkw := hkA.trans (hk1.mono fun b hb => by have := hkA.size; omega)
  have hT1 := HT.out.keep hkw HT.out.2.2.2.2
  clear hcall hA0 hA1 hA2 hkA hk1
  have hW1 := hid (And.intro hB0 (And.intro hB1 (And.intro hB2 (And.intro hkw hT1))))
  unfold PlanM.flat at hB0
  have c0 := (hB0).cell 0
  have c1 := (hB0).cell 1
  have c2 := (hB0).cell 2
  have c3 := (hB0).cell 3
  have c4 := (hB0).cell 4
  have c5 := (hB0).cell 5
  have c6 := (hB0).cell 6
  have c7 := (hB0).cell 7
  have c8 := (hB0).cell 8
  have c9 := (hB0).cell 9
  have c10 := (hB0).cell 10
  have c11 := (hB0).cell 11
  have c12 := (hB0).cell 12
  have c13 := (hB0).cell 13
  have c14 := (hB0).cell 14
  simp only [List.getElem?_cons_zero, List.getElem?_cons_succ] at c0 c1 c2 c3 c4 c5 c6 c7 c8 c9 c10 c11 c12 c13 c14
  have d0 := (hB1).cell 0
  have d1 := (hB1).cell 1
  have d2 := (hB1).cell 2
  have d3 := (hB1).cell 3
  have d4 := (hB1).cell 4
  have d5 := (hB1).cell 5
  simp only [List.getElem?_cons_zero, List.getElem?_cons_succ] at d0 d1 d2 d3 d4 d5
  have HTk := hid (fun W (hW : Keeps (· < w1.heap.size) w1 W) => hT1.keep hW hT1.2.2.2.2)
  have hsz : szK k ≤ 256 ∧ 4 ≤ szK k := by
    have : k = 0 ∨ k = 1 ∨ k = 2 ∨ k = 3 := by omega
    rcases this with rfl | rfl | rfl | rfl <;> decide
  have HSS := hid (show ∀ wa w' : World, Keeps (· < w1.heap.size) w1 wa → Keeps (· < wa.heap.size) wa w' → ((w'.cell? ⟨w.heap.size, 0, none⟩ = some (.int .i64 p.base.a0) ∧ w'.cell? ⟨w.heap.size, 1, none⟩ = some (.int .i64 p.base.a1) ∧ w'.cell? ⟨w.heap.size, 2, none⟩ = some (.int .i64 p.base.a2) ∧ w'.cell? ⟨w.heap.size, 3, none⟩ = some (.int .i64 p.base.a3) ∧ w'.cell? ⟨w.heap.size, 4, none⟩ = some (.int .i64 p.base.a4) ∧ w'.cell? ⟨w.heap.size, 5, none⟩ = some (.int .i64 p.base.a5) ∧ w'.cell? ⟨w.heap.size, 6, none⟩ = some (.int .i64 p.size.a0) ∧ w'.cell? ⟨w.heap.size, 7, none⟩ = some (.int .i64 p.size.a1) ∧ w'.cell? ⟨w.heap.size, 8, none⟩ = some (.int .i64 p.size.a2) ∧ w'.cell? ⟨w.heap.size, 9, none⟩ = some (.int .i64 p.size.a3) ∧ w'.cell? ⟨w.heap.size, 10, none⟩ = some (.int .i64 p.size.a4) ∧ w'.cell? ⟨w.heap.size, 11, none⟩ = some (.int .i64 p.size.a5) ∧ w'.cell? ⟨w.heap.size, 12, none⟩ = some (.int .i64 p.cells) ∧ w'.cell? ⟨w.heap.size, 13, none⟩ = some (.int .i64 p.slots) ∧ w'.cell? ⟨w.heap.size, 14, none⟩ = some (.int .i64 p.live) ∧ w'.cell? ⟨w.heap.size + 1, 0, none⟩ = some (.int .i64 u.a0) ∧ w'.cell? ⟨w.heap.size + 1, 1, none⟩ = some (.int .i64 u.a1) ∧ w'.cell? ⟨w.heap.size + 1, 2, none⟩ = some (.int .i64 u.a2) ∧ w'.cell? ⟨w.heap.size + 1, 3, none⟩ = some (.int .i64 u.a3) ∧ w'.cell? ⟨w.heap.size + 1, 4, none⟩ = some (.int .i64 u.a4) ∧ w'.cell? ⟨w.heap.size + 1, 5, none⟩ = some (.int .i64 u.a5)) ∧ ¬ w'.heap.size = w.heap.size ∧ ¬ w'.heap.size = w.heap.size + 1) from by
    intro wa w' k1 k2
    have k : Keeps (· < w1.heap.size) w1 w' := k1.trans (k2.mono fun b hb => by have := k1.size; omega)
    have e0 := fun i => World.cell?_of_block (a := ⟨w.heap.size, i, none⟩) (k.block w.heap.size hB0.lt)
    have e1 := fun i => World.cell?_of_block (a := ⟨w.heap.size + 1, i, none⟩) (k.block (w.heap.size + 1) hB1.lt)
    exact ⟨⟨(e0 0).trans c0, (e0 1).trans c1, (e0 2).trans c2, (e0 3).trans c3, (e0 4).trans c4, (e0 5).trans c5, (e0 6).trans c6, (e0 7).trans c7, (e0 8).trans c8, (e0 9).trans c9, (e0 10).trans c10, (e0 11).trans c11, (e0 12).trans c12, (e0 13).trans c13, (e0 14).trans c14, (e1 0).trans d0, (e1 1).trans d1, (e1 2).trans d2, (e1 3).trans d3, (e1 4).trans d4, (e1 5).trans d5⟩, by have := k.size; have := hB0.lt; omega, by have := k.size; have := hB1.lt; omega⟩)
  have HZZ := hid (show ∀ (wa w' : World) (b : Nat), Blk wa b [.int .i64 0, .int .i64 0, .int .i64 0, .int .i64 0, .int .i64 0, .int .i64 0] → Keeps (· < wa.heap.size) wa w' → w'.cell? ⟨b, 0, none⟩ = some (.int .i64 0) ∧ w'.cell? ⟨b, 1, none⟩ = some (.int .i64 0) ∧ w'.cell? ⟨b, 2, none⟩ = some (.int .i64 0) ∧ w'.cell? ⟨b, 3, none⟩ = some (.int .i64 0) ∧ w'.cell? ⟨b, 4, none⟩ = some (.int .i64 0) ∧ w'.cell? ⟨b, 5, none⟩ = some (.int .i64 0) ∧ w'.frozen? ⟨b, 0, none⟩ = false ∧ w'.frozen? ⟨b, 1, none⟩ = false ∧ w'.frozen? ⟨b, 2, none⟩ = false ∧ w'.frozen? ⟨b, 3, none⟩ = false ∧ w'.frozen? ⟨b, 4, none⟩ = false ∧ w'.frozen? ⟨b, 5, none⟩ = false from by
    intro wa w' b h k
    have h' := h.keep k h.lt
    have z0 := (h').cell 0
    have z1 := (h').cell 1
    have z2 := (h').cell 2
    have z3 := (h').cell 3
    have z4 := (h').cell 4
    have z5 := (h').cell 5
    simp only [List.getElem?_cons_zero, List.getElem?_cons_succ] at z0 z1 z2 z3 z4 z5
    exact ⟨z0, z1, z2, z3, z4, z5, h'.free 0, h'.free 1, h'.free 2, h'.free 3, h'.free 4, h'.free 5⟩)
  have hl0 := hB0.lt
  have hl1 := hB1.lt
  clear hB0 hB1 hB2 hkw hT1
  have hkp : 0 ≤ (k : Int) := by omega
  go_wp2_with fail
  generalize hBB : w.heap.size = B at *
  have hne0 : ¬ w1.heap.size = B := by omega
  have hne1 : ¬ w1.heap.size = B + 1 := by omega
  generalize hZ : szK k = z at *
  have HSL := hid (fun W hW => hZ ▸ slab_call k hk W hW)
  obtain ⟨hz1, hz2⟩ := hsz
  have HTK := hid (fun W => take_yes p u k hk z W HP.out (by omega) h0 hfit)
  have hg0 : 0 ≤ p.bK k + u.uK k ∧ p.bK k + u.uK k ≤ 131072 := by
    have h1 := HP.out.b k
    have h2 := HP.out.s k
    omega
  obtain ⟨nu, hnu⟩ : ∃ nu, nu = u.up k z := ⟨_, rfl⟩
  rw [← hnu] at HTK
  generalize hA : p.bK k + u.uK k = ad at *
  have HTB := hid (show ∀ wa, Keeps (· < w1.heap.size) w1 wa → Calls Tryd.prog 61 #[p.val, u.val, .int .i64 (k : Int), .int .i64 z] wa fun e w' => e = .returned (.tuple #[.int .i64 ad, nu.val, .int .i64 0]) ∧ Hid (Keeps (· < w1.heap.size) w1 w') ∧
      ((w'.cell? ⟨B, 0, none⟩ = some (.int .i64 p.base.a0) ∧ w'.cell? ⟨B, 1, none⟩ = some (.int .i64 p.base.a1) ∧ w'.cell? ⟨B, 2, none⟩ = some (.int .i64 p.base.a2) ∧ w'.cell? ⟨B, 3, none⟩ = some (.int .i64 p.base.a3) ∧ w'.cell? ⟨B, 4, none⟩ = some (.int .i64 p.base.a4) ∧ w'.cell? ⟨B, 5, none⟩ = some (.int .i64 p.base.a5) ∧ w'.cell? ⟨B, 6, none⟩ = some (.int .i64 p.size.a0) ∧ w'.cell? ⟨B, 7, none⟩ = some (.int .i64 p.size.a1) ∧ w'.cell? ⟨B, 8, none⟩ = some (.int .i64 p.size.a2) ∧ w'.cell? ⟨B, 9, none⟩ = some (.int .i64 p.size.a3) ∧ w'.cell? ⟨B, 10, none⟩ = some (.int .i64 p.size.a4) ∧ w'.cell? ⟨B, 11, none⟩ = some (.int .i64 p.size.a5) ∧ w'.cell? ⟨B, 12, none⟩ = some (.int .i64 p.cells) ∧ w'.cell? ⟨B, 13, none⟩ = some (.int .i64 p.slots) ∧ w'.cell? ⟨B, 14, none⟩ = some (.int .i64 p.live) ∧ w'.cell? ⟨B + 1, 0, none⟩ = some (.int .i64 u.a0) ∧ w'.cell? ⟨B + 1, 1, none⟩ = some (.int .i64 u.a1) ∧ w'.cell? ⟨B + 1, 2, none⟩ = some (.int .i64 u.a2) ∧ w'.cell? ⟨B + 1, 3, none⟩ = some (.int .i64 u.a3) ∧ w'.cell? ⟨B + 1, 4, none⟩ = some (.int .i64 u.a4) ∧ w'.cell? ⟨B + 1, 5, none⟩ = some (.int .i64 u.a5)) ∧ ¬ w'.heap.size = B ∧ ¬ w'.heap.size = B + 1) from fun wa h1 => by
    refine (HTK.out wa).mono ?_
    rintro e w' ⟨rfl, h2⟩
    exact ⟨rfl, h1.trans (h2.mono fun b hb => by have := h1.size; omega), HSS.out _ _ h1 h2⟩)
  have HTA := hid (show ∀ wa, Blk wa w1.heap.size [.int .i64 0, .int .i64 0, .int .i64 0, .int .i64 0, .int .i64 0, .int .i64 0] → Keeps (· < w1.heap.size) w1 wa → Calls Tryd.prog 61 #[p.val, u.val, .int .i64 (k : Int), .int .i64 z] wa fun e w' => e = .returned (.tuple #[.int .i64 ad, nu.val, .int .i64 0]) ∧ Hid (Keeps (· < w1.heap.size) w1 w') ∧ Hid (Blk w' w1.heap.size [.int .i64 0, .int .i64 0, .int .i64 0, .int .i64 0, .int .i64 0, .int .i64 0]) ∧
      (w'.cell? ⟨w1.heap.size, 0, none⟩ = some (.int .i64 0) ∧ w'.cell? ⟨w1.heap.size, 1, none⟩ = some (.int .i64 0) ∧ w'.cell? ⟨w1.heap.size, 2, none⟩ = some (.int .i64 0) ∧ w'.cell? ⟨w1.heap.size, 3, none⟩ = some (.int .i64 0) ∧ w'.cell? ⟨w1.heap.size, 4, none⟩ = some (.int .i64 0) ∧ w'.cell? ⟨w1.heap.size, 5, none⟩ = some (.int .i64 0) ∧ w'.frozen? ⟨w1.heap.size, 0, none⟩ = false ∧ w'.frozen? ⟨w1.heap.size, 1, none⟩ = false ∧ w'.frozen? ⟨w1.heap.size, 2, none⟩ = false ∧ w'.frozen? ⟨w1.heap.size, 3, none⟩ = false ∧ w'.frozen? ⟨w1.heap.size, 4, none⟩ = false ∧ w'.frozen? ⟨w1.heap.size, 5, none⟩ = false) ∧ ((w'.cell? ⟨B, 0, none⟩ = some (.int .i64 p.base.a0) ∧ w'.cell? ⟨B, 1, none⟩ = some (.int .i64 p.base.a1) ∧ w'.cell? ⟨B, 2, none⟩ = some (.int .i64 p.base.a2) ∧ w'.cell? ⟨B, 3, none⟩ = some (.int .i64 p.base.a3) ∧ w'.cell? ⟨B, 4, none⟩ = some (.int .i64 p.base.a4) ∧ w'.cell? ⟨B, 5, none⟩ = some (.int .i64 p.base.a5) ∧ w'.cell? ⟨B, 6, none⟩ = some (.int .i64 p.size.a0) ∧ w'.cell? ⟨B, 7, none⟩ = some (.int .i64 p.size.a1) ∧ w'.cell? ⟨B, 8, none⟩ = some (.int .i64 p.size.a2) ∧ w'.cell? ⟨B, 9, none⟩ = some (.int .i64 p.size.a3) ∧ w'.cell? ⟨B, 10, none⟩ = some (.int .i64 p.size.a4) ∧ w'.cell? ⟨B, 11, none⟩ = some (.int .i64 p.size.a5) ∧ w'.cell? ⟨B, 12, none⟩ = some (.int .i64 p.cells) ∧ w'.cell? ⟨B, 13, none⟩ = some (.int .i64 p.slots) ∧ w'.cell? ⟨B, 14, none⟩ = some (.int .i64 p.live) ∧ w'.cell? ⟨B + 1, 0, none⟩ = some (.int .i64 u.a0) ∧ w'.cell? ⟨B + 1, 1, none⟩ = some (.int .i64 u.a1) ∧ w'.cell? ⟨B + 1, 2, none⟩ = some (.int .i64 u.a2) ∧ w'.cell? ⟨B + 1, 3, none⟩ = some (.int .i64 u.a3) ∧ w'.cell? ⟨B + 1, 4, none⟩ = some (.int .i64 u.a4) ∧ w'.cell? ⟨B + 1, 5, none⟩ = some (.int .i64 u.a5)) ∧ ¬ w'.heap.size = B ∧ ¬ w'.heap.size = B + 1) from fun wa h0 h1 => by
    refine (HTK.out wa).mono ?_
    rintro e w' ⟨rfl, h2⟩
    exact ⟨rfl, h1.trans (h2.mono fun b hb => by have := h1.size; omega), h0.keep h2 h0.lt, HZZ.out _ _ _ h0 h2, HSS.out _ _ h1 h2⟩)
  unfold PlanM.val V6.val at HTA HTB
  have HTR := hid (And.intro ht0' ht1)
  have HV := hid hv
  clear hZ hk h0 hfit hv ht0' ht1 HTK
  have HNA := hid (And.intro hnu hA)
  clear hnu hA
  go_cut [15, 16, 17] from 29 to 38 (fun a b e wx => ∃ B3, a = .int .i64 ad ∧ b = .pointer (some ⟨B3, 0, none⟩) ∧ e = .int .i64 0 ∧ w1.heap.size ≤ B3 ∧ Blk wx B3 nu.list ∧ Keeps (· < w1.heap.size) w1 wx)
  case first =>
    go_region_held3 (fun w' => w'.cell? ⟨B, 0, none⟩ = some (.int .i64 p.base.a0) ∧ w'.cell? ⟨B, 1, none⟩ = some (.int .i64 p.base.a1) ∧ w'.cell? ⟨B, 2, none⟩ = some (.int .i64 p.base.a2) ∧ w'.cell? ⟨B, 3, none⟩ = some (.int .i64 p.base.a3) ∧ w'.cell? ⟨B, 4, none⟩ = some (.int .i64 p.base.a4) ∧ w'.cell? ⟨B, 5, none⟩ = some (.int .i64 p.base.a5) ∧ w'.cell? ⟨B, 6, none⟩ = some (.int .i64 p.size.a0) ∧ w'.cell? ⟨B, 7, none⟩ = some (.int .i64 p.size.a1) ∧ w'.cell? ⟨B, 8, none⟩ = some (.int .i64 p.size.a2) ∧ w'.cell? ⟨B, 9, none⟩ = some (.int .i64 p.size.a3) ∧ w'.cell? ⟨B, 10, none⟩ = some (.int .i64 p.size.a4) ∧ w'.cell? ⟨B, 11, none⟩ = some (.int .i64 p.size.a5) ∧ w'.cell? ⟨B, 12, none⟩ = some (.int .i64 p.cells) ∧ w'.cell? ⟨B, 13, none⟩ = some (.int .i64 p.slots) ∧ w'.cell? ⟨B, 14, none⟩ = some (.int .i64 p.live) ∧ w'.cell? ⟨B + 1, 0, none⟩ = some (.int .i64 u.a0) ∧ w'.cell? ⟨B + 1, 1, none⟩ = some (.int .i64 u.a1) ∧ w'.cell? ⟨B + 1, 2, none⟩ = some (.int .i64 u.a2) ∧ w'.cell? ⟨B + 1, 3, none⟩ = some (.int .i64 u.a3) ∧ w'.cell? ⟨B + 1, 4, none⟩ = some (.int .i64 u.a4) ∧ w'.cell? ⟨B + 1, 5, none⟩ = some (.int .i64 u.a5)) (go_keep)
      (first
        | (go_at_call 41; refine (HSL.out _ (HTk.out _ (by (repeat (first | with_reducible exact Keeps.refl _ _ | with_reducible refine Keeps.drew ?_ | with_reducible refine Keeps.drewN ?_ _ | with_reducible refine Keeps.alloc ?_ ?_ _)); all_goals (intro b hb; exact hb)))).mono ?_; rintro e wa ⟨rfl, rfl⟩)
        | (go_at_call 61; refine (HTA.out _ ?_ ?_).mono ?_; (focus ((repeat (first | with_reducible exact Blk.new _ _ _ | with_reducible refine Blk.drew ?_ | with_reducible refine Blk.drewN ?_ _ | (with_reducible refine Blk.new' _ _ _ ?_; focus (simp; done)))); done)); (focus ((repeat (first | with_reducible exact Keeps.refl _ _ | with_reducible refine Keeps.drew ?_ | with_reducible refine Keeps.drewN ?_ _ | with_reducible refine Keeps.alloc ?_ ?_ _)); all_goals (intro b hb; exact hb))); rintro e wb ⟨rfl, HKW, HBW, ⟨zc0, zc1, zc2, zc3, zc4, zc5, zf0, zf1, zf2, zf3, zf4, zf5⟩, ⟨q0, q1, q2, q3, q4, q5, q6, q7, q8, q9, q10, q11, q12, q13, q14, q15, q16, q17, q18, q19, q20⟩, hqa, hqb⟩)
        | (go_at_call 61; refine (HTB.out _ ?_).mono ?_; (focus ((repeat (first | with_reducible exact Keeps.refl _ _ | with_reducible refine Keeps.drew ?_ | with_reducible refine Keeps.drewN ?_ _ | with_reducible refine Keeps.alloc ?_ ?_ _)); all_goals (intro b hb; exact hb))); rintro e wb ⟨rfl, HKW, ⟨q0, q1, q2, q3, q4, q5, q6, q7, q8, q9, q10, q11, q12, q13, q14, q15, q16, q17, q18, q19, q20⟩, hqa, hqb⟩))
    all_goals
      go_wp2_with fail
      go_meet
      case rel =>
        refine ⟨_, rfl, rfl, rfl, ?_, ?_, ?_⟩
        · first | exact Nat.le_refl _ | exact HKW.out.size
        · unfold V6.list
          repeat (first | with_reducible exact Blk.new _ _ _ | exact HBW.out.set6 _ _ _ _ _ _ rfl | with_reducible refine Blk.drew ?_)
        · repeat (first | with_reducible exact HKW.out | with_reducible refine Keeps.drew ?_ | with_reducible refine Keeps.setCell ?_ ?_ _ | with_reducible refine Keeps.alloc ?_ ?_ _)
          all_goals first | (intro b hb; have := HKW.out.size; omega) | simp
  case rest =>
    obtain ⟨B3, rfl, rfl, rfl, hB3, hBk, hkc⟩ := hcut
    obtain ⟨-, hB1', hB2', hkw, -⟩ := hW1.out
    have hB1 := hB1'.keep hkc hB1'.lt
    have hB2 := hB2'.keep hkc hB2'.lt
    have hkwc : Keeps (· < B) w wc := hkw.trans (hkc.mono fun b hb => by have := hB1'.lt; omega)
    have hR1 := H.out.moreB (by rw [hBB]; exact hkwc)
    rw [hBB] at hR1
    have h13 : B + 1 ≠ B3 := by have := hB1'.lt; omega
    have h23 : B + 1 + 1 ≠ B3 := by have := hB2'.lt; omega
    have hg1 : K (B + 1) ∨ (B ≤ B + 1 ∧ B + 1 < wc.heap.size) := Or.inr ⟨by omega, hB1.lt⟩
    have hg2 : K (B + 1 + 1) ∨ (B ≤ B + 1 + 1 ∧ B + 1 + 1 < wc.heap.size) := Or.inr ⟨by omega, hB2.lt⟩
    have hg3 : K B3 ∨ (B ≤ B3 ∧ B3 < wc.heap.size) := Or.inr ⟨by have := hB1'.lt; omega, hBk.lt⟩
    generalize hK1 : (fun b => K b ∨ (B ≤ b ∧ b < wc.heap.size)) = K1 at *
    have hKK : ∀ b, K b → K1 b := by rw [← hK1]; exact fun b hb => Or.inl hb
    have hg1' : K1 (B + 1) := by rw [← hK1]; exact hg1
    have hg2' : K1 (B + 1 + 1) := by rw [← hK1]; exact hg2
    have hg3' : K1 B3 := by rw [← hK1]; exact hg3
    have hlt' : ∀ b, K b → b < B := HLT.out
    have hkK : Keeps K w wc := hkwc.mono hlt'
    clear hK1 hg1 hg2 hg3 hB1' hB2' hkw hkc hkwc hBB
    have HKK := hid hKK
    have Hg1' := hid hg1'
    have Hg2' := hid hg2'
    have Hg3' := hid hg3'
    have Hlt' := hid hlt'
    have HkK := hid hkK
    have HB1 := hid hB1
    have HB2 := hid hB2
    have HBk := hid hBk
    have HR1 := hid hR1
    clear hKK hg1' hg2' hg3' hlt' hkK hB1 hB2 hBk hR1
    clear HSS HZZ HTA HTB HTk HSL
    by_cases ht0 : t = 0
    · subst ht0
      have hB1 := HB1.out
      have hB2 := HB2.out
      have hBk := HBk.out
      have hkf := HkK.out
      have HRd := hid HR1.out
      unfold V6.list at hBk
      have d0 := (hB1).cell 0
      have d1 := (hB1).cell 1
      have d2 := (hB1).cell 2
      have d3 := (hB1).cell 3
      have d4 := (hB1).cell 4
      have d5 := (hB1).cell 5
      simp only [List.getElem?_cons_zero, List.getElem?_cons_succ] at d0 d1 d2 d3 d4 d5
      have e0 := (hBk).cell 0
      have e1 := (hBk).cell 1
      have e2 := (hBk).cell 2
      have e3 := (hBk).cell 3
      have e4 := (hBk).cell 4
      have e5 := (hBk).cell 5
      simp only [List.getElem?_cons_zero, List.getElem?_cons_succ] at e0 e1 e2 e3 e4 e5
      have f1 := hB1.free
      go_wp2_with fail
      refine calls_gen (fun W => Blk W (B + 1) [.int .i64 nu.a0, .int .i64 nu.a1, .int .i64 nu.a2, .int .i64 nu.a3, .int .i64 nu.a4, .int .i64 nu.a5] ∧ Blk W (B + 1 + 1) [.int .i64 0, .int .i64 0, .int .i64 0, .int .i64 0, .int .i64 0, .int .i64 0] ∧ RM W K1 r m c s ∧ Keeps K w W) ⟨?_, ?_, ?_, ?_⟩ (fun W2 HW2 => ?_)
      · exact hB1.set6 _ _ _ _ _ _ rfl
      · exact hB2.set6_ne _ _ _ _ _ _ (by omega)
      · repeat (first | with_reducible exact HRd.out | with_reducible refine RM.drew ?_ | with_reducible refine RM.setK ?_ ?_ _)
        all_goals exact Hg1'.out
      · exact hkf.set6 _ _ _ _ _ _ (fun hb => by have := Hlt'.out _ hb; omega)
      clear hB1 hB2 hBk hkf d0 d1 d2 d3 d4 d5 e0 e1 e2 e3 e4 e5 f1
      obtain ⟨hC1, hC2, hRc, hkc⟩ := HW2
      refine (step_store hRc (ad + 1) v HV.out).mono ?_
      rintro e w3 ⟨rfl, hr3, hk3⟩
      have hE1 := hC1.keep hk3 Hg1'.out
      have hE2 := hC2.keep hk3 Hg2'.out
      have hkf : Keeps K w w3 := hkc.trans (hk3.mono HKK.out)
      have hrf : RM w3 K1 r m c (s.store (ad + 1) v) := hr3
      clear hr3 hk3 hC1 hC2 hRc hkc
      have Hkf := hid hkf
      have Hrf := hid hrf
      clear hkf hrf
      have d0 := (hE1).cell 0
      have d1 := (hE1).cell 1
      have d2 := (hE1).cell 2
      have d3 := (hE1).cell 3
      have d4 := (hE1).cell 4
      have d5 := (hE1).cell 5
      simp only [List.getElem?_cons_zero, List.getElem?_cons_succ] at d0 d1 d2 d3 d4 d5
      have z0 := (hE2).cell 0
      have z1 := (hE2).cell 1
      have z2 := (hE2).cell 2
      have z3 := (hE2).cell 3
      have z4 := (hE2).cell 4
      have z5 := (hE2).cell 5
      simp only [List.getElem?_cons_zero, List.getElem?_cons_succ] at z0 z1 z2 z3 z4 z5
      have f2 := hE2.free
      go_wp2_with fail
      go_region
      go_wp2_with fail
      refine bp_gen (fun W => Blk W (B + 1 + 1) [.int .i64 nu.a0, .int .i64 nu.a1, .int .i64 nu.a2, .int .i64 nu.a3, .int .i64 nu.a4, .int .i64 nu.a5] ∧ Keeps K w W ∧ RM W K1 r m c (s.store (ad + 1) v)) ⟨?_, ?_, ?_⟩ ?_
      · first | with_reducible exact Blk.set6 hE2 _ _ _ _ _ _ (by simp) | with_reducible exact (Blk.set6 hE2 _ _ _ _ _ _ (by simp)).drew
      · repeat (first | with_reducible exact Hkf.out | with_reducible refine Keeps.drew ?_ | with_reducible refine Keeps.setCell ?_ ?_ _)
        all_goals (intro hb; have := Hlt'.out _ hb; simp at this; omega)
      · repeat (first | with_reducible exact Hrf.out | with_reducible exact Hg2'.out | with_reducible refine RM.drew ?_ | with_reducible refine RM.setK ?_ ?_ _)
        all_goals exact Hg2'.out
      clear hE1 hE2 f2 d0 d1 d2 d3 d4 d5 z0 z1 z2 z3 z4 z5
      rintro W3 ⟨hE2, hkf, hrf⟩
      have d0 := (hE2).cell 0
      have d1 := (hE2).cell 1
      have d2 := (hE2).cell 2
      have d3 := (hE2).cell 3
      have d4 := (hE2).cell 4
      have d5 := (hE2).cell 5
      simp only [List.getElem?_cons_zero, List.getElem?_cons_succ] at d0 d1 d2 d3 d4 d5
      refine bodyPost_ret (v := .tuple #[.int .i64 (ad + 1), .agg #[.int .i64 nu.a0, .int .i64 nu.a1, .int .i64 nu.a2, .int .i64 nu.a3, .int .i64 nu.a4, .int .i64 nu.a5], .int .i64 0]) ?_ rfl ?_
      · simp [results, Tryd.results37, go_sem, d0, d1, d2, d3, d4, d5]
      · have e9 := HNA.out
        refine hR'.out _ _ ⟨?_, ?_, hkf⟩
        · rw [← e9.1]
        · unfold putNew; rw [if_pos rfl]; exact hrf.mono HKK.out
    · skip
      have g0 : (t != 0) = true := by simpa using ht0
      obtain ⟨ht1, ht2⟩ := HTR.out
      have g1 : IntKind.u32.wrap t = t := IntWalk.u32_in _ ⟨ht1, by omega⟩
      have HT0 := hid ht0
      clear ht0
      go_wp2_with fail
      refine (step_store HR1.out ad t (by unfold U32; omega)).mono ?_
      rintro e wd ⟨rfl, hrd, hkd⟩
      have hB1 := HB1.out.keep hkd Hg1'.out
      have hB2 := HB2.out.keep hkd Hg2'.out
      have hBk := HBk.out.keep hkd Hg3'.out
      have hkf := HkK.out.trans (hkd.mono HKK.out)
      have HRd := hid hrd
      clear hrd hkd
      unfold V6.list at hBk
      have d0 := (hB1).cell 0
      have d1 := (hB1).cell 1
      have d2 := (hB1).cell 2
      have d3 := (hB1).cell 3
      have d4 := (hB1).cell 4
      have d5 := (hB1).cell 5
      simp only [List.getElem?_cons_zero, List.getElem?_cons_succ] at d0 d1 d2 d3 d4 d5
      have e0 := (hBk).cell 0
      have e1 := (hBk).cell 1
      have e2 := (hBk).cell 2
      have e3 := (hBk).cell 3
      have e4 := (hBk).cell 4
      have e5 := (hBk).cell 5
      simp only [List.getElem?_cons_zero, List.getElem?_cons_succ] at e0 e1 e2 e3 e4 e5
      have f1 := hB1.free
      go_wp2_with fail
      refine calls_gen (fun W => Blk W (B + 1) [.int .i64 nu.a0, .int .i64 nu.a1, .int .i64 nu.a2, .int .i64 nu.a3, .int .i64 nu.a4, .int .i64 nu.a5] ∧ Blk W (B + 1 + 1) [.int .i64 0, .int .i64 0, .int .i64 0, .int .i64 0, .int .i64 0, .int .i64 0] ∧ RM W K1 r m c (s.store ad t) ∧ Keeps K w W) ⟨?_, ?_, ?_, ?_⟩ (fun W2 HW2 => ?_)
      · exact hB1.set6 _ _ _ _ _ _ rfl
      · exact hB2.set6_ne _ _ _ _ _ _ (by omega)
      · repeat (first | with_reducible exact HRd.out | with_reducible refine RM.drew ?_ | with_reducible refine RM.setK ?_ ?_ _)
        all_goals exact Hg1'.out
      · exact hkf.set6 _ _ _ _ _ _ (fun hb => by have := Hlt'.out _ hb; omega)
      clear hB1 hB2 hBk hkf d0 d1 d2 d3 d4 d5 e0 e1 e2 e3 e4 e5 f1
      obtain ⟨hC1, hC2, hRc, hkc⟩ := HW2
      refine (step_store hRc (ad + 1) v HV.out).mono ?_
      rintro e w3 ⟨rfl, hr3, hk3⟩
      have hE1 := hC1.keep hk3 Hg1'.out
      have hE2 := hC2.keep hk3 Hg2'.out
      have hkf : Keeps K w w3 := hkc.trans (hk3.mono HKK.out)
      have hrf : RM w3 K1 r m c ((s.store ad t).store (ad + 1) v) := hr3
      clear hr3 hk3 hC1 hC2 hRc hkc
      have Hkf := hid hkf
      have Hrf := hid hrf
      clear hkf hrf
      have d0 := (hE1).cell 0
      have d1 := (hE1).cell 1
      have d2 := (hE1).cell 2
      have d3 := (hE1).cell 3
      have d4 := (hE1).cell 4
      have d5 := (hE1).cell 5
      simp only [List.getElem?_cons_zero, List.getElem?_cons_succ] at d0 d1 d2 d3 d4 d5
      have z0 := (hE2).cell 0
      have z1 := (hE2).cell 1
      have z2 := (hE2).cell 2
      have z3 := (hE2).cell 3
      have z4 := (hE2).cell 4
      have z5 := (hE2).cell 5
      simp only [List.getElem?_cons_zero, List.getElem?_cons_succ] at z0 z1 z2 z3 z4 z5
      have f2 := hE2.free
      go_wp2_with fail
      go_region
      go_wp2_with fail
      refine bp_gen (fun W => Blk W (B + 1 + 1) [.int .i64 nu.a0, .int .i64 nu.a1, .int .i64 nu.a2, .int .i64 nu.a3, .int .i64 nu.a4, .int .i64 nu.a5] ∧ Keeps K w W ∧ RM W K1 r m c ((s.store ad t).store (ad + 1) v)) ⟨?_, ?_, ?_⟩ ?_
      · first | with_reducible exact Blk.set6 hE2 _ _ _ _ _ _ (by simp) | with_reducible exact (Blk.set6 hE2 _ _ _ _ _ _ (by simp)).drew
      · repeat (first | with_reducible exact Hkf.out | with_reducible refine Keeps.drew ?_ | with_reducible refine Keeps.setCell ?_ ?_ _)
        all_goals (intro hb; have := Hlt'.out _ hb; simp at this; omega)
      · repeat (first | with_reducible exact Hrf.out | with_reducible exact Hg2'.out | with_reducible refine RM.drew ?_ | with_reducible refine RM.setK ?_ ?_ _)
        all_goals exact Hg2'.out
      clear hE1 hE2 f2 d0 d1 d2 d3 d4 d5 z0 z1 z2 z3 z4 z5
      rintro W3 ⟨hE2, hkf, hrf⟩
      have d0 := (hE2).cell 0
      have d1 := (hE2).cell 1
      have d2 := (hE2).cell 2
      have d3 := (hE2).cell 3
      have d4 := (hE2).cell 4
      have d5 := (hE2).cell 5
      simp only [List.getElem?_cons_zero, List.getElem?_cons_succ] at d0 d1 d2 d3 d4 d5
      refine bodyPost_ret (v := .tuple #[.int .i64 (ad + 1), .agg #[.int .i64 nu.a0, .int .i64 nu.a1, .int .i64 nu.a2, .int .i64 nu.a3, .int .i64 nu.a4, .int .i64 nu.a5], .int .i64 0]) ?_ rfl ?_
      · simp [results, Tryd.results37, go_sem, d0, d1, d2, d3, d4, d5]
      · have e9 := HNA.out
        refine hR'.out _ _ ⟨?_, ?_, hkf⟩
        · rw [← e9.1]
        · unfold putNew; rw [if_neg HT0.out]; exact hrf.mono HKK.out
set_option maxRecDepth 100000 in
set_option maxHeartbeats 4000000 in
theorem put_full {w : World} {K : Nat → Prop} {r m c : Nat} {s : St} (h : RM w K r m c s) (hK0 : K 0) (ht : Tab w) (p : PlanM) (hp : p.Wf) (u : V6) (t v : Int) (k : Nat) (hk : k ≤ 3) (ht0 : 0 ≤ t ∧ t ≤ 131072) (hv : U32 v) (hn : p.next t = ((k : Int), true)) (h0 : 0 ≤ u.uK k) (hu : u.uK k ≤ p.sK k) (hfit : p.sK k < u.uK k + szK k) :
    Calls Tryd.prog 37 #[.pointer (some ⟨r, 0, none⟩), p.val, u.val, .int .i64 t, .int .u32 v] w fun e w' =>
      e = .returned (.tuple #[.int .i64 0, zeros6v.val, .int .i64 3]) ∧ RM w' K r m c s ∧ Keeps K w w' := by
  have H := hid h
  have HT := hid ht
  have HP := hid hp
  have HK0 := hid hK0
  have HLT := hid h.lt
  obtain ⟨ht0', ht1⟩ := ht0
  have hcall := fun w hw => next_call p t w HP.out hw (by omega)
  rw [hn] at hcall
  clear h ht hp hK0 hn
  refine calls_hide fun R' hR' => ?_
  unfold PlanM.val V6.val at *
  go_enter Tryd.func37, Tryd.ntmps37
  go_wp2_with fail
  refine calls_gen (fun W => Blk W w.heap.size p.flat ∧ Blk W (w.heap.size + 1) [.int .i64 u.a0, .int .i64 u.a1, .int .i64 u.a2, .int .i64 u.a3, .int .i64 u.a4, .int .i64 u.a5] ∧ Blk W (w.heap.size + 1 + 1) [.int .i64 0, .int .i64 0, .int .i64 0, .int .i64 0, .int .i64 0, .int .i64 0] ∧ Keeps (· < w.heap.size) w W) ⟨?_, ?_, ?_, ?_⟩ (fun W0 HW => ?_)
  · have h0 := Blk.new w p.flat 29
    exact (h0.alloc _).alloc _
  · repeat (first | with_reducible assumption | with_reducible exact Blk.new _ _ _ | with_reducible refine Blk.drew ?_ | with_reducible refine Blk.drewN ?_ _ | with_reducible refine Blk.set_ne ?_ _ ?_ | (with_reducible refine Blk.new' _ _ _ ?_; focus (simp; done)) | with_reducible refine Blk.alloc ?_ _)
    all_goals (first | assumption | (simp; done) | (simp; omega))
  · repeat (first | with_reducible assumption | with_reducible exact Blk.new _ _ _ | with_reducible refine Blk.drew ?_ | with_reducible refine Blk.drewN ?_ _ | with_reducible refine Blk.set_ne ?_ _ ?_ | (with_reducible refine Blk.new' _ _ _ ?_; focus (simp; done)) | with_reducible refine Blk.alloc ?_ _)
    all_goals (first | assumption | (simp; done) | (simp; omega))
  · repeat (first | with_reducible assumption | with_reducible exact Keeps.refl _ _ | with_reducible refine Keeps.drew ?_ | with_reducible refine Keeps.drewN ?_ _ | with_reducible refine Keeps.setCell ?_ ?_ _ | with_reducible refine Keeps.alloc ?_ ?_ _)
    all_goals (first | (simp; done) | (simp; omega) | (intro b hb; first | exact hb | omega | (simp; omega) | (simp only [World.size_alloc]; omega)))
  obtain ⟨hA0, hA1, hA2, hkA⟩ := HW
  refine (hcall W0 (HT.out.keep hkA HT.out.2.2.2.2)).mono ?_
  rintro e w1 ⟨rfl, hk1⟩
  have hB0 := hA0.keep hk1 hA0.lt
  have hB1 := hA1.keep hk1 hA1.lt
  have hB2 := hA2.keep hk1 hA2.lt
  have hkw := hkA.trans (hk1.mono fun b hb => by have := hkA.size; omega)
  have hT1 := HT.out.keep hkw HT.out.2.2.2.2
  clear hcall hA0 hA1 hA2 hkA hk1
  have hW1 := hid (And.intro hB0 (And.intro hB1 (And.intro hB2 (And.intro hkw hT1))))
  unfold PlanM.flat at hB0
  have c0 := (hB0).cell 0
  have c1 := (hB0).cell 1
  have c2 := (hB0).cell 2
  have c3 := (hB0).cell 3
  have c4 := (hB0).cell 4
  have c5 := (hB0).cell 5
  have c6 := (hB0).cell 6
  have c7 := (hB0).cell 7
  have c8 := (hB0).cell 8
  have c9 := (hB0).cell 9
  have c10 := (hB0).cell 10
  have c11 := (hB0).cell 11
  have c12 := (hB0).cell 12
  have c13 := (hB0).cell 13
  have c14 := (hB0).cell 14
  simp only [List.getElem?_cons_zero, List.getElem?_cons_succ] at c0 c1 c2 c3 c4 c5 c6 c7 c8 c9 c10 c11 c12 c13 c14
  have d0 := (hB1).cell 0
  have d1 := (hB1).cell 1
  have d2 := (hB1).cell 2
  have d3 := (hB1).cell 3
  have d4 := (hB1).cell 4
  have d5 := (hB1).cell 5
  simp only [List.getElem?_cons_zero, List.getElem?_cons_succ] at d0 d1 d2 d3 d4 d5
  have HTk := hid (fun W (hW : Keeps (· < w1.heap.size) w1 W) => hT1.keep hW hT1.2.2.2.2)
  have hsz : szK k ≤ 256 ∧ 4 ≤ szK k := by
    have : k = 0 ∨ k = 1 ∨ k = 2 ∨ k = 3 := by omega
    rcases this with rfl | rfl | rfl | rfl <;> decide
  have HSS := hid (show ∀ wa w' : World, Keeps (· < w1.heap.size) w1 wa → Keeps (· < wa.heap.size) wa w' → ((w'.cell? ⟨w.heap.size, 0, none⟩ = some (.int .i64 p.base.a0) ∧ w'.cell? ⟨w.heap.size, 1, none⟩ = some (.int .i64 p.base.a1) ∧ w'.cell? ⟨w.heap.size, 2, none⟩ = some (.int .i64 p.base.a2) ∧ w'.cell? ⟨w.heap.size, 3, none⟩ = some (.int .i64 p.base.a3) ∧ w'.cell? ⟨w.heap.size, 4, none⟩ = some (.int .i64 p.base.a4) ∧ w'.cell? ⟨w.heap.size, 5, none⟩ = some (.int .i64 p.base.a5) ∧ w'.cell? ⟨w.heap.size, 6, none⟩ = some (.int .i64 p.size.a0) ∧ w'.cell? ⟨w.heap.size, 7, none⟩ = some (.int .i64 p.size.a1) ∧ w'.cell? ⟨w.heap.size, 8, none⟩ = some (.int .i64 p.size.a2) ∧ w'.cell? ⟨w.heap.size, 9, none⟩ = some (.int .i64 p.size.a3) ∧ w'.cell? ⟨w.heap.size, 10, none⟩ = some (.int .i64 p.size.a4) ∧ w'.cell? ⟨w.heap.size, 11, none⟩ = some (.int .i64 p.size.a5) ∧ w'.cell? ⟨w.heap.size, 12, none⟩ = some (.int .i64 p.cells) ∧ w'.cell? ⟨w.heap.size, 13, none⟩ = some (.int .i64 p.slots) ∧ w'.cell? ⟨w.heap.size, 14, none⟩ = some (.int .i64 p.live) ∧ w'.cell? ⟨w.heap.size + 1, 0, none⟩ = some (.int .i64 u.a0) ∧ w'.cell? ⟨w.heap.size + 1, 1, none⟩ = some (.int .i64 u.a1) ∧ w'.cell? ⟨w.heap.size + 1, 2, none⟩ = some (.int .i64 u.a2) ∧ w'.cell? ⟨w.heap.size + 1, 3, none⟩ = some (.int .i64 u.a3) ∧ w'.cell? ⟨w.heap.size + 1, 4, none⟩ = some (.int .i64 u.a4) ∧ w'.cell? ⟨w.heap.size + 1, 5, none⟩ = some (.int .i64 u.a5)) ∧ ¬ w'.heap.size = w.heap.size ∧ ¬ w'.heap.size = w.heap.size + 1) from by
    intro wa w' k1 k2
    have k : Keeps (· < w1.heap.size) w1 w' := k1.trans (k2.mono fun b hb => by have := k1.size; omega)
    have e0 := fun i => World.cell?_of_block (a := ⟨w.heap.size, i, none⟩) (k.block w.heap.size hB0.lt)
    have e1 := fun i => World.cell?_of_block (a := ⟨w.heap.size + 1, i, none⟩) (k.block (w.heap.size + 1) hB1.lt)
    exact ⟨⟨(e0 0).trans c0, (e0 1).trans c1, (e0 2).trans c2, (e0 3).trans c3, (e0 4).trans c4, (e0 5).trans c5, (e0 6).trans c6, (e0 7).trans c7, (e0 8).trans c8, (e0 9).trans c9, (e0 10).trans c10, (e0 11).trans c11, (e0 12).trans c12, (e0 13).trans c13, (e0 14).trans c14, (e1 0).trans d0, (e1 1).trans d1, (e1 2).trans d2, (e1 3).trans d3, (e1 4).trans d4, (e1 5).trans d5⟩, by have := k.size; have := hB0.lt; omega, by have := k.size; have := hB1.lt; omega⟩)
  have HZZ := hid (show ∀ (wa w' : World) (b : Nat), Blk wa b [.int .i64 0, .int .i64 0, .int .i64 0, .int .i64 0, .int .i64 0, .int .i64 0] → Keeps (· < wa.heap.size) wa w' → w'.cell? ⟨b, 0, none⟩ = some (.int .i64 0) ∧ w'.cell? ⟨b, 1, none⟩ = some (.int .i64 0) ∧ w'.cell? ⟨b, 2, none⟩ = some (.int .i64 0) ∧ w'.cell? ⟨b, 3, none⟩ = some (.int .i64 0) ∧ w'.cell? ⟨b, 4, none⟩ = some (.int .i64 0) ∧ w'.cell? ⟨b, 5, none⟩ = some (.int .i64 0) ∧ w'.frozen? ⟨b, 0, none⟩ = false ∧ w'.frozen? ⟨b, 1, none⟩ = false ∧ w'.frozen? ⟨b, 2, none⟩ = false ∧ w'.frozen? ⟨b, 3, none⟩ = false ∧ w'.frozen? ⟨b, 4, none⟩ = false ∧ w'.frozen? ⟨b, 5, none⟩ = false from by
    intro wa w' b h k
    have h' := h.keep k h.lt
    have z0 := (h').cell 0
    have z1 := (h').cell 1
    have z2 := (h').cell 2
    have z3 := (h').cell 3
    have z4 := (h').cell 4
    have z5 := (h').cell 5
    simp only [List.getElem?_cons_zero, List.getElem?_cons_succ] at z0 z1 z2 z3 z4 z5
    exact ⟨z0, z1, z2, z3, z4, z5, h'.free 0, h'.free 1, h'.free 2, h'.free 3, h'.free 4, h'.free 5⟩)
  have hl0 := hB0.lt
  have hl1 := hB1.lt
  clear hB0 hB1 hB2 hkw hT1
  have hkp : 0 ≤ (k : Int) := by omega
  go_wp2_with fail
  generalize hBB : w.heap.size = B at *
  have hne0 : ¬ w1.heap.size = B := by omega
  have hne1 : ¬ w1.heap.size = B + 1 := by omega
  generalize hZ : szK k = z at *
  have HSL := hid (fun W hW => hZ ▸ slab_call k hk W hW)
  obtain ⟨hz1, hz2⟩ := hsz
  have HTK := hid (fun W => take_no p u k hk z W HP.out (by omega) (by omega) h0 hu hfit)
  obtain ⟨nu, hnu⟩ : ∃ nu, nu = zeros6v := ⟨_, rfl⟩
  change Hid (∀ W, Calls Tryd.prog _ _ W fun e w' => e = .returned (.tuple #[.int .i64 0, zeros6v.val, .int .i64 3]) ∧ _) at HTK
  rw [← hnu] at HTK
  obtain ⟨ad, hA⟩ : ∃ ad : Int, ad = 0 := ⟨_, rfl⟩
  rw [← hA] at HTK
  have HTB := hid (show ∀ wa, Keeps (· < w1.heap.size) w1 wa → Calls Tryd.prog 61 #[p.val, u.val, .int .i64 (k : Int), .int .i64 z] wa fun e w' => e = .returned (.tuple #[.int .i64 ad, nu.val, .int .i64 3]) ∧ Hid (Keeps (· < w1.heap.size) w1 w') ∧
      ((w'.cell? ⟨B, 0, none⟩ = some (.int .i64 p.base.a0) ∧ w'.cell? ⟨B, 1, none⟩ = some (.int .i64 p.base.a1) ∧ w'.cell? ⟨B, 2, none⟩ = some (.int .i64 p.base.a2) ∧ w'.cell? ⟨B, 3, none⟩ = some (.int .i64 p.base.a3) ∧ w'.cell? ⟨B, 4, none⟩ = some (.int .i64 p.base.a4) ∧ w'.cell? ⟨B, 5, none⟩ = some (.int .i64 p.base.a5) ∧ w'.cell? ⟨B, 6, none⟩ = some (.int .i64 p.size.a0) ∧ w'.cell? ⟨B, 7, none⟩ = some (.int .i64 p.size.a1) ∧ w'.cell? ⟨B, 8, none⟩ = some (.int .i64 p.size.a2) ∧ w'.cell? ⟨B, 9, none⟩ = some (.int .i64 p.size.a3) ∧ w'.cell? ⟨B, 10, none⟩ = some (.int .i64 p.size.a4) ∧ w'.cell? ⟨B, 11, none⟩ = some (.int .i64 p.size.a5) ∧ w'.cell? ⟨B, 12, none⟩ = some (.int .i64 p.cells) ∧ w'.cell? ⟨B, 13, none⟩ = some (.int .i64 p.slots) ∧ w'.cell? ⟨B, 14, none⟩ = some (.int .i64 p.live) ∧ w'.cell? ⟨B + 1, 0, none⟩ = some (.int .i64 u.a0) ∧ w'.cell? ⟨B + 1, 1, none⟩ = some (.int .i64 u.a1) ∧ w'.cell? ⟨B + 1, 2, none⟩ = some (.int .i64 u.a2) ∧ w'.cell? ⟨B + 1, 3, none⟩ = some (.int .i64 u.a3) ∧ w'.cell? ⟨B + 1, 4, none⟩ = some (.int .i64 u.a4) ∧ w'.cell? ⟨B + 1, 5, none⟩ = some (.int .i64 u.a5)) ∧ ¬ w'.heap.size = B ∧ ¬ w'.heap.size = B + 1) from fun wa h1 => by
    refine (HTK.out wa).mono ?_
    rintro e w' ⟨rfl, h2⟩
    exact ⟨rfl, h1.trans (h2.mono fun b hb => by have := h1.size; omega), HSS.out _ _ h1 h2⟩)
  have HTA := hid (show ∀ wa, Blk wa w1.heap.size [.int .i64 0, .int .i64 0, .int .i64 0, .int .i64 0, .int .i64 0, .int .i64 0] → Keeps (· < w1.heap.size) w1 wa → Calls Tryd.prog 61 #[p.val, u.val, .int .i64 (k : Int), .int .i64 z] wa fun e w' => e = .returned (.tuple #[.int .i64 ad, nu.val, .int .i64 3]) ∧ Hid (Keeps (· < w1.heap.size) w1 w') ∧ Hid (Blk w' w1.heap.size [.int .i64 0, .int .i64 0, .int .i64 0, .int .i64 0, .int .i64 0, .int .i64 0]) ∧
      (w'.cell? ⟨w1.heap.size, 0, none⟩ = some (.int .i64 0) ∧ w'.cell? ⟨w1.heap.size, 1, none⟩ = some (.int .i64 0) ∧ w'.cell? ⟨w1.heap.size, 2, none⟩ = some (.int .i64 0) ∧ w'.cell? ⟨w1.heap.size, 3, none⟩ = some (.int .i64 0) ∧ w'.cell? ⟨w1.heap.size, 4, none⟩ = some (.int .i64 0) ∧ w'.cell? ⟨w1.heap.size, 5, none⟩ = some (.int .i64 0) ∧ w'.frozen? ⟨w1.heap.size, 0, none⟩ = false ∧ w'.frozen? ⟨w1.heap.size, 1, none⟩ = false ∧ w'.frozen? ⟨w1.heap.size, 2, none⟩ = false ∧ w'.frozen? ⟨w1.heap.size, 3, none⟩ = false ∧ w'.frozen? ⟨w1.heap.size, 4, none⟩ = false ∧ w'.frozen? ⟨w1.heap.size, 5, none⟩ = false) ∧ ((w'.cell? ⟨B, 0, none⟩ = some (.int .i64 p.base.a0) ∧ w'.cell? ⟨B, 1, none⟩ = some (.int .i64 p.base.a1) ∧ w'.cell? ⟨B, 2, none⟩ = some (.int .i64 p.base.a2) ∧ w'.cell? ⟨B, 3, none⟩ = some (.int .i64 p.base.a3) ∧ w'.cell? ⟨B, 4, none⟩ = some (.int .i64 p.base.a4) ∧ w'.cell? ⟨B, 5, none⟩ = some (.int .i64 p.base.a5) ∧ w'.cell? ⟨B, 6, none⟩ = some (.int .i64 p.size.a0) ∧ w'.cell? ⟨B, 7, none⟩ = some (.int .i64 p.size.a1) ∧ w'.cell? ⟨B, 8, none⟩ = some (.int .i64 p.size.a2) ∧ w'.cell? ⟨B, 9, none⟩ = some (.int .i64 p.size.a3) ∧ w'.cell? ⟨B, 10, none⟩ = some (.int .i64 p.size.a4) ∧ w'.cell? ⟨B, 11, none⟩ = some (.int .i64 p.size.a5) ∧ w'.cell? ⟨B, 12, none⟩ = some (.int .i64 p.cells) ∧ w'.cell? ⟨B, 13, none⟩ = some (.int .i64 p.slots) ∧ w'.cell? ⟨B, 14, none⟩ = some (.int .i64 p.live) ∧ w'.cell? ⟨B + 1, 0, none⟩ = some (.int .i64 u.a0) ∧ w'.cell? ⟨B + 1, 1, none⟩ = some (.int .i64 u.a1) ∧ w'.cell? ⟨B + 1, 2, none⟩ = some (.int .i64 u.a2) ∧ w'.cell? ⟨B + 1, 3, none⟩ = some (.int .i64 u.a3) ∧ w'.cell? ⟨B + 1, 4, none⟩ = some (.int .i64 u.a4) ∧ w'.cell? ⟨B + 1, 5, none⟩ = some (.int .i64 u.a5)) ∧ ¬ w'.heap.size = B ∧ ¬ w'.heap.size = B + 1) from fun wa h0 h1 => by
    refine (HTK.out wa).mono ?_
    rintro e w' ⟨rfl, h2⟩
    exact ⟨rfl, h1.trans (h2.mono fun b hb => by have := h1.size; omega), h0.keep h2 h0.lt, HZZ.out _ _ _ h0 h2, HSS.out _ _ h1 h2⟩)
  unfold PlanM.val V6.val at HTA HTB
  have HTR := hid (And.intro ht0' ht1)
  have HV := hid hv
  clear hZ hk h0 hu hfit hv ht0' ht1 HTK
  have HNA := hid (And.intro hnu hA)
  clear hnu hA
  go_cut [15, 16, 17] from 29 to 38 (fun a b e wx => ∃ B3, a = .int .i64 ad ∧ b = .pointer (some ⟨B3, 0, none⟩) ∧ e = .int .i64 3 ∧ w1.heap.size ≤ B3 ∧ Blk wx B3 nu.list ∧ Keeps (· < w1.heap.size) w1 wx)
  case first =>
    go_region_held3 (fun w' => w'.cell? ⟨B, 0, none⟩ = some (.int .i64 p.base.a0) ∧ w'.cell? ⟨B, 1, none⟩ = some (.int .i64 p.base.a1) ∧ w'.cell? ⟨B, 2, none⟩ = some (.int .i64 p.base.a2) ∧ w'.cell? ⟨B, 3, none⟩ = some (.int .i64 p.base.a3) ∧ w'.cell? ⟨B, 4, none⟩ = some (.int .i64 p.base.a4) ∧ w'.cell? ⟨B, 5, none⟩ = some (.int .i64 p.base.a5) ∧ w'.cell? ⟨B, 6, none⟩ = some (.int .i64 p.size.a0) ∧ w'.cell? ⟨B, 7, none⟩ = some (.int .i64 p.size.a1) ∧ w'.cell? ⟨B, 8, none⟩ = some (.int .i64 p.size.a2) ∧ w'.cell? ⟨B, 9, none⟩ = some (.int .i64 p.size.a3) ∧ w'.cell? ⟨B, 10, none⟩ = some (.int .i64 p.size.a4) ∧ w'.cell? ⟨B, 11, none⟩ = some (.int .i64 p.size.a5) ∧ w'.cell? ⟨B, 12, none⟩ = some (.int .i64 p.cells) ∧ w'.cell? ⟨B, 13, none⟩ = some (.int .i64 p.slots) ∧ w'.cell? ⟨B, 14, none⟩ = some (.int .i64 p.live) ∧ w'.cell? ⟨B + 1, 0, none⟩ = some (.int .i64 u.a0) ∧ w'.cell? ⟨B + 1, 1, none⟩ = some (.int .i64 u.a1) ∧ w'.cell? ⟨B + 1, 2, none⟩ = some (.int .i64 u.a2) ∧ w'.cell? ⟨B + 1, 3, none⟩ = some (.int .i64 u.a3) ∧ w'.cell? ⟨B + 1, 4, none⟩ = some (.int .i64 u.a4) ∧ w'.cell? ⟨B + 1, 5, none⟩ = some (.int .i64 u.a5)) (go_keep)
      (first
        | (go_at_call 41; refine (HSL.out _ (HTk.out _ (by (repeat (first | with_reducible exact Keeps.refl _ _ | with_reducible refine Keeps.drew ?_ | with_reducible refine Keeps.drewN ?_ _ | with_reducible refine Keeps.alloc ?_ ?_ _)); all_goals (intro b hb; exact hb)))).mono ?_; rintro e wa ⟨rfl, rfl⟩)
        | (go_at_call 61; refine (HTA.out _ ?_ ?_).mono ?_; (focus ((repeat (first | with_reducible exact Blk.new _ _ _ | with_reducible refine Blk.drew ?_ | with_reducible refine Blk.drewN ?_ _ | (with_reducible refine Blk.new' _ _ _ ?_; focus (simp; done)))); done)); (focus ((repeat (first | with_reducible exact Keeps.refl _ _ | with_reducible refine Keeps.drew ?_ | with_reducible refine Keeps.drewN ?_ _ | with_reducible refine Keeps.alloc ?_ ?_ _)); all_goals (intro b hb; exact hb))); rintro e wb ⟨rfl, HKW, HBW, ⟨zc0, zc1, zc2, zc3, zc4, zc5, zf0, zf1, zf2, zf3, zf4, zf5⟩, ⟨q0, q1, q2, q3, q4, q5, q6, q7, q8, q9, q10, q11, q12, q13, q14, q15, q16, q17, q18, q19, q20⟩, hqa, hqb⟩)
        | (go_at_call 61; refine (HTB.out _ ?_).mono ?_; (focus ((repeat (first | with_reducible exact Keeps.refl _ _ | with_reducible refine Keeps.drew ?_ | with_reducible refine Keeps.drewN ?_ _ | with_reducible refine Keeps.alloc ?_ ?_ _)); all_goals (intro b hb; exact hb))); rintro e wb ⟨rfl, HKW, ⟨q0, q1, q2, q3, q4, q5, q6, q7, q8, q9, q10, q11, q12, q13, q14, q15, q16, q17, q18, q19, q20⟩, hqa, hqb⟩))
    all_goals
      go_wp2_with fail
      go_meet
      case rel =>
        refine ⟨_, rfl, rfl, rfl, ?_, ?_, ?_⟩
        · first | exact Nat.le_refl _ | exact HKW.out.size
        · unfold V6.list
          repeat (first | with_reducible exact Blk.new _ _ _ | exact HBW.out.set6 _ _ _ _ _ _ rfl | with_reducible refine Blk.drew ?_)
        · repeat (first | with_reducible exact HKW.out | with_reducible refine Keeps.drew ?_ | with_reducible refine Keeps.setCell ?_ ?_ _ | with_reducible refine Keeps.alloc ?_ ?_ _)
          all_goals first | (intro b hb; have := HKW.out.size; omega) | simp
  case rest =>
    obtain ⟨B3, rfl, rfl, rfl, hB3, hBk, hkc⟩ := hcut
    obtain ⟨-, hB1', hB2', hkw, -⟩ := hW1.out
    have hB1 := hB1'.keep hkc hB1'.lt
    have hB2 := hB2'.keep hkc hB2'.lt
    have hkwc : Keeps (· < B) w wc := hkw.trans (hkc.mono fun b hb => by have := hB1'.lt; omega)
    have hR1 := H.out.moreB (by rw [hBB]; exact hkwc)
    rw [hBB] at hR1
    have h13 : B + 1 ≠ B3 := by have := hB1'.lt; omega
    have h23 : B + 1 + 1 ≠ B3 := by have := hB2'.lt; omega
    have hg1 : K (B + 1) ∨ (B ≤ B + 1 ∧ B + 1 < wc.heap.size) := Or.inr ⟨by omega, hB1.lt⟩
    have hg2 : K (B + 1 + 1) ∨ (B ≤ B + 1 + 1 ∧ B + 1 + 1 < wc.heap.size) := Or.inr ⟨by omega, hB2.lt⟩
    have hg3 : K B3 ∨ (B ≤ B3 ∧ B3 < wc.heap.size) := Or.inr ⟨by have := hB1'.lt; omega, hBk.lt⟩
    generalize hK1 : (fun b => K b ∨ (B ≤ b ∧ b < wc.heap.size)) = K1 at *
    have hKK : ∀ b, K b → K1 b := by rw [← hK1]; exact fun b hb => Or.inl hb
    have hg1' : K1 (B + 1) := by rw [← hK1]; exact hg1
    have hg2' : K1 (B + 1 + 1) := by rw [← hK1]; exact hg2
    have hg3' : K1 B3 := by rw [← hK1]; exact hg3
    have hlt' : ∀ b, K b → b < B := HLT.out
    have hkK : Keeps K w wc := hkwc.mono hlt'
    clear hK1 hg1 hg2 hg3 hB1' hB2' hkw hkc hkwc hBB
    have HKK := hid hKK
    have Hg1' := hid hg1'
    have Hg2' := hid hg2'
    have Hg3' := hid hg3'
    have Hlt' := hid hlt'
    have HkK := hid hkK
    have HB1 := hid hB1
    have HB2 := hid hB2
    have HBk := hid hBk
    have HR1 := hid hR1
    clear hKK hg1' hg2' hg3' hlt' hkK hB1 hB2 hBk hR1
    clear HSS HZZ HTA HTB HTk HSL
    have hE2 := HB2.out
    have z0 := (hE2).cell 0
    have z1 := (hE2).cell 1
    have z2 := (hE2).cell 2
    have z3 := (hE2).cell 3
    have z4 := (hE2).cell 4
    have z5 := (hE2).cell 5
    simp only [List.getElem?_cons_zero, List.getElem?_cons_succ] at z0 z1 z2 z3 z4 z5
    have f2 := hE2.free
    go_wp2_with fail
    refine bp_gen (fun W => Blk W (B + 1 + 1) [.int .i64 0, .int .i64 0, .int .i64 0, .int .i64 0, .int .i64 0, .int .i64 0] ∧ Keeps K w W ∧ RM W K1 r m c s) ⟨?_, ?_, ?_⟩ ?_
    · first | with_reducible exact Blk.set6 hE2 _ _ _ _ _ _ (by simp) | with_reducible exact (Blk.set6 hE2 _ _ _ _ _ _ (by simp)).drew
    · repeat (first | with_reducible exact HkK.out | with_reducible refine Keeps.drew ?_ | with_reducible refine Keeps.setCell ?_ ?_ _)
      all_goals (intro hb; have := Hlt'.out _ hb; simp at this; omega)
    · repeat (first | with_reducible exact HR1.out | with_reducible exact Hg2'.out | with_reducible refine RM.drew ?_ | with_reducible refine RM.setK ?_ ?_ _)
      all_goals exact Hg2'.out
    clear hE2 f2 z0 z1 z2 z3 z4 z5
    rintro W3 ⟨hE2, hkf, hrf⟩
    have d0 := (hE2).cell 0
    have d1 := (hE2).cell 1
    have d2 := (hE2).cell 2
    have d3 := (hE2).cell 3
    have d4 := (hE2).cell 4
    have d5 := (hE2).cell 5
    simp only [List.getElem?_cons_zero, List.getElem?_cons_succ] at d0 d1 d2 d3 d4 d5
    refine bodyPost_ret (v := .tuple #[.int .i64 0, .agg #[.int .i64 0, .int .i64 0, .int .i64 0, .int .i64 0, .int .i64 0, .int .i64 0], .int .i64 3]) ?_ rfl ?_
    · simp [results, Tryd.results37, go_sem, d0, d1, d2, d3, d4, d5]
    · exact hR'.out _ _ ⟨rfl, hrf.mono HKK.out, hkf⟩
end Go.Proofs.YtbmgmjfpoepgpaaDoor
