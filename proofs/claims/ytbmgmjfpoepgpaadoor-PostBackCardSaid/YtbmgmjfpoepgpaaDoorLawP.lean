/- Layer 9's statements: put, at once. Printed by gen/lawp.py. -/
import Derived.Test.YtbmgmjfpoepgpaaDoorPostQ
import Derived.Test.YtbmgmjfpoepgpaaDoorWhole09
import Derived.Shelf.Abstract
namespace Go.Proofs.YtbmgmjfpoepgpaaDoor
open Go.RowKit

theorem enters_put09 : ∀ (args : Array Value) (w : World), (callFunc 36 args).run Tryd.prog w = .ok (.enter 36 args) w :=
  enters_of Tryd.func36 (by kernel_rfl) rfl
/-- what a Put is known to do -/
def PutOk (p : PlanM) (u : V6) (t v : Int) (T : Tree Unit) (rt : Int) (ru : V6) (re : Int) : Prop :=
  ∀ (w : World) (K : Nat → Prop) (r m c : Nat) (s : St), RM w K r m c s → K 0 → Tab w → Calls Tryd.prog 37 #[.pointer (some ⟨r, 0, none⟩), p.val, u.val, .int .i64 t, .int .u32 v] w fun e w' =>
    e = .returned (.tuple #[.int .i64 rt, ru.val, .int .i64 re]) ∧ RM w' K r m c (T.exec s).2 ∧ Keeps K w w'

set_option maxRecDepth 100000 in
set_option maxHeartbeats 2000000 in
theorem put1_call {w : World} {K : Nat → Prop} {r m c : Nat} {s : St} (h : RM w K r m c s) (hK0 : K 0) (hT : Tab w) (pp pu pt pw pa pv pe : Nat) (p : PlanM) (u x ru : V6) (t v oa oe rt re : Int) (T : Tree Unit) (hput : PutOk p u t v T rt ru re)
    (hbp : Blk w pp [.int .i64 p.base.a0, .int .i64 p.base.a1, .int .i64 p.base.a2, .int .i64 p.base.a3, .int .i64 p.base.a4, .int .i64 p.base.a5, .int .i64 p.size.a0, .int .i64 p.size.a1, .int .i64 p.size.a2, .int .i64 p.size.a3, .int .i64 p.size.a4, .int .i64 p.size.a5, .int .i64 p.cells, .int .i64 p.slots, .int .i64 p.live]) (hbu : Blk w pu [.int .i64 u.a0, .int .i64 u.a1, .int .i64 u.a2, .int .i64 u.a3, .int .i64 u.a4, .int .i64 u.a5]) (hbt : Blk w pt [.int .i64 t]) (hbw : Blk w pw [.int .u32 v])
    (hba : Blk w pa [.int .i64 oa]) (hbv : Blk w pv [.int .i64 x.a0, .int .i64 x.a1, .int .i64 x.a2, .int .i64 x.a3, .int .i64 x.a4, .int .i64 x.a5]) (hbe : Blk w pe [.int .i64 oe]) (hKa : K pa) (hKv : K pv) (hKe : K pe) (hav : pa ≠ pv) (hae : pa ≠ pe) (hve : pv ≠ pe) :
    Calls Tryd.prog 36 #[.pointer (some ⟨r, 0, none⟩), .pointer (some ⟨pp, 0, none⟩), .pointer (some ⟨pu, 0, none⟩), .pointer (some ⟨pt, 0, none⟩), .pointer (some ⟨pw, 0, none⟩), .pointer (some ⟨pa, 0, none⟩), .pointer (some ⟨pv, 0, none⟩), .pointer (some ⟨pe, 0, none⟩)] w fun e w' =>
      e = .returned (.tuple #[]) ∧ RM w' K r m c (T.exec s).2 ∧ Keeps (fun x => K x ∧ x ≠ pa ∧ x ≠ pv ∧ x ≠ pe) w w' ∧ Blk w' pa [.int .i64 rt] ∧ Blk w' pv [.int .i64 ru.a0, .int .i64 ru.a1, .int .i64 ru.a2, .int .i64 ru.a3, .int .i64 ru.a4, .int .i64 ru.a5] ∧ Blk w' pe [.int .i64 re] := by
  have cp0 := (hbp).cell 0
  have cp1 := (hbp).cell 1
  have cp2 := (hbp).cell 2
  have cp3 := (hbp).cell 3
  have cp4 := (hbp).cell 4
  have cp5 := (hbp).cell 5
  have cp6 := (hbp).cell 6
  have cp7 := (hbp).cell 7
  have cp8 := (hbp).cell 8
  have cp9 := (hbp).cell 9
  have cp10 := (hbp).cell 10
  have cp11 := (hbp).cell 11
  have cp12 := (hbp).cell 12
  have cp13 := (hbp).cell 13
  have cp14 := (hbp).cell 14
  simp only [List.getElem?_cons_zero, List.getElem?_cons_succ] at cp0 cp1 cp2 cp3 cp4 cp5 cp6 cp7 cp8 cp9 cp10 cp11 cp12 cp13 cp14
  have cu0 := (hbu).cell 0
  have cu1 := (hbu).cell 1
  have cu2 := (hbu).cell 2
  have cu3 := (hbu).cell 3
  have cu4 := (hbu).cell 4
  have cu5 := (hbu).cell 5
  simp only [List.getElem?_cons_zero, List.getElem?_cons_succ] at cu0 cu1 cu2 cu3 cu4 cu5
  have cs0 := (hbt).cell 0
  simp only [List.getElem?_cons_zero] at cs0
  have cl0 := (hbw).cell 0
  simp only [List.getElem?_cons_zero] at cl0
  have hcon := hput w K r m c s h hK0 hT
  have Hcon := hid hcon
  clear hcon
  clear hbp hbu hbt hbw
  unfold PlanM.val V6.val at Hcon
  refine calls_hide fun R' hR' => ?_
  go_enter Tryd.func36, Tryd.ntmps36
  go_wp2_with fail
  refine Hcon.out.mono ?_
  rintro e w1 ⟨rfl, hR, hK⟩
  have hA := hba.keep hK hKa
  have hV := hbv.keep hK hKv
  have hE := hbe.keep hK hKe
  clear cp0 cp1 cp2 cp3 cp4 cp5 cp6 cp7 cp8 cp9 cp10 cp11 cp12 cp13 cp14 cu0 cu1 cu2 cu3 cu4 cu5 cs0 cl0 hba hbv hbe
  have ca0 := (hA).cell 0
  simp only [List.getElem?_cons_zero] at ca0
  have cv0 := (hV).cell 0
  have cv1 := (hV).cell 1
  have cv2 := (hV).cell 2
  have cv3 := (hV).cell 3
  have cv4 := (hV).cell 4
  have cv5 := (hV).cell 5
  simp only [List.getElem?_cons_zero, List.getElem?_cons_succ] at cv0 cv1 cv2 cv3 cv4 cv5
  have ce0 := (hE).cell 0
  simp only [List.getElem?_cons_zero] at ce0
  have fa := hA.free
  have fv := hV.free
  have fe := hE.free
  have hav' := hav.symm
  have hae' := hae.symm
  have hve' := hve.symm
  go_wp2_with fail
  have hK' : Keeps (fun x => K x ∧ x ≠ pa ∧ x ≠ pv ∧ x ≠ pe) w w1 := hK.mono fun b hb => hb.1
  refine bp_gen (fun W => Blk W pa [.int .i64 rt] ∧ Blk W pv [.int .i64 ru.a0, .int .i64 ru.a1, .int .i64 ru.a2, .int .i64 ru.a3, .int .i64 ru.a4, .int .i64 ru.a5] ∧ Blk W pe [.int .i64 re] ∧ Keeps (fun x => K x ∧ x ≠ pa ∧ x ≠ pv ∧ x ≠ pe) w W ∧ RM W K r m c (T.exec s).2) ⟨?_, ?_, ?_, ?_, ?_⟩ ?_
  · repeat (first | with_reducible assumption | with_reducible exact Blk.new _ _ _ | with_reducible refine Blk.drew ?_ | with_reducible refine Blk.drewN ?_ _ | with_reducible refine BlkN.set1 ?_ _ | with_reducible refine BlkN.set6 ?_ _ _ _ _ _ _ | with_reducible exact BlkN.of1 (by with_reducible assumption) | with_reducible exact BlkN.of6 (by with_reducible assumption) | with_reducible refine BlkN.drew ?_ | with_reducible refine BlkN.drewN ?_ _ | with_reducible refine BlkN.set_ne ?_ _ ?_ | with_reducible refine BlkN.alloc ?_ _ | with_reducible refine Blk.set_ne ?_ _ ?_ | (with_reducible refine Blk.new' _ _ _ ?_; focus (simp; done)) | with_reducible refine Blk.alloc ?_ _)
    all_goals (first | assumption | (simp; done) | (simp; omega))
  · repeat (first | with_reducible assumption | with_reducible exact Blk.new _ _ _ | with_reducible refine Blk.drew ?_ | with_reducible refine Blk.drewN ?_ _ | with_reducible refine BlkN.set1 ?_ _ | with_reducible refine BlkN.set6 ?_ _ _ _ _ _ _ | with_reducible exact BlkN.of1 (by with_reducible assumption) | with_reducible exact BlkN.of6 (by with_reducible assumption) | with_reducible refine BlkN.drew ?_ | with_reducible refine BlkN.drewN ?_ _ | with_reducible refine BlkN.set_ne ?_ _ ?_ | with_reducible refine BlkN.alloc ?_ _ | with_reducible refine Blk.set_ne ?_ _ ?_ | (with_reducible refine Blk.new' _ _ _ ?_; focus (simp; done)) | with_reducible refine Blk.alloc ?_ _)
    all_goals (first | assumption | (simp; done) | (simp; omega))
  · repeat (first | with_reducible assumption | with_reducible exact Blk.new _ _ _ | with_reducible refine Blk.drew ?_ | with_reducible refine Blk.drewN ?_ _ | with_reducible refine BlkN.set1 ?_ _ | with_reducible refine BlkN.set6 ?_ _ _ _ _ _ _ | with_reducible exact BlkN.of1 (by with_reducible assumption) | with_reducible exact BlkN.of6 (by with_reducible assumption) | with_reducible refine BlkN.drew ?_ | with_reducible refine BlkN.drewN ?_ _ | with_reducible refine BlkN.set_ne ?_ _ ?_ | with_reducible refine BlkN.alloc ?_ _ | with_reducible refine Blk.set_ne ?_ _ ?_ | (with_reducible refine Blk.new' _ _ _ ?_; focus (simp; done)) | with_reducible refine Blk.alloc ?_ _)
    all_goals (first | assumption | (simp; done) | (simp; omega))
  · repeat (first | with_reducible assumption | with_reducible exact Keeps.refl _ _ | with_reducible refine Keeps.drew ?_ | with_reducible refine Keeps.drewN ?_ _ | with_reducible refine Keeps.setCell ?_ ?_ _ | with_reducible refine Keeps.alloc ?_ ?_ _)
    all_goals (first | (simp; done) | (simp; omega) | (intro b hb; first | exact hb | omega | (simp; omega) | (simp only [World.size_alloc]; omega)))
  · repeat (first | with_reducible assumption | with_reducible refine RM.drew ?_ | with_reducible refine RM.drewN ?_ _ | with_reducible refine RM.setK ?_ ?_ _)
    all_goals (first | assumption | (simp; done))
  rintro W ⟨g1, g2, g3, g4, g5⟩
  go_end0
  exact hR'.out _ _ ⟨rfl, g5, g4, g1, g2, g3⟩

set_option maxRecDepth 100000 in
set_option maxHeartbeats 4000000 in
theorem put09 {w : World} {K : Nat → Prop} {m c : Nat} {μ : MemS} (hm : MemAt w m c μ) (hKm : ¬ K m) (hKc : ¬ K c) (hlt : ∀ b, K b → b < w.heap.size) (hK0 : K 0) (hT : Tab w) (p : PlanM) (u ru : V6) (t v rt re : Int) (T : Tree Unit) (hput : PutOk p u t v T rt ru re)
    {cs' : List Int} {n : Nat} (hideal : T.ideal μ.cells = some ((), cs', n)) (hn : n ≤ 262143) :
    Calls Tryd.prog 12 #[.pointer (some ⟨m, 0, none⟩), p.val, u.val, .int .i64 t, .int .u32 v] w fun e w' =>
      e = .returned (.tuple #[.int .i64 rt, ru.val, .int .i64 re]) ∧ (∃ μ', MemAt w' m c μ' ∧ μ'.cells = cs') ∧ Keeps K w w' := by
  have hl1 := hm.obj.lt
  have hl2 := hm.cells.lt
  have Hm := hid hm
  have Hideal := hid hideal
  have Hlt := hid hlt
  clear hm hideal hlt
  have HT := hid hT
  clear hT
  refine calls_hide fun R' hR' => ?_
  unfold PlanM.val V6.val
  go_enter Tryd.func12, Tryd.ntmps12
  go_wp2_with fail
  refine calls_gen (fun W => Blk W (w.heap.size) [.int .i64 p.base.a0, .int .i64 p.base.a1, .int .i64 p.base.a2, .int .i64 p.base.a3, .int .i64 p.base.a4, .int .i64 p.base.a5, .int .i64 p.size.a0, .int .i64 p.size.a1, .int .i64 p.size.a2, .int .i64 p.size.a3, .int .i64 p.size.a4, .int .i64 p.size.a5, .int .i64 p.cells, .int .i64 p.slots, .int .i64 p.live] ∧ Blk W (w.heap.size + 1) [.int .i64 u.a0, .int .i64 u.a1, .int .i64 u.a2, .int .i64 u.a3, .int .i64 u.a4, .int .i64 u.a5] ∧ Blk W (w.heap.size + 1 + 1) [.int .i64 t] ∧ Blk W (w.heap.size + 1 + 1 + 1) [.int .u32 v] ∧ Blk W (w.heap.size + 1 + 1 + 1 + 1) [.int .i64 0, .int .i64 0, .int .i64 0, .int .i64 0, .int .i64 0, .int .i64 0] ∧
    Blk W (w.heap.size + 1 + 1 + 1 + 1 + 1) [.int .i64 0] ∧ Blk W (w.heap.size + 1 + 1 + 1 + 1 + 1 + 1) [.int .i64 0, .int .i64 0, .int .i64 0, .int .i64 0, .int .i64 0, .int .i64 0] ∧ Blk W (w.heap.size + 1 + 1 + 1 + 1 + 1 + 1 + 1) [.int .i64 0] ∧ Keeps (· < w.heap.size) w W) ⟨?_, ?_, ?_, ?_, ?_, ?_, ?_, ?_, ?_⟩ ?_
  · repeat (first | with_reducible assumption | with_reducible exact Blk.new _ _ _ | with_reducible refine Blk.drew ?_ | with_reducible refine Blk.drewN ?_ _ | with_reducible refine Blk.set_ne ?_ _ ?_ | (with_reducible refine Blk.new' _ _ _ ?_; focus (simp; done)) | with_reducible refine Blk.alloc ?_ _)
    all_goals (first | assumption | (simp; done) | (simp; omega))
  · repeat (first | with_reducible assumption | with_reducible exact Blk.new _ _ _ | with_reducible refine Blk.drew ?_ | with_reducible refine Blk.drewN ?_ _ | with_reducible refine Blk.set_ne ?_ _ ?_ | (with_reducible refine Blk.new' _ _ _ ?_; focus (simp; done)) | with_reducible refine Blk.alloc ?_ _)
    all_goals (first | assumption | (simp; done) | (simp; omega))
  · repeat (first | with_reducible assumption | with_reducible exact Blk.new _ _ _ | with_reducible refine Blk.drew ?_ | with_reducible refine Blk.drewN ?_ _ | with_reducible refine Blk.set_ne ?_ _ ?_ | (with_reducible refine Blk.new' _ _ _ ?_; focus (simp; done)) | with_reducible refine Blk.alloc ?_ _)
    all_goals (first | assumption | (simp; done) | (simp; omega))
  · repeat (first | with_reducible assumption | with_reducible exact Blk.new _ _ _ | with_reducible refine Blk.drew ?_ | with_reducible refine Blk.drewN ?_ _ | with_reducible refine Blk.set_ne ?_ _ ?_ | (with_reducible refine Blk.new' _ _ _ ?_; focus (simp; done)) | with_reducible refine Blk.alloc ?_ _)
    all_goals (first | assumption | (simp; done) | (simp; omega))
  · repeat (first | with_reducible assumption | with_reducible exact Blk.new _ _ _ | with_reducible refine Blk.drew ?_ | with_reducible refine Blk.drewN ?_ _ | with_reducible refine Blk.set_ne ?_ _ ?_ | (with_reducible refine Blk.new' _ _ _ ?_; focus (simp; done)) | with_reducible refine Blk.alloc ?_ _)
    all_goals (first | assumption | (simp; done) | (simp; omega))
  · repeat (first | with_reducible assumption | with_reducible exact Blk.new _ _ _ | with_reducible refine Blk.drew ?_ | with_reducible refine Blk.drewN ?_ _ | with_reducible refine Blk.set_ne ?_ _ ?_ | (with_reducible refine Blk.new' _ _ _ ?_; focus (simp; done)) | with_reducible refine Blk.alloc ?_ _)
    all_goals (first | assumption | (simp; done) | (simp; omega))
  · repeat (first | with_reducible assumption | with_reducible exact Blk.new _ _ _ | with_reducible refine Blk.drew ?_ | with_reducible refine Blk.drewN ?_ _ | with_reducible refine Blk.set_ne ?_ _ ?_ | (with_reducible refine Blk.new' _ _ _ ?_; focus (simp; done)) | with_reducible refine Blk.alloc ?_ _)
    all_goals (first | assumption | (simp; done) | (simp; omega))
  · repeat (first | with_reducible assumption | with_reducible exact Blk.new _ _ _ | with_reducible refine Blk.drew ?_ | with_reducible refine Blk.drewN ?_ _ | with_reducible refine Blk.set_ne ?_ _ ?_ | (with_reducible refine Blk.new' _ _ _ ?_; focus (simp; done)) | with_reducible refine Blk.alloc ?_ _)
    all_goals (first | assumption | (simp; done) | (simp; omega))
  · repeat (first | with_reducible assumption | with_reducible exact Keeps.refl _ _ | with_reducible refine Keeps.drew ?_ | with_reducible refine Keeps.drewN ?_ _ | with_reducible refine Keeps.setCell ?_ ?_ _ | with_reducible refine Keeps.alloc ?_ ?_ _)
    all_goals (first | (simp; done) | (simp; omega) | (intro b hb; first | exact hb | omega | (simp; omega) | (simp only [World.size_alloc]; omega)))
  rintro W ⟨hB0, hB1, hB2, hB3, hB4, hB5, hB6, hB7, hk⟩
  have hTW : Tab W := HT.out.keep hk HT.out.2.2.2.2
  generalize w.heap.size = b at *
  have hl7 := hB7.lt
  have hmW := Hm.out.keep hk hl1 hl2
  have HB0 := hid hB0
  have HB1 := hid hB1
  have HB2 := hid hB2
  have HB3 := hid hB3
  have HB4 := hid hB4
  have Hk := hid hk
  have HTW := hid hTW
  clear hB0 hB1 hB2 hB3 hB4 hk hTW
  refine (whole09 (K := fun x => K x ∨ (b ≤ x ∧ x < b + 8)) hmW (by rintro (h | h); exact hKm h; omega) (by rintro (h | h); exact hKc h; omega)
    (by rintro x (h | h); have := Hlt.out x h; omega; omega) _ _ enters_put09 T Hideal.out hn
    (fun w2 => Keeps (fun x => K x ∨ (b ≤ x ∧ x < b + 5)) W w2 ∧ (∃ oa : Int, Blk w2 (b + 1 + 1 + 1 + 1 + 1) [.int .i64 oa]) ∧ (∃ o : V6, Blk w2 (b + 1 + 1 + 1 + 1 + 1 + 1) [.int .i64 o.a0, .int .i64 o.a1, .int .i64 o.a2, .int .i64 o.a3, .int .i64 o.a4, .int .i64 o.a5]) ∧ ∃ oe : Int, Blk w2 (b + 1 + 1 + 1 + 1 + 1 + 1 + 1) [.int .i64 oe])
    (fun _ _ w2 => Blk w2 (b + 1 + 1 + 1 + 1 + 1) [.int .i64 rt] ∧ Blk w2 (b + 1 + 1 + 1 + 1 + 1 + 1) [.int .i64 ru.a0, .int .i64 ru.a1, .int .i64 ru.a2, .int .i64 ru.a3, .int .i64 ru.a4, .int .i64 ru.a5] ∧ Blk w2 (b + 1 + 1 + 1 + 1 + 1 + 1 + 1) [.int .i64 re]) ⟨Keeps.refl _ _, ⟨_, hB5⟩, ⟨⟨0, 0, 0, 0, 0, 0⟩, hB6⟩, ⟨_, hB7⟩⟩
    (by rintro w2 w3 ⟨h1, ⟨oa, h2⟩, ⟨o, h3⟩, ⟨oe, h4⟩⟩ k; exact ⟨h1.trans (k.mono fun x hx => by rcases hx with h | h; exact Or.inl h; exact Or.inr ⟨h.1, by omega⟩), ⟨oa, h2.keep k (Or.inr ⟨by omega, by omega⟩)⟩, ⟨o, h3.keep k (Or.inr ⟨by omega, by omega⟩)⟩, ⟨oe, h4.keep k (Or.inr ⟨by omega, by omega⟩)⟩⟩)
    (by rintro r y w2 w3 hr ⟨h1, h2, h3⟩ k; exact ⟨h1.keep k (fun e => hr (e ▸ Or.inr ⟨by omega, by omega⟩)), h2.keep k (fun e => hr (e ▸ Or.inr ⟨by omega, by omega⟩)), h3.keep k (fun e => hr (e ▸ Or.inr ⟨by omega, by omega⟩))⟩) ?_).mono ?_
  · rintro w2 r s2 ⟨h1, ⟨oa, g2⟩, ⟨o, g3⟩, ⟨oe, g4⟩⟩ hR
    refine (put1_call hR (Or.inl hK0) (HTW.out.keep h1 (Or.inl hK0)) b (b + 1) (b + 1 + 1) (b + 1 + 1 + 1) (b + 1 + 1 + 1 + 1 + 1) (b + 1 + 1 + 1 + 1 + 1 + 1) (b + 1 + 1 + 1 + 1 + 1 + 1 + 1) p u o ru t v oa oe rt re T hput (HB0.out.keep h1 (Or.inr ⟨by omega, by omega⟩)) (HB1.out.keep h1 (Or.inr ⟨by omega, by omega⟩)) (HB2.out.keep h1 (Or.inr ⟨by omega, by omega⟩)) (HB3.out.keep h1 (Or.inr ⟨by omega, by omega⟩))
      g2 g3 g4 (Or.inr ⟨by omega, by omega⟩) (Or.inr ⟨by omega, by omega⟩) (Or.inr ⟨by omega, by omega⟩) (by omega) (by omega) (by omega)).mono ?_
    rintro e w3 ⟨rfl, g1, g2, g3, g4, g5⟩
    refine ⟨rfl, g1, ⟨h1.trans (g2.mono fun x hx => ?_), ⟨_, g3⟩, ⟨ru, g4⟩, ⟨_, g5⟩⟩, g3, g4, g5⟩
    rcases hx with h | h
    · have := Hlt.out x h; exact ⟨Or.inl h, by omega, by omega, by omega⟩
    · exact ⟨Or.inr ⟨h.1, by omega⟩, by omega, by omega, by omega⟩
  rintro e w4 ⟨rfl, hmem, ⟨hJ1, _⟩, ⟨r, _, hO1, hO2, hO3⟩, _⟩
  have hB4' := HB4.out.keep hJ1 (Or.inr ⟨by omega, by omega⟩)
  have ca0 := (hO1).cell 0
  simp only [List.getElem?_cons_zero] at ca0
  have cu0 := (hO2).cell 0
  have cu1 := (hO2).cell 1
  have cu2 := (hO2).cell 2
  have cu3 := (hO2).cell 3
  have cu4 := (hO2).cell 4
  have cu5 := (hO2).cell 5
  simp only [List.getElem?_cons_zero, List.getElem?_cons_succ] at cu0 cu1 cu2 cu3 cu4 cu5
  have ce0 := (hO3).cell 0
  simp only [List.getElem?_cons_zero] at ce0
  have f5 := hB4'.free
  have z0 := (hB4').cell 0
  have z1 := (hB4').cell 1
  have z2 := (hB4').cell 2
  have z3 := (hB4').cell 3
  have z4 := (hB4').cell 4
  have z5 := (hB4').cell 5
  simp only [List.getElem?_cons_zero, List.getElem?_cons_succ] at z0 z1 z2 z3 z4 z5
  have hkf : Keeps K w w4 := (Hk.out.mono Hlt.out).trans (hJ1.mono fun x hx => Or.inl hx)
  have Hkf := hid hkf
  clear hkf
  obtain ⟨μ', hm4, hc4⟩ := hmem
  have Hm4 := hid hm4
  have Hc4 := hid hc4
  clear hm4 hc4
  clear hO1 hO2 hO3 hJ1
  go_wp2_with fail
  go_region
  go_wp2_with fail
  refine bp_gen (fun W => Blk W (b + 1 + 1 + 1 + 1) [.int .i64 ru.a0, .int .i64 ru.a1, .int .i64 ru.a2, .int .i64 ru.a3, .int .i64 ru.a4, .int .i64 ru.a5] ∧ Keeps K w W ∧ MemAt W m c μ') ⟨?_, ?_, ?_⟩ ?_
  · repeat (first | with_reducible assumption | with_reducible exact Blk.new _ _ _ | with_reducible refine Blk.drew ?_ | with_reducible refine Blk.drewN ?_ _ | with_reducible refine BlkN.set1 ?_ _ | with_reducible refine BlkN.set6 ?_ _ _ _ _ _ _ | with_reducible exact BlkN.of1 (by with_reducible assumption) | with_reducible exact BlkN.of6 (by with_reducible assumption) | with_reducible refine BlkN.drew ?_ | with_reducible refine BlkN.drewN ?_ _ | with_reducible refine BlkN.set_ne ?_ _ ?_ | with_reducible refine BlkN.alloc ?_ _ | with_reducible refine Blk.set_ne ?_ _ ?_ | (with_reducible refine Blk.new' _ _ _ ?_; focus (simp; done)) | with_reducible refine Blk.alloc ?_ _)
    all_goals (first | assumption | (simp; done) | (simp; omega))
  · repeat (first | with_reducible exact Hkf.out | with_reducible refine Keeps.drew ?_ | with_reducible refine Keeps.setCell ?_ ?_ _)
    all_goals (intro hb; have := Hlt.out _ hb; simp at this; omega)
  · refine Hm4.out.keep (K := fun x => x ≠ b + 1 + 1 + 1 + 1) ?_ (by omega) (by omega)
    repeat (first | with_reducible exact Keeps.refl _ _ | with_reducible refine Keeps.drew ?_ | with_reducible refine Keeps.setCell ?_ ?_ _)
    all_goals simp
  clear ca0 cu0 cu1 cu2 cu3 cu4 cu5 ce0 z0 z1 z2 z3 z4 z5 f5 hB4'
  rintro W2 ⟨g1, g2, g3⟩
  have d0 := (g1).cell 0
  have d1 := (g1).cell 1
  have d2 := (g1).cell 2
  have d3 := (g1).cell 3
  have d4 := (g1).cell 4
  have d5 := (g1).cell 5
  simp only [List.getElem?_cons_zero, List.getElem?_cons_succ] at d0 d1 d2 d3 d4 d5
  refine bodyPost_ret (v := .tuple #[.int .i64 rt, .agg #[.int .i64 ru.a0, .int .i64 ru.a1, .int .i64 ru.a2, .int .i64 ru.a3, .int .i64 ru.a4, .int .i64 ru.a5], .int .i64 re]) ?_ rfl ?_
  · simp [results, Tryd.results12, go_sem, d0, d1, d2, d3, d4, d5]
  · exact hR'.out _ _ ⟨rfl, ⟨μ', g3, Hc4.out⟩, g2⟩
end Go.Proofs.YtbmgmjfpoepgpaaDoor
