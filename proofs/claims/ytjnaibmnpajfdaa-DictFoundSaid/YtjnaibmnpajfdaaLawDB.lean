/- Layer 10's statements: put. -/
import Derived.Test.YtjnaibmnpajfdaaLawDA
import Derived.Test.YtjnaibmnpajfdaaBlk
namespace Go.Proofs.Ytjnaibmnpajfdaa
open Go.RowKit

set_option maxRecDepth 100000 in
set_option maxHeartbeats 1000000 in
theorem put1_ok {w : World} {K : Nat → Prop} {r m c : Nat} {s : St} (h : RM w K r m c s) (pp pu ps pl pk pa pv pe : Nat) (p : PlanM) (u o : V6) (s0 sl oa oe : Int) (t : ByteArray) (ht : t.size ≤ 1000)
    (h0 : 0 ≤ u.a4) (h2 : u.a4 + (2 + ((t.size + 3) / 4 : Nat)) ≤ p.size.a4) (hpb : 0 ≤ p.base.a4 ∧ p.base.a4 ≤ 65536) (hs0 : 0 ≤ s0 ∧ s0 ≤ 65536) (hsl : 0 ≤ sl ∧ sl ≤ 65536) (h3 : p.size.a4 ≤ 65536)
    (hbp : Blk w pp [.int .i64 p.base.a0, .int .i64 p.base.a1, .int .i64 p.base.a2, .int .i64 p.base.a3, .int .i64 p.base.a4, .int .i64 p.base.a5, .int .i64 p.size.a0, .int .i64 p.size.a1, .int .i64 p.size.a2, .int .i64 p.size.a3, .int .i64 p.size.a4, .int .i64 p.size.a5, .int .i64 p.cells, .int .i64 p.slots, .int .i64 p.live])
    (hbu : Blk w pu [.int .i64 u.a0, .int .i64 u.a1, .int .i64 u.a2, .int .i64 u.a3, .int .i64 u.a4, .int .i64 u.a5]) (hbs : Blk w ps [.int .i64 s0]) (hbl : Blk w pl [.int .i64 sl]) (hbk : Blk w pk [.string t])
    (hba : Blk w pa [.int .i64 oa]) (hbv : Blk w pv [.int .i64 o.a0, .int .i64 o.a1, .int .i64 o.a2, .int .i64 o.a3, .int .i64 o.a4, .int .i64 o.a5]) (hbe : Blk w pe [.int .i64 oe]) (hKa : K pa) (hKv : K pv) (hKe : K pe) (hav : pa ≠ pv) (hae : pa ≠ pe) (hve : pv ≠ pe) :
    Calls Try.prog 71 #[.pointer (some ⟨r, 0, none⟩), .pointer (some ⟨pp, 0, none⟩), .pointer (some ⟨pu, 0, none⟩), .pointer (some ⟨ps, 0, none⟩), .pointer (some ⟨pl, 0, none⟩), .pointer (some ⟨pk, 0, none⟩), .pointer (some ⟨pa, 0, none⟩), .pointer (some ⟨pv, 0, none⟩), .pointer (some ⟨pe, 0, none⟩)] w fun e w' =>
      e = .returned (.tuple #[]) ∧ RM w' K r m c ((putD (p.base.a4 + u.a4) (s0 + sl) t.size (packC (bsL t))).exec s).2 ∧ Keeps (fun x => K x ∧ x ≠ pa ∧ x ≠ pv ∧ x ≠ pe) w w' ∧
        Blk w' pa [.int .i64 (p.base.a4 + u.a4)] ∧ Blk w' pv [.int .i64 u.a0, .int .i64 u.a1, .int .i64 u.a2, .int .i64 u.a3, .int .i64 (u.a4 + (2 + ((t.size : Int) + 3) / 4)), .int .i64 u.a5] ∧ Blk w' pe [.int .i64 0] := by
  have cp0 := (hbp).cell 0
  have cp1 := (hbp).cell 1
  have cp2 := (hbp).cell 2
  have cp3 := (hbp).cell 3
  have cp4 := (hbp).cell 4
  have cp5 := (hbp).cell 5
  have cp6 := (hbp).cell 6
  have cp7 := (hbp).cell 7
  have cp8 := (hbp).cell 8
  have cp9 := (hbp).cell 9
  have cp10 := (hbp).cell 10
  have cp11 := (hbp).cell 11
  have cp12 := (hbp).cell 12
  have cp13 := (hbp).cell 13
  have cp14 := (hbp).cell 14
  simp only [List.getElem?_cons_zero, List.getElem?_cons_succ] at cp0 cp1 cp2 cp3 cp4 cp5 cp6 cp7 cp8 cp9 cp10 cp11 cp12 cp13 cp14
  have cu0 := (hbu).cell 0
  have cu1 := (hbu).cell 1
  have cu2 := (hbu).cell 2
  have cu3 := (hbu).cell 3
  have cu4 := (hbu).cell 4
  have cu5 := (hbu).cell 5
  simp only [List.getElem?_cons_zero, List.getElem?_cons_succ] at cu0 cu1 cu2 cu3 cu4 cu5
  have cs0 := (hbs).cell 0
  simp only [List.getElem?_cons_zero, List.getElem?_cons_succ] at cs0
  have cl0 := (hbl).cell 0
  simp only [List.getElem?_cons_zero, List.getElem?_cons_succ] at cl0
  have ck0 := (hbk).cell 0
  simp only [List.getElem?_cons_zero, List.getElem?_cons_succ] at ck0
  have hcon := dict_put h p u s0 sl t ht h0 h2 h3 hpb hs0 hsl
  have Hcon := hid hcon
  clear hcon
  clear hbp hbu hbs hbl hbk
  refine calls_hide fun R' hR' => ?_
  go_enter Try.func71, Try.ntmps71
  go_wp2_with fail
  refine Hcon.out.mono ?_
  rintro e w1 ⟨rfl, hR, hK⟩
  unfold V6.val
  have hA := hba.keep hK hKa
  have hV := hbv.keep hK hKv
  have hE := hbe.keep hK hKe
  clear cp0 cp1 cp2 cp3 cp4 cp5 cp6 cp7 cp8 cp9 cp10 cp11 cp12 cp13 cp14 cu0 cu1 cu2 cu3 cu4 cu5 cs0 cl0 ck0 hba hbv hbe
  have ca0 := (hA).cell 0
  simp only [List.getElem?_cons_zero, List.getElem?_cons_succ] at ca0
  have cv0 := (hV).cell 0
  have cv1 := (hV).cell 1
  have cv2 := (hV).cell 2
  have cv3 := (hV).cell 3
  have cv4 := (hV).cell 4
  have cv5 := (hV).cell 5
  simp only [List.getElem?_cons_zero, List.getElem?_cons_succ] at cv0 cv1 cv2 cv3 cv4 cv5
  have ce0 := (hE).cell 0
  simp only [List.getElem?_cons_zero, List.getElem?_cons_succ] at ce0
  have fa := hA.free
  have fv := hV.free
  have fe := hE.free
  have hav' := hav.symm
  have hae' := hae.symm
  have hve' := hve.symm
  go_wp2_with fail
  have hK' : Keeps (fun x => K x ∧ x ≠ pa ∧ x ≠ pv ∧ x ≠ pe) w w1 := hK.mono fun b hb => hb.1
  refine bp_gen (fun W => Blk W pa [.int .i64 (p.base.a4 + u.a4)] ∧ Blk W pv [.int .i64 u.a0, .int .i64 u.a1, .int .i64 u.a2, .int .i64 u.a3, .int .i64 (u.a4 + (2 + ((t.size : Int) + 3) / 4)), .int .i64 u.a5] ∧ Blk W pe [.int .i64 0] ∧ Keeps (fun x => K x ∧ x ≠ pa ∧ x ≠ pv ∧ x ≠ pe) w W ∧ RM W K r m c ((putD (p.base.a4 + u.a4) (s0 + sl) t.size (packC (bsL t))).exec s).2) ⟨?_, ?_, ?_, ?_, ?_⟩ ?_
  · repeat (first | with_reducible assumption | with_reducible exact Blk.new _ _ _ | with_reducible refine Blk.drew ?_ | with_reducible refine Blk.drewN ?_ _ | with_reducible refine BlkN.set1 ?_ _ | with_reducible refine BlkN.set6 ?_ _ _ _ _ _ _ | with_reducible exact BlkN.of1 (by with_reducible assumption) | with_reducible exact BlkN.of6 (by with_reducible assumption) | with_reducible refine BlkN.drew ?_ | with_reducible refine BlkN.drewN ?_ _ | with_reducible refine BlkN.set_ne ?_ _ ?_ | with_reducible refine BlkN.alloc ?_ _ | with_reducible refine Blk.set_ne ?_ _ ?_ | (with_reducible refine Blk.new' _ _ _ ?_; focus (simp; done)) | with_reducible refine Blk.alloc ?_ _)
    all_goals (first | assumption | (simp; done) | (simp; omega))
  · repeat (first | with_reducible assumption | with_reducible exact Blk.new _ _ _ | with_reducible refine Blk.drew ?_ | with_reducible refine Blk.drewN ?_ _ | with_reducible refine BlkN.set1 ?_ _ | with_reducible refine BlkN.set6 ?_ _ _ _ _ _ _ | with_reducible exact BlkN.of1 (by with_reducible assumption) | with_reducible exact BlkN.of6 (by with_reducible assumption) | with_reducible refine BlkN.drew ?_ | with_reducible refine BlkN.drewN ?_ _ | with_reducible refine BlkN.set_ne ?_ _ ?_ | with_reducible refine BlkN.alloc ?_ _ | with_reducible refine Blk.set_ne ?_ _ ?_ | (with_reducible refine Blk.new' _ _ _ ?_; focus (simp; done)) | with_reducible refine Blk.alloc ?_ _)
    all_goals (first | assumption | (simp; done) | (simp; omega))
  · repeat (first | with_reducible assumption | with_reducible exact Blk.new _ _ _ | with_reducible refine Blk.drew ?_ | with_reducible refine Blk.drewN ?_ _ | with_reducible refine BlkN.set1 ?_ _ | with_reducible refine BlkN.set6 ?_ _ _ _ _ _ _ | with_reducible exact BlkN.of1 (by with_reducible assumption) | with_reducible exact BlkN.of6 (by with_reducible assumption) | with_reducible refine BlkN.drew ?_ | with_reducible refine BlkN.drewN ?_ _ | with_reducible refine BlkN.set_ne ?_ _ ?_ | with_reducible refine BlkN.alloc ?_ _ | with_reducible refine Blk.set_ne ?_ _ ?_ | (with_reducible refine Blk.new' _ _ _ ?_; focus (simp; done)) | with_reducible refine Blk.alloc ?_ _)
    all_goals (first | assumption | (simp; done) | (simp; omega))
  · repeat (first | with_reducible assumption | with_reducible exact Keeps.refl _ _ | with_reducible refine Keeps.drew ?_ | with_reducible refine Keeps.drewN ?_ _ | with_reducible refine Keeps.setCell ?_ ?_ _ | with_reducible refine Keeps.alloc ?_ ?_ _)
    all_goals (first | (simp; done) | (simp; omega) | (intro b hb; first | exact hb | omega | (simp; omega) | (simp only [World.size_alloc]; omega)))
  · repeat (first | with_reducible assumption | with_reducible refine RM.drew ?_ | with_reducible refine RM.drewN ?_ _ | with_reducible refine RM.setK ?_ ?_ _)
    all_goals (first | assumption | (simp; done))
  rintro W ⟨g1, g2, g3, g4, g5⟩
  go_end0
  exact hR'.out _ _ ⟨rfl, g5, g4, g1, g2, g3⟩

set_option maxRecDepth 100000 in
set_option maxHeartbeats 1000000 in
theorem put1_full {w : World} {K : Nat → Prop} {r m c : Nat} {s : St} (h : RM w K r m c s) (pp pu ps pl pk pa pv pe : Nat) (p : PlanM) (u o : V6) (s0 sl oa oe : Int) (t : ByteArray) (ht : t.size ≤ 1000)
    (h0 : 0 ≤ u.a4) (hu : u.a4 ≤ p.size.a4) (h2 : p.size.a4 < u.a4 + (2 + ((t.size + 3) / 4 : Nat))) (h3 : p.size.a4 ≤ 65536)
    (hbp : Blk w pp [.int .i64 p.base.a0, .int .i64 p.base.a1, .int .i64 p.base.a2, .int .i64 p.base.a3, .int .i64 p.base.a4, .int .i64 p.base.a5, .int .i64 p.size.a0, .int .i64 p.size.a1, .int .i64 p.size.a2, .int .i64 p.size.a3, .int .i64 p.size.a4, .int .i64 p.size.a5, .int .i64 p.cells, .int .i64 p.slots, .int .i64 p.live])
    (hbu : Blk w pu [.int .i64 u.a0, .int .i64 u.a1, .int .i64 u.a2, .int .i64 u.a3, .int .i64 u.a4, .int .i64 u.a5]) (hbs : Blk w ps [.int .i64 s0]) (hbl : Blk w pl [.int .i64 sl]) (hbk : Blk w pk [.string t])
    (hba : Blk w pa [.int .i64 oa]) (hbv : Blk w pv [.int .i64 o.a0, .int .i64 o.a1, .int .i64 o.a2, .int .i64 o.a3, .int .i64 o.a4, .int .i64 o.a5]) (hbe : Blk w pe [.int .i64 oe]) (hKa : K pa) (hKv : K pv) (hKe : K pe) (hav : pa ≠ pv) (hae : pa ≠ pe) (hve : pv ≠ pe) :
    Calls Try.prog 71 #[.pointer (some ⟨r, 0, none⟩), .pointer (some ⟨pp, 0, none⟩), .pointer (some ⟨pu, 0, none⟩), .pointer (some ⟨ps, 0, none⟩), .pointer (some ⟨pl, 0, none⟩), .pointer (some ⟨pk, 0, none⟩), .pointer (some ⟨pa, 0, none⟩), .pointer (some ⟨pv, 0, none⟩), .pointer (some ⟨pe, 0, none⟩)] w fun e w' =>
      e = .returned (.tuple #[]) ∧ RM w' K r m c s ∧ Keeps (fun x => K x ∧ x ≠ pa ∧ x ≠ pv ∧ x ≠ pe) w w' ∧
        Blk w' pa [.int .i64 0] ∧ Blk w' pv [.int .i64 0, .int .i64 0, .int .i64 0, .int .i64 0, .int .i64 0, .int .i64 0] ∧ Blk w' pe [.int .i64 3] := by
  have cp0 := (hbp).cell 0
  have cp1 := (hbp).cell 1
  have cp2 := (hbp).cell 2
  have cp3 := (hbp).cell 3
  have cp4 := (hbp).cell 4
  have cp5 := (hbp).cell 5
  have cp6 := (hbp).cell 6
  have cp7 := (hbp).cell 7
  have cp8 := (hbp).cell 8
  have cp9 := (hbp).cell 9
  have cp10 := (hbp).cell 10
  have cp11 := (hbp).cell 11
  have cp12 := (hbp).cell 12
  have cp13 := (hbp).cell 13
  have cp14 := (hbp).cell 14
  simp only [List.getElem?_cons_zero, List.getElem?_cons_succ] at cp0 cp1 cp2 cp3 cp4 cp5 cp6 cp7 cp8 cp9 cp10 cp11 cp12 cp13 cp14
  have cu0 := (hbu).cell 0
  have cu1 := (hbu).cell 1
  have cu2 := (hbu).cell 2
  have cu3 := (hbu).cell 3
  have cu4 := (hbu).cell 4
  have cu5 := (hbu).cell 5
  simp only [List.getElem?_cons_zero, List.getElem?_cons_succ] at cu0 cu1 cu2 cu3 cu4 cu5
  have cs0 := (hbs).cell 0
  simp only [List.getElem?_cons_zero, List.getElem?_cons_succ] at cs0
  have cl0 := (hbl).cell 0
  simp only [List.getElem?_cons_zero, List.getElem?_cons_succ] at cl0
  have ck0 := (hbk).cell 0
  simp only [List.getElem?_cons_zero, List.getElem?_cons_succ] at ck0
  have hcon := dict_put_full h p u s0 sl t ht h0 hu h2 h3
  have Hcon := hid hcon
  clear hcon
  clear hbp hbu hbs hbl hbk
  refine calls_hide fun R' hR' => ?_
  go_enter Try.func71, Try.ntmps71
  go_wp2_with fail
  refine Hcon.out.mono ?_
  rintro e w1 ⟨rfl, hR, hK⟩
  unfold V6.val
  have hA := hba.keep hK hKa
  have hV := hbv.keep hK hKv
  have hE := hbe.keep hK hKe
  clear cp0 cp1 cp2 cp3 cp4 cp5 cp6 cp7 cp8 cp9 cp10 cp11 cp12 cp13 cp14 cu0 cu1 cu2 cu3 cu4 cu5 cs0 cl0 ck0 hba hbv hbe
  have ca0 := (hA).cell 0
  simp only [List.getElem?_cons_zero, List.getElem?_cons_succ] at ca0
  have cv0 := (hV).cell 0
  have cv1 := (hV).cell 1
  have cv2 := (hV).cell 2
  have cv3 := (hV).cell 3
  have cv4 := (hV).cell 4
  have cv5 := (hV).cell 5
  simp only [List.getElem?_cons_zero, List.getElem?_cons_succ] at cv0 cv1 cv2 cv3 cv4 cv5
  have ce0 := (hE).cell 0
  simp only [List.getElem?_cons_zero, List.getElem?_cons_succ] at ce0
  have fa := hA.free
  have fv := hV.free
  have fe := hE.free
  have hav' := hav.symm
  have hae' := hae.symm
  have hve' := hve.symm
  go_wp2_with fail
  have hK' : Keeps (fun x => K x ∧ x ≠ pa ∧ x ≠ pv ∧ x ≠ pe) w w1 := hK.mono fun b hb => hb.1
  refine bp_gen (fun W => Blk W pa [.int .i64 0] ∧ Blk W pv [.int .i64 0, .int .i64 0, .int .i64 0, .int .i64 0, .int .i64 0, .int .i64 0] ∧ Blk W pe [.int .i64 3] ∧ Keeps (fun x => K x ∧ x ≠ pa ∧ x ≠ pv ∧ x ≠ pe) w W ∧ RM W K r m c s) ⟨?_, ?_, ?_, ?_, ?_⟩ ?_
  · repeat (first | with_reducible assumption | with_reducible exact Blk.new _ _ _ | with_reducible refine Blk.drew ?_ | with_reducible refine Blk.drewN ?_ _ | with_reducible refine BlkN.set1 ?_ _ | with_reducible refine BlkN.set6 ?_ _ _ _ _ _ _ | with_reducible exact BlkN.of1 (by with_reducible assumption) | with_reducible exact BlkN.of6 (by with_reducible assumption) | with_reducible refine BlkN.drew ?_ | with_reducible refine BlkN.drewN ?_ _ | with_reducible refine BlkN.set_ne ?_ _ ?_ | with_reducible refine BlkN.alloc ?_ _ | with_reducible refine Blk.set_ne ?_ _ ?_ | (with_reducible refine Blk.new' _ _ _ ?_; focus (simp; done)) | with_reducible refine Blk.alloc ?_ _)
    all_goals (first | assumption | (simp; done) | (simp; omega))
  · repeat (first | with_reducible assumption | with_reducible exact Blk.new _ _ _ | with_reducible refine Blk.drew ?_ | with_reducible refine Blk.drewN ?_ _ | with_reducible refine BlkN.set1 ?_ _ | with_reducible refine BlkN.set6 ?_ _ _ _ _ _ _ | with_reducible exact BlkN.of1 (by with_reducible assumption) | with_reducible exact BlkN.of6 (by with_reducible assumption) | with_reducible refine BlkN.drew ?_ | with_reducible refine BlkN.drewN ?_ _ | with_reducible refine BlkN.set_ne ?_ _ ?_ | with_reducible refine BlkN.alloc ?_ _ | with_reducible refine Blk.set_ne ?_ _ ?_ | (with_reducible refine Blk.new' _ _ _ ?_; focus (simp; done)) | with_reducible refine Blk.alloc ?_ _)
    all_goals (first | assumption | (simp; done) | (simp; omega))
  · repeat (first | with_reducible assumption | with_reducible exact Blk.new _ _ _ | with_reducible refine Blk.drew ?_ | with_reducible refine Blk.drewN ?_ _ | with_reducible refine BlkN.set1 ?_ _ | with_reducible refine BlkN.set6 ?_ _ _ _ _ _ _ | with_reducible exact BlkN.of1 (by with_reducible assumption) | with_reducible exact BlkN.of6 (by with_reducible assumption) | with_reducible refine BlkN.drew ?_ | with_reducible refine BlkN.drewN ?_ _ | with_reducible refine BlkN.set_ne ?_ _ ?_ | with_reducible refine BlkN.alloc ?_ _ | with_reducible refine Blk.set_ne ?_ _ ?_ | (with_reducible refine Blk.new' _ _ _ ?_; focus (simp; done)) | with_reducible refine Blk.alloc ?_ _)
    all_goals (first | assumption | (simp; done) | (simp; omega))
  · repeat (first | with_reducible assumption | with_reducible exact Keeps.refl _ _ | with_reducible refine Keeps.drew ?_ | with_reducible refine Keeps.drewN ?_ _ | with_reducible refine Keeps.setCell ?_ ?_ _ | with_reducible refine Keeps.alloc ?_ ?_ _)
    all_goals (first | (simp; done) | (simp; omega) | (intro b hb; first | exact hb | omega | (simp; omega) | (simp only [World.size_alloc]; omega)))
  · repeat (first | with_reducible assumption | with_reducible refine RM.drew ?_ | with_reducible refine RM.drewN ?_ _ | with_reducible refine RM.setK ?_ ?_ _)
    all_goals (first | assumption | (simp; done))
  rintro W ⟨g1, g2, g3, g4, g5⟩
  go_end0
  exact hR'.out _ _ ⟨rfl, g5, g4, g1, g2, g3⟩
end Go.Proofs.Ytjnaibmnpajfdaa
