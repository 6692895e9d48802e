/- Layer 17 (query): order. -/
import Derived.Test.YtbepgbkbpkaodaaDoorQryH
namespace Go.Proofs.YtbepgbkbpkaodaaDoor
open Go.RowKit

/-- the word behind blanks -/
def nextW (rs : List Int) (p : Nat) : ByteArray := textS ((rs.drop (skipB rs p)).takeWhile isW)
def orderP (t : ByteArray) : Option Int := if (t.toList == [110, 101, 119]) = true then some 1 else if (t.toList == [114, 97, 110, 107]) = true then some 0 else none

set_option maxRecDepth 100000 in
set_option maxHeartbeats 1000000 in
theorem query_order {w : World} {b c p : Nat} {A : Option Addr} {rs : List Int} (h : Rd w b A c rs p) : Calls Tryd.prog 27 #[.pointer (some ⟨b, 0, none⟩)] w fun e w' => e = (match orderP (nextW rs p) with | some k => .returned (.int .i64 k) | none => thrown 8) ∧ Rd w' b A c rs (wordE rs (skipB rs p)) ∧ Mv b w w' := by
  have HR := hid h
  clear h
  refine calls_hide fun R' hR' => ?_
  go_enter Tryd.func27, Tryd.ntmps27
  go_wp2_with fail
  refine (query_blanks HR.out).mono ?_
  rintro e w1 ⟨rfl, hQ, hM⟩
  have HQ := hid hQ
  have HM := hid hM
  clear hQ hM
  clear HR
  go_wp2_with fail
  refine (query_word HQ.out).mono ?_
  rintro e w2 ⟨rfl, hQ2, hM2⟩
  have hM3 := HM.out.trans hM2
  have hnw : nextW rs p = textS ((rs.drop (skipB rs p)).takeWhile isW) := rfl
  rw [← hnw]
  clear hnw HQ HM hM2
  generalize nextW rs p = t at *
  have HQ2 := hid hQ2
  have HM3 := hid hM3
  clear hQ2 hM3
  by_cases g1 : (t.toList == [110, 101, 119]) = true
  · go_wp2_with fail
    exact hR'.out _ _ ⟨by unfold orderP; rw [if_pos g1]; rfl, HQ2.out, HM3.out⟩
  have g1f : (t.toList == [110, 101, 119]) = false := by simpa using g1
  by_cases g2 : (t.toList == [114, 97, 110, 107]) = true
  · have ho : orderP t = some 0 := by unfold orderP; rw [if_neg g1, if_pos g2]
    clear g1
    have HO := hid ho
    clear ho
    go_wp2_with fail
    exact hR'.out _ _ ⟨by rw [HO.out]; rfl, HQ2.out, HM3.out⟩
  have g2f : (t.toList == [114, 97, 110, 107]) = false := by simpa using g2
  have ho : orderP t = none := by unfold orderP; rw [if_neg g1, if_neg g2]
  clear g1 g2
  have HO := hid ho
  clear ho
  go_wp2_with fail
  exact post_thrown (hR'.out _ _ ⟨by rw [HO.out]; rfl, HQ2.out, HM3.out⟩)
end Go.Proofs.YtbepgbkbpkaodaaDoor
