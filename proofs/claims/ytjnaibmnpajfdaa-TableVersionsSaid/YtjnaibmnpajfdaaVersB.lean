/- TableVersions: the closures of 'change'. -/
import Derived.Test.YtjnaibmnpajfdaaVersA
namespace Go.Proofs.Ytjnaibmnpajfdaa
open Go.RowKit

theorem enters_ch1 : ∀ (args : Array Value) (w : World), (callFunc 61 args).run Try.prog w = .ok (.enter 61 args) w :=
  enters_of Try.func61 (by kernel_rfl) rfl
theorem enters_ch2 : ∀ (args : Array Value) (w : World), (callFunc 63 args).run Try.prog w = .ok (.enter 63 args) w :=
  enters_of Try.func63 (by kernel_rfl) rfl
theorem enters_ch3 : ∀ (args : Array Value) (w : World), (callFunc 64 args).run Try.prog w = .ok (.enter 64 args) w :=
  enters_of Try.func64 (by kernel_rfl) rfl

set_option maxHeartbeats 400000 in
theorem ch1_call {w : World} {K : Nat → Prop} {r m c : Nat} {s : St} (h : RM w K r m c s) (pd px d : Nat) (y0 y1 y2 y3 : Value) (hd : d ≤ 1000) (hbd : Blk w pd [.int .i64 d]) (hbx : Blk w px [y0, y1, y2, y3]) (hKx : K px) :
    Calls Try.prog 61 #[.pointer (some ⟨r, 0, none⟩), .pointer (some ⟨pd, 0, none⟩), .pointer (some ⟨px, 0, none⟩)] w fun e w' =>
      e = .returned (.tuple #[]) ∧ RM w' K r m c ((rowT 0 d).exec s).2 ∧ Keeps (fun b => K b ∧ b ≠ px) w w' ∧ Blk w' px ((rowT 0 d).exec s).1.vals := by
  have cd := hbd.cell 0
  simp only [List.getElem?_cons_zero] at cd
  have H := hid h
  have HB := hid hbx
  clear h hbd hbx
  refine calls_hide fun R' hR' => ?_
  go_enter Try.func61, Try.ntmps61
  go_wp2_with fail
  refine (table_row H.out 0 d (by unfold Small; omega) (by unfold Small; omega)).mono ?_
  rintro e w1 ⟨rfl, h1, k1⟩
  have hb1 := HB.out.keep k1 hKx
  have c0 := hb1.cell 0
  have c1 := hb1.cell 1
  have c2 := hb1.cell 2
  have c3 := hb1.cell 3
  have fz := hb1.free
  simp only [List.getElem?_cons_zero, List.getElem?_cons_succ] at c0 c1 c2 c3
  have H1 := hid h1
  have HB1 := hid hb1
  have K1 := hid k1
  clear h1 k1 hb1
  generalize ((rowT 0 d).exec s).1 = x at *
  obtain ⟨x0, x1, x2, x3⟩ := x
  unfold RowM.vals
  go_wp2_with fail
  go_end0
  have kk : Keeps (· ≠ px) w1 ((((w1.setCell ⟨px, 0, none⟩ (.int .u32 x0)).setCell ⟨px, 1, none⟩ (.int .u32 x1)).setCell ⟨px, 2, none⟩ (.int .u32 x2)).setCell ⟨px, 3, none⟩ (.int .u32 x3)) :=
    ((((Keeps.refl _ _).setCell (by simp) _).setCell (by simp) _).setCell (by simp) _).setCell (by simp) _
  refine hR'.out _ _ ⟨rfl, (((H1.out.setK (a := ⟨px, 0, none⟩) hKx _).setK (a := ⟨px, 1, none⟩) hKx _).setK (a := ⟨px, 2, none⟩) hKx _).setK (a := ⟨px, 3, none⟩) hKx _, (K1.out.mono fun b hb => hb.1).trans (kk.mono fun b hb => hb.2), ?_⟩
  simpa [RowM.vals] using (((HB1.out.set 0 (.int .u32 x0)).set 1 (.int .u32 x1)).set 2 (.int .u32 x2)).set 3 (.int .u32 x3)

set_option maxHeartbeats 400000 in
theorem ch2_call {w : World} {K : Nat → Prop} {r m c : Nat} {s : St} (h : RM w K r m c s) (pd pv d : Nat) (v : Int) (hd : d ≤ 1000) (hv0 : 0 ≤ v) (hv1 : v ≤ 1000) (hbd : Blk w pd [.int .i64 d]) (hbv : Blk w pv [.int .u32 v]) :
    Calls Try.prog 63 #[.pointer (some ⟨r, 0, none⟩), .pointer (some ⟨pd, 0, none⟩), .pointer (some ⟨pv, 0, none⟩)] w fun e w' =>
      e = .returned (.tuple #[]) ∧ RM w' K r m c ((killT 0 d (v + 1)).exec s).2 ∧ Keeps K w w' := by
  have cd := hbd.cell 0
  have cv := hbv.cell 0
  simp only [List.getElem?_cons_zero] at cd cv
  have H := hid h
  clear h hbd hbv
  refine calls_hide fun R' hR' => ?_
  go_enter Try.func63, Try.ntmps63
  go_wp2_with fail
  refine (table_kill H.out 0 d (v + 1) (by unfold Small; omega) (by unfold Small; omega) (by unfold U32; omega)).mono ?_
  rintro e w1 ⟨rfl, h1, k1⟩
  have H1 := hid h1
  have K1 := hid k1
  clear h1 k1
  go_wp2_with fail
  go_end0
  exact hR'.out _ _ ⟨rfl, H1.out, K1.out⟩

set_option maxHeartbeats 400000 in
theorem ch3_call {w : World} {K : Nat → Prop} {r m c : Nat} {s : St} (h : RM w K r m c s) (pn pa pv n : Nat) (v id ln : Int) (y0 y1 : Value) (hn : n ≤ 1000) (hv0 : 0 ≤ v) (hv1 : v ≤ 1000) (hi : U32 id) (hl : U32 ln)
    (hbn : Blk w pn [.int .i64 n]) (hba : Blk w pa [y0, y1, .int .u32 id, .int .u32 ln]) (hbv : Blk w pv [.int .u32 v]) :
    Calls Try.prog 64 #[.pointer (some ⟨r, 0, none⟩), .pointer (some ⟨pn, 0, none⟩), .pointer (some ⟨pa, 0, none⟩), .pointer (some ⟨pv, 0, none⟩)] w fun e w' =>
      e = .returned (.tuple #[]) ∧ RM w' K r m c ((layT 0 n id ln (v + 1)).exec s).2 ∧ Keeps K w w' := by
  have cn := hbn.cell 0
  have ci := hba.cell 2
  have cl := hba.cell 3
  have cv := hbv.cell 0
  simp only [List.getElem?_cons_zero, List.getElem?_cons_succ] at cn ci cl cv
  have H := hid h
  have HI := hid hi
  have HL := hid hl
  clear h hbn hba hbv hi hl
  refine calls_hide fun R' hR' => ?_
  go_enter Try.func64, Try.ntmps64
  go_wp2_with fail
  refine (table_lay H.out 0 n id ln (v + 1) (by unfold Small; omega) (by unfold Small; omega) HI.out HL.out (by unfold U32; omega)).mono ?_
  rintro e w1 ⟨rfl, h1, k1⟩
  have H1 := hid h1
  have K1 := hid k1
  clear h1 k1
  go_wp2_with fail
  go_end0
  exact hR'.out _ _ ⟨rfl, H1.out, K1.out⟩
end Go.Proofs.Ytjnaibmnpajfdaa
