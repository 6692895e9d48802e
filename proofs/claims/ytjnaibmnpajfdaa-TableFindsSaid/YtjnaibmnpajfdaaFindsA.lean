/- TableFinds: its closures. -/
import Derived.Test.YtjnaibmnpajfdaaLawTC
import Derived.Test.YtjnaibmnpajfdaaPlainT
namespace Go.Proofs.Ytjnaibmnpajfdaa
open Go.RowKit

theorem enters_tf1 : ∀ (args : Array Value) (w : World), (callFunc 31 args).run Try.prog w = .ok (.enter 31 args) w :=
  enters_of Try.func31 (by kernel_rfl) rfl
theorem enters_tf2 : ∀ (args : Array Value) (w : World), (callFunc 33 args).run Try.prog w = .ok (.enter 33 args) w :=
  enters_of Try.func33 (by kernel_rfl) rfl
theorem enters_tf3 : ∀ (args : Array Value) (w : World), (callFunc 34 args).run Try.prog w = .ok (.enter 34 args) w :=
  enters_of Try.func34 (by kernel_rfl) rfl

set_option maxHeartbeats 400000 in
theorem tf1_call {w : World} {K : Nat → Prop} {r m c : Nat} {s : St} (h : RM w K r m c s) (pd px : Nat) (d : Nat) (x : Int) (hd : d ≤ 1000) (hx : U32 x) (hbd : Blk w pd [.int .i64 d]) (hbx : Blk w px [.int .u32 x]) :
    Calls Try.prog 31 #[.pointer (some ⟨r, 0, none⟩), .pointer (some ⟨pd, 0, none⟩), .pointer (some ⟨px, 0, none⟩)] w fun e w' =>
      e = .returned (.tuple #[]) ∧ RM w' K r m c ((layT 3 d x 1 (1 + d)).exec s).2 ∧ Keeps K w w' := by
  have cd := hbd.cell 0
  have cx := hbx.cell 0
  simp only [List.getElem?_cons_zero] at cd cx
  have H := hid h
  have HX := hid hx
  clear h hbd hbx hx
  refine calls_hide fun R' hR' => ?_
  go_enter Try.func31, Try.ntmps31
  go_wp2_with fail
  refine (table_lay H.out 3 d x 1 _ (by unfold Small; omega) (by unfold Small; omega) HX.out (by unfold U32; omega) (by unfold U32; omega)).mono ?_
  rintro e w1 ⟨rfl, h1, k1⟩
  have H1 := hid h1
  have K1 := hid k1
  clear h1 k1
  go_wp2_with fail
  go_end0
  exact hR'.out _ _ ⟨rfl, H1.out, K1.out⟩

set_option maxHeartbeats 400000 in
theorem tf2_call {w : World} {K : Nat → Prop} {r m c : Nat} {s : St} (h : RM w K r m c s) (pi px : Nat) (A : Option Addr) (n cap : Nat) (x : Int) (hn : n ≤ 1000) (hx : U32 x) (hbi : Blk w pi [.slice A n cap]) (hbx : Blk w px [.int .u32 x]) :
    Calls Try.prog 33 #[.pointer (some ⟨r, 0, none⟩), .pointer (some ⟨pi, 0, none⟩), .pointer (some ⟨px, 0, none⟩)] w fun e w' =>
      e = .returned (.tuple #[]) ∧ RM w' K r m c ((layT 3 n x 1 99).exec s).2 ∧ Keeps K w w' := by
  have cd := hbi.cell 0
  have cx := hbx.cell 0
  simp only [List.getElem?_cons_zero] at cd cx
  have H := hid h
  have HX := hid hx
  clear h hbi hbx hx
  refine calls_hide fun R' hR' => ?_
  go_enter Try.func33, Try.ntmps33
  go_wp2_with fail
  refine (table_lay H.out 3 n x 1 99 (by unfold Small; omega) (by unfold Small; omega) HX.out (by unfold U32; omega) (by unfold U32; omega)).mono ?_
  rintro e w1 ⟨rfl, h1, k1⟩
  have H1 := hid h1
  have K1 := hid k1
  clear h1 k1
  go_wp2_with fail
  go_end0
  exact hR'.out _ _ ⟨rfl, H1.out, K1.out⟩

set_option maxHeartbeats 400000 in
theorem tf3_call {w : World} {K : Nat → Prop} {r m c : Nat} {s : St} (h : RM w K r m c s) (pi px pg : Nat) (A : Option Addr) (n cap : Nat) (x : Int) (old : Value) (hn : n ≤ 1000) (hx : U32 x) (hbi : Blk w pi [.slice A n cap]) (hbx : Blk w px [.int .u32 x])
    (hbg : Blk w pg [old]) (hKg : K pg) :
    Calls Try.prog 34 #[.pointer (some ⟨r, 0, none⟩), .pointer (some ⟨pi, 0, none⟩), .pointer (some ⟨px, 0, none⟩), .pointer (some ⟨pg, 0, none⟩)] w fun e w' =>
      e = .returned (.tuple #[]) ∧ RM w' K r m c ((findT 3 x n 0).exec s).2 ∧ Keeps (fun b => K b ∧ b ≠ pg) w w' ∧ Blk w' pg [.int .i64 ((findT 3 x n 0).exec s).1] := by
  have cd := hbi.cell 0
  have cx := hbx.cell 0
  simp only [List.getElem?_cons_zero] at cd cx
  have H := hid h
  have HX := hid hx
  have HB := hid hbg
  clear h hbi hbx hx hbg
  refine calls_hide fun R' hR' => ?_
  go_enter Try.func34, Try.ntmps34
  go_wp2_with fail
  refine (table_find H.out 3 x n (by unfold Small; omega) (by omega) HX.out).mono ?_
  rintro e w1 ⟨rfl, h1, k1⟩
  have hb1 := HB.out.keep k1 hKg
  have cl := hb1.cell 0
  have fl := hb1.free 0
  simp only [List.getElem?_cons_zero] at cl
  have H1 := hid h1
  have K1 := hid k1
  have HB1 := hid hb1
  clear h1 k1 hb1
  generalize ((findT 3 x n 0).exec s).1 = res at *
  go_wp2_with fail
  go_end0
  have kk : Keeps (· ≠ pg) w1 (w1.setCell ⟨pg, 0, none⟩ (.int .i64 res)) := (Keeps.refl _ _).setCell (by simp) _
  exact hR'.out _ _ ⟨rfl, H1.out.setK (a := ⟨pg, 0, none⟩) hKg _, (K1.out.mono fun b hb => hb.1).trans (kk.mono fun b hb => hb.2), by simpa using HB1.out.set 0 (.int .i64 res)⟩
end Go.Proofs.Ytjnaibmnpajfdaa
