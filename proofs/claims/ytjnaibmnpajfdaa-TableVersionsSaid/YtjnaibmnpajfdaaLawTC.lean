/- Layer 11's statements: the example 'fixed'. -/
import Derived.Test.YtjnaibmnpajfdaaLawTA
import Derived.Test.YtjnaibmnpajfdaaLawTB
namespace Go.Proofs.Ytjnaibmnpajfdaa
open Go.RowKit

/-- 'whole' of a program that itself writes nothing -/
theorem whole11_plain {w : World} {K : Nat → Prop} {m c : Nat} {μ : MemS} (hm : MemAt w m c μ) (hKm : ¬ K m) (hKc : ¬ K c) (hlt : ∀ b, K b → b < w.heap.size) (f : FuncId) (cap : Array Value)
    (hent : ∀ (args : Array Value) (w : World), (callFunc f args).run Try.prog w = .ok (.enter f args) w) {α : Type} (t : Tree α) {x : α} {cs' : List Int} {n : Nat}
    (hid0 : t.ideal μ.cells = some (x, cs', n)) (hn : n ≤ 65535)
    (hp : ∀ w1 r s1, Keeps K w w1 → RM w1 K r m c s1 → Calls Try.prog f (#[.pointer (some ⟨r, 0, none⟩)] ++ cap) w1 fun e w2 => e = .returned (.tuple #[]) ∧ RM w2 K r m c (t.exec s1).2 ∧ Keeps K w1 w2) :
    Calls Try.prog 30 #[.pointer (some ⟨m, 0, none⟩), .func (.func f) #[] cap] w fun e w' =>
      e = .returned (.bool true) ∧ (∃ μ', MemAt w' m c μ' ∧ μ'.cells = cs') ∧ Keeps K w w' := by
  refine (whole11 hm hKm hKc hlt f cap hent t hid0 hn (fun w1 => Keeps K w w1) (fun _ _ _ => True) (Keeps.refl _ _) (fun _ _ h k => h.trans k) (fun _ _ _ _ _ _ _ => trivial) ?_).mono ?_
  · intro w1 r s1 h1 h2
    refine (hp w1 r s1 h1 h2).mono ?_
    rintro e w2 ⟨rfl, g1, g2⟩
    exact ⟨rfl, g1, h1.trans g2, trivial⟩
  · rintro e w' ⟨rfl, h1, h2, _, _⟩
    exact ⟨rfl, h1, h2⟩

theorem enters_fx1 : ∀ (args : Array Value) (w : World), (callFunc 58 args).run Try.prog w = .ok (.enter 58 args) w :=
  enters_of Try.func58 (by kernel_rfl) rfl
theorem enters_fx2 : ∀ (args : Array Value) (w : World), (callFunc 60 args).run Try.prog w = .ok (.enter 60 args) w :=
  enters_of Try.func60 (by kernel_rfl) rfl

def fxT : Tree Unit := (layT 2 0 7 3 1).bind fun _ => (layT 2 1 8 2 2).bind fun _ => killT 2 0 3
def fxC : List Int := [0, 0, 1, 7, 3, 3, 2, 8, 2, 0, 0, 0]
theorem fxT_ideal : fxT.ideal (List.replicate 12 0) = some ((), fxC, 7) := by rfl

set_option maxHeartbeats 400000 in
theorem fx1_call {w : World} {K : Nat → Prop} {r m c : Nat} {s : St} (h : RM w K r m c s) :
    Calls Try.prog 58 #[.pointer (some ⟨r, 0, none⟩)] w fun e w' => e = .returned (.tuple #[]) ∧ RM w' K r m c (fxT.exec s).2 ∧ Keeps K w w' := by
  have H := hid h
  clear h
  refine calls_hide fun R' hR' => ?_
  go_enter Try.func58, Try.ntmps58
  go_wp2_with fail
  refine (table_lay H.out 2 0 7 3 1 (by unfold Small; omega) (by unfold Small; omega) (by unfold U32; omega) (by unfold U32; omega) (by unfold U32; omega)).mono ?_
  rintro e w1 ⟨rfl, h1, k1⟩
  have H1 := hid h1
  have K1 := hid k1
  clear h1 k1
  go_wp2_with fail
  refine (table_lay H1.out 2 1 8 2 2 (by unfold Small; omega) (by unfold Small; omega) (by unfold U32; omega) (by unfold U32; omega) (by unfold U32; omega)).mono ?_
  rintro e w2 ⟨rfl, h2, k2⟩
  have H2 := hid h2
  have K2 := hid (K1.out.trans k2)
  clear h2 k2
  go_wp2_with fail
  refine (table_kill H2.out 2 0 3 (by unfold Small; omega) (by unfold Small; omega) (by unfold U32; omega)).mono ?_
  rintro e w3 ⟨rfl, h3, k3⟩
  have H3 := hid h3
  have K3 := hid (K2.out.trans k3)
  clear h3 k3
  go_wp2_with fail
  go_end0
  refine hR'.out _ _ ⟨rfl, ?_, K3.out⟩
  have := H3.out
  unfold fxT
  rw [Tree.exec_bind, Tree.exec_bind]
  exact this

set_option maxHeartbeats 400000 in
theorem fx2_call {w : World} {K : Nat → Prop} {r m c : Nat} {s : St} (h : RM w K r m c s) (pd : Nat) (old : Value) (hbd : Blk w pd [old]) (hKd : K pd) :
    Calls Try.prog 60 #[.pointer (some ⟨r, 0, none⟩), .pointer (some ⟨pd, 0, none⟩)] w fun e w' =>
      e = .returned (.tuple #[]) ∧ RM w' K r m c ((findT 2 8 2 0).exec s).2 ∧ Keeps (fun x => K x ∧ x ≠ pd) w w' ∧ Blk w' pd [.int .i64 ((findT 2 8 2 0).exec s).1] := by
  have H := hid h
  have HB := hid hbd
  clear h hbd
  refine calls_hide fun R' hR' => ?_
  go_enter Try.func60, Try.ntmps60
  go_wp2_with fail
  refine (table_find H.out 2 8 2 (by unfold Small; omega) (by omega) (by unfold U32; omega)).mono ?_
  rintro e w1 ⟨rfl, h1, k1⟩
  have hb1 := HB.out.keep k1 hKd
  have cl := hb1.cell 0
  have fl := hb1.free 0
  simp only [List.getElem?_cons_zero] at cl
  have H1 := hid h1
  have K1 := hid k1
  have HB1 := hid hb1
  clear h1 k1 hb1
  generalize ((findT 2 8 2 0).exec s).1 = res at *
  go_wp2_with fail
  go_end0
  have kk : Keeps (· ≠ pd) w1 (w1.setCell ⟨pd, 0, none⟩ (.int .i64 res)) := (Keeps.refl _ _).setCell (by simp) _
  exact hR'.out _ _ ⟨rfl, H1.out.setK (a := ⟨pd, 0, none⟩) hKd _, (K1.out.mono fun b hb => hb.1).trans (kk.mono fun b hb => hb.2), by simpa using HB1.out.set 0 (.int .i64 res)⟩
end Go.Proofs.Ytjnaibmnpajfdaa
