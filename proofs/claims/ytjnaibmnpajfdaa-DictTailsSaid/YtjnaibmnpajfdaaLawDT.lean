/- DictTails: the closures, and 'whole' of them. -/
import Derived.Test.YtjnaibmnpajfdaaFix10
namespace Go.Proofs.Ytjnaibmnpajfdaa
open Go.RowKit

theorem enters_dt1 : ∀ (args : Array Value) (w : World), (callFunc 47 args).run Try.prog w = .ok (.enter 47 args) w :=
  enters_of Try.func47 (by kernel_rfl) rfl
theorem enters_dt2 : ∀ (args : Array Value) (w : World), (callFunc 49 args).run Try.prog w = .ok (.enter 49 args) w :=
  enters_of Try.func49 (by kernel_rfl) rfl

set_option maxHeartbeats 400000 in
theorem dt1_call {w : World} {K : Nat → Prop} {r m c : Nat} {s : St} (h : RM w K r m c s) (pa pt : Nat) (a v : Int) (hv : U32 v) (hba : Blk w pa [.int .i64 a]) (hbt : Blk w pt [.int .u32 v]) :
    Calls Try.prog 47 #[.pointer (some ⟨r, 0, none⟩), .pointer (some ⟨pa, 0, none⟩), .pointer (some ⟨pt, 0, none⟩)] w fun e w' =>
      e = .returned (.tuple #[]) ∧ RM w' K r m c (s.store a v) ∧ Keeps K w w' := by
  have a0 := (hba).cell 0
  simp only [List.getElem?_cons_zero, List.getElem?_cons_succ] at a0
  have t0 := (hbt).cell 0
  simp only [List.getElem?_cons_zero, List.getElem?_cons_succ] at t0
  have hd := dict_setTail h a v hv
  obtain ⟨v0, v1⟩ := hv
  have Hd := hid hd
  clear hd
  clear hba hbt
  refine calls_hide fun R' hR' => ?_
  go_enter Try.func47, Try.ntmps47
  go_wp2_with fail
  refine (Hd.out).mono ?_
  rintro e w1 ⟨rfl, hR, hK⟩
  have HR := hid hR
  have HK := hid hK
  clear hR hK
  go_wp2_with fail
  go_end0
  exact hR'.out _ _ ⟨rfl, HR.out, HK.out⟩

set_option maxHeartbeats 400000 in
theorem dt2_call {w : World} {K : Nat → Prop} {r m c : Nat} {s : St} (h : RM w K r m c s) (pa pg : Nat) (a o : Int) (hba : Blk w pa [.int .i64 a]) (hbg : Blk w pg [.int .i64 o]) (hKg : K pg) :
    Calls Try.prog 49 #[.pointer (some ⟨r, 0, none⟩), .pointer (some ⟨pa, 0, none⟩), .pointer (some ⟨pg, 0, none⟩)] w fun e w' =>
      e = .returned (.tuple #[]) ∧ RM w' K r m c (s.load a).2 ∧ Keeps (fun x => K x ∧ x ≠ pg) w w' ∧ Blk w' pg [.int .i64 (s.load a).1] := by
  have a0 := (hba).cell 0
  simp only [List.getElem?_cons_zero, List.getElem?_cons_succ] at a0
  have hd := dict_tail h a
  generalize s.load a = ls at *
  have Hd := hid hd
  clear hd
  clear hba
  refine calls_hide fun R' hR' => ?_
  go_enter Try.func49, Try.ntmps49
  go_wp2_with fail
  refine (Hd.out).mono ?_
  rintro e w1 ⟨rfl, hR, hK⟩
  have hG := hbg.keep hK hKg
  clear a0 hbg
  have g0 := (hG).cell 0
  simp only [List.getElem?_cons_zero, List.getElem?_cons_succ] at g0
  have fg := hG.free
  go_wp2_with fail
  go_end0
  have k1 : Keeps (fun x => K x ∧ x ≠ pg) w1 (w1.setCell ⟨pg, 0, none⟩ (.int .i64 ls.1)) := (Keeps.refl _ _).setCell (by simp) _
  refine hR'.out _ _ ⟨rfl, hR.setK (a := ⟨pg, 0, none⟩) hKg _, (hK.mono fun b hb => hb.1).trans k1, ?_⟩
  simpa using hG.set 0 (.int .i64 ls.1)

theorem set_whole {w : World} {K : Nat → Prop} {m c : Nat} {μ : MemS} (hm : MemAt w m c μ) (hKm : ¬ K m) (hKc : ¬ K c) (hlt : ∀ b, K b → b < w.heap.size) (pa pt a : Nat) (v : Int) (hv : U32 v)
    (hba : Blk w pa [.int .i64 a]) (hbt : Blk w pt [.int .u32 v]) (hKa : K pa) (hKt : K pt) (ha : a < μ.cells.length) :
    Calls Try.prog 46 #[.pointer (some ⟨m, 0, none⟩), .func (.func 47) #[] #[.pointer (some ⟨pa, 0, none⟩), .pointer (some ⟨pt, 0, none⟩)]] w fun e w' =>
      e = .returned (.bool true) ∧ (∃ μ', MemAt w' m c μ' ∧ μ'.cells = μ.cells.set a v) ∧ Keeps K w w' := by
  have hid0 : (Tree.store (a : Int) v (.ret ())).ideal μ.cells = some ((), μ.cells.set a v, 1) := by
    show (if 0 ≤ (a : Int) ∧ (a : Int) < μ.cells.length then _ else _) = _
    rw [if_pos ⟨by omega, by omega⟩]; rfl
  refine (whole10 hm hKm hKc hlt _ _ enters_dt1 _ hid0 (by decide) (fun w1 => Keeps K w w1) (fun _ _ _ => True) (Keeps.refl _ _) (fun _ _ h k => h.trans k) (fun _ _ _ _ _ _ _ => trivial) ?_).mono ?_
  · intro w1 r s1 h1 h2
    refine (dt1_call h2 pa pt a v hv (hba.keep h1 hKa) (hbt.keep h1 hKt)).mono ?_
    rintro e w2 ⟨rfl, g1, g2⟩
    exact ⟨rfl, g1, h1.trans g2, trivial⟩
  · rintro e w' ⟨rfl, h1, h2, _, _⟩
    exact ⟨rfl, h1, h2⟩

theorem get_whole {w : World} {K : Nat → Prop} {m c : Nat} {μ : MemS} (hm : MemAt w m c μ) (hKm : ¬ K m) (hKc : ¬ K c) (hlt : ∀ b, K b → b < w.heap.size) (pa pg a : Nat) (v o : Int)
    (hba : Blk w pa [.int .i64 a]) (hbg : Blk w pg [.int .i64 o]) (hKa : K pa) (hKg : K pg) (hne : pa ≠ pg) (ha : μ.cells[a]? = some v) :
    Calls Try.prog 46 #[.pointer (some ⟨m, 0, none⟩), .func (.func 49) #[] #[.pointer (some ⟨pa, 0, none⟩), .pointer (some ⟨pg, 0, none⟩)]] w fun e w' =>
      e = .returned (.bool true) ∧ (∃ μ', MemAt w' m c μ' ∧ μ'.cells = μ.cells) ∧ Keeps (fun x => K x ∧ x ≠ pg) w w' ∧ Blk w' pg [.int .i64 v] := by
  have hid0 : (Tree.load (a : Int) fun x => Tree.ret x).ideal μ.cells = some (v, μ.cells, 1) := by
    rw [load_ideal rfl ha]; rfl
  refine (whole10 (K := K) hm hKm hKc hlt _ _ enters_dt2 (Tree.load (a : Int) fun x => Tree.ret x) hid0 (by decide) (fun w1 => Keeps (fun x => K x ∧ x ≠ pg) w w1 ∧ ∃ o : Int, Blk w1 pg [.int .i64 o]) (fun _ y w1 => Blk w1 pg [.int .i64 y]) ⟨Keeps.refl _ _, o, hbg⟩
    (fun w1 w2 h k => ⟨h.1.trans (k.mono fun b hb => hb.1), h.2.choose, h.2.choose_spec.keep k hKg⟩) (fun r y w1 w2 hr h k => h.keep k (fun e => hr (e ▸ hKg))) ?_).mono ?_
  · rintro w1 r s1 ⟨h1, o1, h1b⟩ h2
    refine (dt2_call h2 pa pg a o1 (hba.keep h1 ⟨hKa, hne⟩) h1b hKg).mono ?_
    rintro e w2 ⟨rfl, g1, g2, g3⟩
    exact ⟨rfl, g1, ⟨h1.trans g2, _, g3⟩, g3⟩
  · rintro e w' ⟨rfl, h1, ⟨h2, _⟩, ⟨_, _, h3⟩, _⟩
    exact ⟨rfl, h1, h2, h3⟩
end Go.Proofs.Ytjnaibmnpajfdaa
