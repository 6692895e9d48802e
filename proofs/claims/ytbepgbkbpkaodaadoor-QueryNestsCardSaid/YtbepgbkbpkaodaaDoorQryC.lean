/- Layer 17 (query): the reader: sign, word. -/
import Derived.Test.YtbepgbkbpkaodaaDoorQryB
namespace Go.Proofs.YtbepgbkbpkaodaaDoor
open Go.RowKit

/-- is a sign next -/
def signB (rs : List Int) (p : Nat) (ch : Int) : Bool := rs[skipB rs p]? == some ch
def signP (rs : List Int) (p : Nat) (ch : Int) : Nat := if signB rs p ch then skipB rs p + 1 else skipB rs p

set_option maxRecDepth 100000 in
set_option maxHeartbeats 2000000 in
theorem query_sign {w : World} {b c p : Nat} {A : Option Addr} {rs : List Int} (ch : Int) (h : Rd w b A c rs p) : Calls Tryd.prog 25 #[.pointer (some ⟨b, 0, none⟩), .int .i32 ch] w fun e w' => e = .returned (.bool (signB rs p ch)) ∧ Rd w' b A c rs (signP rs p ch) ∧ Mv b w w' := by
  have HR := hid h
  clear h
  refine calls_hide fun R' hR' => ?_
  go_enter Tryd.func25, Tryd.ntmps25
  go_wp2_with fail
  refine (query_blanks HR.out).mono ?_
  rintro e wr ⟨rfl, hQ, hM⟩
  have hSP : signP rs p ch = if signB rs p ch then skipB rs p + 1 else skipB rs p := rfl
  have hSB : signB rs p ch = (rs[skipB rs p]? == some ch) := rfl
  generalize signP rs p ch = sp at *
  generalize signB rs p ch = sb at *
  generalize skipB rs p = q at *
  have HQ := hid hQ
  have HM := hid hM
  have HSP := hid hSP
  have HSB := hid hSB
  clear hQ hM hSP hSB
  clear HR
  have hc := HQ.out.blk
  have hlB := hc.lt
  have z0 := (hc).cell 0
  have z1 := (hc).cell 1
  simp only [List.getElem?_cons_zero, List.getElem?_cons_succ] at z0 z1
  have c0 := fun p : KP wr wr.heap.size => KP.cell hlB z0 p
  have c1 := fun p : KP wr wr.heap.size => KP.cell hlB z1 p
  clear hc
  by_cases hp : q < rs.length
  · have hpI : (q : Int) < (rs.length : Int) := by omega
    have f1 : decide (q < rs.length) = true := decide_eq_true hp
    have hg := List.getElem?_eq_getElem hp
    obtain ⟨b2, o2, c2, hv, hb2, hcc⟩ := HQ.out.sl.get q _ hg
    injection hv with hA h2 h3
    subst hA h3
    generalize rs[q] = r at *
    have c2 := fun p : KP wr wr.heap.size => KP.cell (by omega) hcc p
    by_cases hr : r = ch
    · have f2 : (r == ch) = true := by simp [hr]
      have hsb : sb = true := by rw [HSB.out, hg]; simp [hr]
      have hsp : sp = q + 1 := by rw [HSP.out, hsb]; rfl
      clear hr hg
      subst hsb hsp
      go_wp2_with fail
      refine wp_region_class wr.heap.size (by kernel_rfl) (by kernel_rfl) ?_
      repeat (go_big_quiet_step (fail))
      refine wpQuiet_nil ?_
      rintro _ ⟨⟨wq, hkq⟩, rfl⟩
      have hQ2 := HQ.out.keep hkq
      have hM2 := HM.out.trans (Mv.of_all hkq)
      have hS2 := hQ2.set (q := q + 1) (by omega)
      have hM3 := hM2.trans (Mv.set (.int .i64 ((q + 1 : Nat) : Int)))
      have hl256 := HQ.out.len
      have ec : ((q + 1 : Nat) : Int) = (q : Int) + 1 := by omega
      rw [ec] at hS2 hM3
      clear ec
      have hcc := hQ2.blk
      have hf := hcc.free 1
      have y0 := (hcc).cell 0
      have y1 := (hcc).cell 1
      simp only [List.getElem?_cons_zero, List.getElem?_cons_succ] at y0 y1
      clear c0 c1 c2 hcc
      have HS2 := hid hS2
      have HM3 := hid hM3
      clear hS2 hM3
      go_wp2_with fail
      exact hR'.out _ _ ⟨rfl, HS2.out, HM3.out⟩
    · have f2 : (r == ch) = false := by simp [hr]
      have hsb : sb = false := by rw [HSB.out, hg]; simp [hr]
      have hsp : q = sp := by rw [HSP.out, hsb]; rfl
      clear hr hg
      subst hsb hsp
      go_wp2_with fail
      refine wp_region_class wr.heap.size (by kernel_rfl) (by kernel_rfl) ?_
      repeat (go_big_quiet_step (fail))
      refine wpQuiet_nil ?_
      rintro _ ⟨⟨wq, hkq⟩, rfl⟩
      go_wp2_with fail
      exact hR'.out _ _ ⟨rfl, HQ.out.keep hkq, HM.out.trans (Mv.of_all hkq)⟩
  · have hpI : ¬ (q : Int) < (rs.length : Int) := by omega
    have f1 : decide (q < rs.length) = false := decide_eq_false hp
    have hsb : sb = false := by rw [HSB.out, List.getElem?_eq_none (by omega)]; rfl
    have hsp : q = sp := by rw [HSP.out, hsb]; rfl
    subst hsb hsp
    go_wp2_with fail
    refine wp_region_class wr.heap.size (by kernel_rfl) (by kernel_rfl) ?_
    repeat (go_big_quiet_step (fail))
    refine wpQuiet_nil ?_
    rintro _ ⟨⟨wq, hkq⟩, rfl⟩
    go_wp2_with fail
    exact hR'.out _ _ ⟨rfl, HQ.out.keep hkq, HM.out.trans (Mv.of_all hkq)⟩
end Go.Proofs.YtbepgbkbpkaodaaDoor
