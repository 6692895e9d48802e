/- Layer 17 (query): the reader: blanks, sign. -/
import Derived.Test.YtbepgbkbpkaodaaDoorJQryA
namespace Go.Proofs.YtbepgbkbpkaodaaDoor
open Go.RowKit

/-- what a reader's step keeps -/
abbrev Mv (b : Nat) (w w' : World) : Prop := Keeps (fun x => x < w.heap.size ∧ x ≠ b) w w'
theorem Mv.of_all {b : Nat} {w w' : World} (k : Keeps (· < w.heap.size) w w') : Mv b w w' := k.mono fun _ h => h.1
theorem Mv.trans {b : Nat} {w w1 w2 : World} (h : Mv b w w1) (k : Mv b w1 w2) : Mv b w w2 := Keeps.trans h (k.mono fun x hx => ⟨Nat.lt_of_lt_of_le hx.1 h.size, hx.2⟩)
theorem Mv.set {b : Nat} {w : World} (v : Value) : Mv b w (w.setCell ⟨b, 1, none⟩ v) := (Keeps.refl _ _).setCell (p := ⟨b, 1, none⟩) (fun h => h.2 rfl) _
/-- where the reader stands -/
def posOf (b : Nat) (w : World) : Nat := match w.cell? ⟨b, 1, none⟩ with | some (.int _ p) => p.toNat | _ => 0
theorem Rd.pos {w : World} {b c p : Nat} {A : Option Addr} {rs : List Int} (h : Rd w b A c rs p) : posOf b w = p := by
  unfold posOf
  rw [h.blk.cell 1]; simp
def isBl (r : Int) : Bool := r == 32 || r == 9 || r == 10 || r == 13
theorem isBl_k : ∀ n : Fin 128, isBl ((n.val : Nat) : Int) = decide (0 ≤ blankI ((n.val : Nat) : Int)) := by decide
theorem isBl_iff (r : Int) (h0 : 0 ≤ r) : isBl r = (decide (0 ≤ blankI (r % 256)) && decide (r < 128)) := by
  by_cases h : r < 128
  · have := isBl_k ⟨r.toNat, by omega⟩
    have e : ((r.toNat : Nat) : Int) = r := by omega
    simp only [e] at this
    rw [show r % 256 = r by omega, this]; simp [h]
  · have : isBl r = false := by unfold isBl; simp; omega
    rw [this]; simp [h]
/-- behind blanks -/
def skipB (rs : List Int) (p : Nat) : Nat := p + ((rs.drop p).takeWhile isBl).length
theorem skipB_step {rs : List Int} {p : Nat} {r : Int} (hr : rs[p]? = some r) (h : isBl r = true) : skipB rs p = skipB rs (p + 1) := by
  obtain ⟨h9, h8⟩ := List.getElem?_eq_some_iff.1 hr
  unfold skipB
  rw [List.drop_eq_getElem_cons h9, h8, List.takeWhile_cons_of_pos h, List.length_cons]; omega
theorem skipB_stop {rs : List Int} {p : Nat} {r : Int} (hr : rs[p]? = some r) (h : isBl r = false) : skipB rs p = p := by
  obtain ⟨h9, h8⟩ := List.getElem?_eq_some_iff.1 hr
  unfold skipB
  rw [List.drop_eq_getElem_cons h9, h8, List.takeWhile_cons_of_neg (by simp [h])]; rfl
theorem skipB_end {rs : List Int} {p : Nat} (h : ¬ p < rs.length) : skipB rs p = p := by
  unfold skipB
  rw [List.drop_eq_nil_of_le (by omega)]; rfl
theorem skipB_le {rs : List Int} {p : Nat} (h : p ≤ rs.length) : skipB rs p ≤ rs.length := by
  unfold skipB
  have := (List.takeWhile_sublist isBl (l := rs.drop p)).length_le
  rw [List.length_drop] at this; omega
theorem skipB_ge (rs : List Int) (p : Nat) : p ≤ skipB rs p := Nat.le_add_right _ _

set_option maxRecDepth 100000 in
set_option maxHeartbeats 2000000 in
theorem query_blanks {w : World} {b c p : Nat} {A : Option Addr} {rs : List Int} (h : Rd w b A c rs p) : Calls Tryd.prog 41 #[.pointer (some ⟨b, 0, none⟩)] w fun e w' => e = .returned (.tuple #[]) ∧ Rd w' b A c rs (skipB rs p) ∧ Mv b w w' := by
  have HR := hid h
  clear h
  refine calls_hide fun R' hR' => ?_
  go_enter Tryd.func41, Tryd.ntmps41
  go_wp2_with fail
  go_loopw [] (fun wr => ∃ q : Nat, Hid (Rd wr b A c rs q) ∧ Hid (Mv b w wr) ∧ Hid (skipB rs q = skipB rs p)) (fun wr => rs.length - posOf b wr)
  case atStart => exact ⟨p, HR, hid (Keeps.refl _ _), hid rfl⟩
  case round =>
    obtain ⟨q, HQ, HM, HE⟩ := hrel
    have hc := HQ.out.blk
    have hlB := hc.lt
    have z0 := (hc).cell 0
    have z1 := (hc).cell 1
    simp only [List.getElem?_cons_zero, List.getElem?_cons_succ] at z0 z1
    have c0 := fun p : KP wr wr.heap.size => KP.cell hlB z0 p
    have c1 := fun p : KP wr wr.heap.size => KP.cell hlB z1 p
    clear hc
    by_cases hp : q < rs.length
    · have hpI : (q : Int) < (rs.length : Int) := by omega
      have f1 : decide (q < rs.length) = true := decide_eq_true hp
      have hg := List.getElem?_eq_getElem hp
      obtain ⟨b2, o2, c2, hv, hb2, hcc⟩ := HQ.out.sl.get q _ hg
      injection hv with hA h2 h3
      subst hA h3
      have hbd := HQ.out.bnd _ (List.mem_of_getElem? hg)
      generalize rs[q] = r at *
      have c2 := fun p : KP wr wr.heap.size => KP.cell (by omega) hcc p
      have hbl := isBl_iff r hbd.1
      have hHc : ∀ (x k : Int), k = blankI x → Hid (∀ p : KP wr wr.heap.size, Calls Tryd.prog 53 #[.string ⟨#[32, 9, 10, 13]⟩, .int .u8 x] p.w fun e w' => e = .returned (.int .i64 k) ∧ ∃ q : KP wr wr.heap.size, w' = q.w) := by
        rintro x k rfl
        exact hid fun p => (index_blank x p.w).mono fun _ w' ⟨he, hw⟩ => ⟨he, p, hw.symm⟩
      have Hg := hid hg
      clear hg
      by_cases hr1 : r < 128
      · have f3 : decide (r < 128) = true := decide_eq_true hr1
        rw [show r % 256 = r by omega] at hbl
        obtain ⟨k, hk⟩ : ∃ k, k = blankI r := ⟨_, rfl⟩
        have HMq := hHc r k hk
        rw [← hk] at hbl
        clear hk hHc
        by_cases hk0 : 0 ≤ k
        · have f2 : decide (0 ≤ k) = true := decide_eq_true hk0
          have hst : skipB rs q = skipB rs (q + 1) := skipB_step Hg.out (by rw [hbl, f2, f3]; rfl)
          have Hst := hid hst
          clear hst
          clear hbl
          go_upto_region 0 with fail
          refine wp_region_class wr.heap.size (by kernel_rfl) (by kernel_rfl) ?_
          repeat (go_big_quiet_step ((exact HMq.out _)))
          refine wpQuiet_nil ?_
          rintro _ ⟨⟨wq, hkq⟩, rfl⟩
          have hQ2 := HQ.out.keep hkq
          have hM2 := HM.out.trans (Mv.of_all hkq)
          have hS2 := hQ2.set (q := q + 1) (by omega)
          have hM3 := hM2.trans (Mv.set (.int .i64 ((q + 1 : Nat) : Int)))
          have hp2 := hS2.pos
          have hp3 := HQ.out.pos
          have hl256 := HQ.out.len
          have ec : ((q + 1 : Nat) : Int) = (q : Int) + 1 := by omega
          rw [ec] at hS2 hM3 hp2
          clear ec
          have hcc := hQ2.blk
          have hf := hcc.free 1
          have y0 := (hcc).cell 0
          have y1 := (hcc).cell 1
          simp only [List.getElem?_cons_zero, List.getElem?_cons_succ] at y0 y1
          clear c0 c1 c2 hcc
          have HS2 := hid hS2
          have HM3 := hid hM3
          clear hS2 hM3
          go_wp2_with fail
          go_roundw
          case rel => exact ⟨q + 1, HS2, HM3, hid (by rw [← Hst.out]; exact HE.out)⟩
          case measure => rw [hp2, hp3]; omega
        · have f2 : decide (0 ≤ k) = false := decide_eq_false hk0
          have hst : skipB rs q = q := skipB_stop Hg.out (by rw [hbl, f2]; rfl)
          have Hst := hid hst
          clear hst
          clear hbl
          go_upto_region 0 with fail
          refine wp_region_class wr.heap.size (by kernel_rfl) (by kernel_rfl) ?_
          repeat (go_big_quiet_step ((exact HMq.out _)))
          refine wpQuiet_nil ?_
          rintro _ ⟨⟨wq, hkq⟩, rfl⟩
          go_wp2_with fail
          go_end0
          exact hR'.out _ _ ⟨rfl, by rw [← HE.out, Hst.out]; exact HQ.out.keep hkq, HM.out.trans (Mv.of_all hkq)⟩
      · have f3 : decide (r < 128) = false := decide_eq_false hr1
        obtain ⟨k, hk⟩ : ∃ k, k = blankI (r % 256) := ⟨_, rfl⟩
        have HMq := hHc (r % 256) k hk
        have hst : skipB rs q = q := skipB_stop Hg.out (by rw [hbl, f3, Bool.and_false])
        clear hk hHc hbl
        have Hst := hid hst
        clear hst
        by_cases hk0 : 0 ≤ k
        · have f2 : decide (0 ≤ k) = true := decide_eq_true hk0
          go_upto_region 0 with fail
          refine wp_region_class wr.heap.size (by kernel_rfl) (by kernel_rfl) ?_
          repeat (go_big_quiet_step ((exact HMq.out _)))
          refine wpQuiet_nil ?_
          rintro _ ⟨⟨wq, hkq⟩, rfl⟩
          go_wp2_with fail
          go_end0
          exact hR'.out _ _ ⟨rfl, by rw [← HE.out, Hst.out]; exact HQ.out.keep hkq, HM.out.trans (Mv.of_all hkq)⟩
        · have f2 : decide (0 ≤ k) = false := decide_eq_false hk0
          go_upto_region 0 with fail
          refine wp_region_class wr.heap.size (by kernel_rfl) (by kernel_rfl) ?_
          repeat (go_big_quiet_step ((exact HMq.out _)))
          refine wpQuiet_nil ?_
          rintro _ ⟨⟨wq, hkq⟩, rfl⟩
          go_wp2_with fail
          go_end0
          exact hR'.out _ _ ⟨rfl, by rw [← HE.out, Hst.out]; exact HQ.out.keep hkq, HM.out.trans (Mv.of_all hkq)⟩
    · have hpI : ¬ (q : Int) < (rs.length : Int) := by omega
      have f1 : decide (q < rs.length) = false := decide_eq_false hp
      have hst : skipB rs q = q := skipB_end hp
      have Hst := hid hst
      clear hst
      go_upto_region 0 with fail
      refine wp_region_class wr.heap.size (by kernel_rfl) (by kernel_rfl) ?_
      repeat (go_big_quiet_step (fail))
      refine wpQuiet_nil ?_
      rintro _ ⟨⟨wq, hkq⟩, rfl⟩
      go_wp2_with fail
      go_end0
      exact hR'.out _ _ ⟨rfl, by rw [← HE.out, Hst.out]; exact HQ.out.keep hkq, HM.out.trans (Mv.of_all hkq)⟩
end Go.Proofs.YtbepgbkbpkaodaaDoor

/- Layer 17 (query): the reader: sign, word. -/
namespace Go.Proofs.YtbepgbkbpkaodaaDoor
open Go.RowKit

/-- is a sign next -/
def signB (rs : List Int) (p : Nat) (ch : Int) : Bool := rs[skipB rs p]? == some ch
def signP (rs : List Int) (p : Nat) (ch : Int) : Nat := if signB rs p ch then skipB rs p + 1 else skipB rs p

set_option maxRecDepth 100000 in
set_option maxHeartbeats 2000000 in
theorem query_sign {w : World} {b c p : Nat} {A : Option Addr} {rs : List Int} (ch : Int) (h : Rd w b A c rs p) : Calls Tryd.prog 25 #[.pointer (some ⟨b, 0, none⟩), .int .i32 ch] w fun e w' => e = .returned (.bool (signB rs p ch)) ∧ Rd w' b A c rs (signP rs p ch) ∧ Mv b w w' := by
  have HR := hid h
  clear h
  refine calls_hide fun R' hR' => ?_
  go_enter Tryd.func25, Tryd.ntmps25
  go_wp2_with fail
  refine (query_blanks HR.out).mono ?_
  rintro e wr ⟨rfl, hQ, hM⟩
  have hSP : signP rs p ch = if signB rs p ch then skipB rs p + 1 else skipB rs p := rfl
  have hSB : signB rs p ch = (rs[skipB rs p]? == some ch) := rfl
  generalize signP rs p ch = sp at *
  generalize signB rs p ch = sb at *
  generalize skipB rs p = q at *
  have HQ := hid hQ
  have HM := hid hM
  have HSP := hid hSP
  have HSB := hid hSB
  clear hQ hM hSP hSB
  clear HR
  have hc := HQ.out.blk
  have hlB := hc.lt
  have z0 := (hc).cell 0
  have z1 := (hc).cell 1
  simp only [List.getElem?_cons_zero, List.getElem?_cons_succ] at z0 z1
  have c0 := fun p : KP wr wr.heap.size => KP.cell hlB z0 p
  have c1 := fun p : KP wr wr.heap.size => KP.cell hlB z1 p
  clear hc
  by_cases hp : q < rs.length
  · have hpI : (q : Int) < (rs.length : Int) := by omega
    have f1 : decide (q < rs.length) = true := decide_eq_true hp
    have hg := List.getElem?_eq_getElem hp
    obtain ⟨b2, o2, c2, hv, hb2, hcc⟩ := HQ.out.sl.get q _ hg
    injection hv with hA h2 h3
    subst hA h3
    generalize rs[q] = r at *
    have c2 := fun p : KP wr wr.heap.size => KP.cell (by omega) hcc p
    by_cases hr : r = ch
    · have f2 : (r == ch) = true := by simp [hr]
      have hsb : sb = true := by rw [HSB.out, hg]; simp [hr]
      have hsp : sp = q + 1 := by rw [HSP.out, hsb]; rfl
      clear hr hg
      subst hsb hsp
      go_wp2_with fail
      refine wp_region_class wr.heap.size (by kernel_rfl) (by kernel_rfl) ?_
      repeat (go_big_quiet_step (fail))
      refine wpQuiet_nil ?_
      rintro _ ⟨⟨wq, hkq⟩, rfl⟩
      have hQ2 := HQ.out.keep hkq
      have hM2 := HM.out.trans (Mv.of_all hkq)
      have hS2 := hQ2.set (q := q + 1) (by omega)
      have hM3 := hM2.trans (Mv.set (.int .i64 ((q + 1 : Nat) : Int)))
      have hl256 := HQ.out.len
      have ec : ((q + 1 : Nat) : Int) = (q : Int) + 1 := by omega
      rw [ec] at hS2 hM3
      clear ec
      have hcc := hQ2.blk
      have hf := hcc.free 1
      have y0 := (hcc).cell 0
      have y1 := (hcc).cell 1
      simp only [List.getElem?_cons_zero, List.getElem?_cons_succ] at y0 y1
      clear c0 c1 c2 hcc
      have HS2 := hid hS2
      have HM3 := hid hM3
      clear hS2 hM3
      go_wp2_with fail
      exact hR'.out _ _ ⟨rfl, HS2.out, HM3.out⟩
    · have f2 : (r == ch) = false := by simp [hr]
      have hsb : sb = false := by rw [HSB.out, hg]; simp [hr]
      have hsp : q = sp := by rw [HSP.out, hsb]; rfl
      clear hr hg
      subst hsb hsp
      go_wp2_with fail
      refine wp_region_class wr.heap.size (by kernel_rfl) (by kernel_rfl) ?_
      repeat (go_big_quiet_step (fail))
      refine wpQuiet_nil ?_
      rintro _ ⟨⟨wq, hkq⟩, rfl⟩
      go_wp2_with fail
      exact hR'.out _ _ ⟨rfl, HQ.out.keep hkq, HM.out.trans (Mv.of_all hkq)⟩
  · have hpI : ¬ (q : Int) < (rs.length : Int) := by omega
    have f1 : decide (q < rs.length) = false := decide_eq_false hp
    have hsb : sb = false := by rw [HSB.out, List.getElem?_eq_none (by omega)]; rfl
    have hsp : q = sp := by rw [HSP.out, hsb]; rfl
    subst hsb hsp
    go_wp2_with fail
    refine wp_region_class wr.heap.size (by kernel_rfl) (by kernel_rfl) ?_
    repeat (go_big_quiet_step (fail))
    refine wpQuiet_nil ?_
    rintro _ ⟨⟨wq, hkq⟩, rfl⟩
    go_wp2_with fail
    exact hR'.out _ _ ⟨rfl, HQ.out.keep hkq, HM.out.trans (Mv.of_all hkq)⟩
end Go.Proofs.YtbepgbkbpkaodaaDoor
