/- Layer 17 (query): the reader: begins, deeper. -/
import Derived.Test.YtbepgbkbpkaodaaDoorQryD
namespace Go.Proofs.YtbepgbkbpkaodaaDoor
open Go.RowKit

/-- may a further part stand here -/
def beginB (rs : List Int) (q : Nat) : Bool := decide (q < rs.length) && (runeAt rs q == 34 || runeAt rs q == 40 || runeAt rs q == 33 || isW (runeAt rs q))

set_option maxRecDepth 100000 in
set_option maxHeartbeats 2000000 in
theorem query_begins {w : World} {b c p : Nat} {A : Option Addr} {rs : List Int} (h : Rd w b A c rs p) : Calls Tryd.prog 52 #[.pointer (some ⟨b, 0, none⟩)] w fun e w' => e = .returned (.bool (beginB rs (skipB rs p))) ∧ Rd w' b A c rs (skipB rs p) ∧ Mv b w w' := by
  have HR := hid h
  clear h
  refine calls_hide fun R' hR' => ?_
  go_enter Tryd.func52, Tryd.ntmps52
  go_wp2_with fail
  refine (query_blanks HR.out).mono ?_
  rintro e w1 ⟨rfl, hQ, hM⟩
  have HQ := hid hQ
  have HM := hid hM
  clear hQ hM
  clear HR
  go_wp2_with fail
  refine (query_peek HQ.out).mono ?_
  rintro e wr ⟨rfl, hk⟩
  have hQ2 := HQ.out.keep hk
  have hM2 := HM.out.trans (Mv.of_all hk)
  clear HQ HM hk
  have hbe : beginB rs (skipB rs p) = (decide (skipB rs p < rs.length) && (runeAt rs (skipB rs p) == 34 || runeAt rs (skipB rs p) == 40 || runeAt rs (skipB rs p) == 33 || isW (runeAt rs (skipB rs p)))) := rfl
  have hrb := runeAt_bnd hQ2.bnd (skipB rs p)
  generalize beginB rs (skipB rs p) = be at *
  generalize skipB rs p = q at *
  generalize runeAt rs q = r at *
  have HQ := hid hQ2
  have HM := hid hM2
  clear hQ2 hM2
  have hc := HQ.out.blk
  have hlB := hc.lt
  have z0 := (hc).cell 0
  have z1 := (hc).cell 1
  simp only [List.getElem?_cons_zero, List.getElem?_cons_succ] at z0 z1
  have c0 := fun p : KP wr wr.heap.size => KP.cell hlB z0 p
  have c1 := fun p : KP wr wr.heap.size => KP.cell hlB z1 p
  clear hc
  have hMq : ∀ p : KP wr wr.heap.size, Calls Tryd.prog 54 #[.int .i32 r] p.w fun e w' => e = .returned (.int .i64 (classM r)) ∧ ∃ q : KP wr wr.heap.size, w' = q.w :=
    fun p => p.calls (Nat.le_refl _) (fold_class r (by omega) p.w (HQ.out.tab.keep p.k))
  have hWr : isW r = !(classM r == 0) := rfl
  rw [hWr] at hbe
  clear hWr
  generalize classM r = k at *
  have HMq := hid hMq
  clear hMq
  by_cases hp : q < rs.length
  · have hpI : (q : Int) < (rs.length : Int) := by omega
    have f1 : decide (q < rs.length) = true := decide_eq_true hp
    rw [f1, Bool.true_and] at hbe
    by_cases g1 : r = 34
    · have h1 : (r == 34) = true := by simp [g1]
      rw [h1, Bool.true_or, Bool.true_or, Bool.true_or] at hbe
      clear g1
      have Hbe := hid hbe
      clear hbe
      go_wp2_with fail
      refine wp_region_class wr.heap.size (by kernel_rfl) (by kernel_rfl) ?_
      repeat (go_big_quiet_step ((exact HMq.out _)))
      refine wpQuiet_nil ?_
      rintro _ ⟨⟨wq, hkq⟩, rfl⟩
      go_wp2_with fail
      exact hR'.out _ _ ⟨by rw [Hbe.out]; rfl, HQ.out.keep hkq, HM.out.trans (Mv.of_all hkq)⟩
    have h1 : (r == 34) = false := by simpa using g1
    rw [h1, Bool.false_or] at hbe
    clear g1
    by_cases g2 : r = 40
    · have h2 : (r == 40) = true := by simp [g2]
      rw [h2, Bool.true_or, Bool.true_or] at hbe
      clear g2
      have Hbe := hid hbe
      clear hbe
      go_wp2_with fail
      refine wp_region_class wr.heap.size (by kernel_rfl) (by kernel_rfl) ?_
      repeat (go_big_quiet_step ((exact HMq.out _)))
      refine wpQuiet_nil ?_
      rintro _ ⟨⟨wq, hkq⟩, rfl⟩
      go_wp2_with fail
      exact hR'.out _ _ ⟨by rw [Hbe.out]; rfl, HQ.out.keep hkq, HM.out.trans (Mv.of_all hkq)⟩
    have h2 : (r == 40) = false := by simpa using g2
    rw [h2, Bool.false_or] at hbe
    clear g2
    by_cases g3 : r = 33
    · have h3 : (r == 33) = true := by simp [g3]
      rw [h3, Bool.true_or] at hbe
      clear g3
      have Hbe := hid hbe
      clear hbe
      go_wp2_with fail
      refine wp_region_class wr.heap.size (by kernel_rfl) (by kernel_rfl) ?_
      repeat (go_big_quiet_step ((exact HMq.out _)))
      refine wpQuiet_nil ?_
      rintro _ ⟨⟨wq, hkq⟩, rfl⟩
      go_wp2_with fail
      exact hR'.out _ _ ⟨by rw [Hbe.out]; rfl, HQ.out.keep hkq, HM.out.trans (Mv.of_all hkq)⟩
    have h3 : (r == 33) = false := by simpa using g3
    rw [h3, Bool.false_or] at hbe
    clear g3
    have hkn : (k != 0) = !(k == 0) := rfl
    have Hbe := hid hbe
    have Hkn := hid hkn
    clear hbe hkn
    go_wp2_with fail
    refine wp_region_class wr.heap.size (by kernel_rfl) (by kernel_rfl) ?_
    repeat (go_big_quiet_step ((exact HMq.out _)))
    refine wpQuiet_nil ?_
    rintro _ ⟨⟨wq, hkq⟩, rfl⟩
    go_wp2_with fail
    exact hR'.out _ _ ⟨by rw [Hbe.out]; first | rfl | simp, HQ.out.keep hkq, HM.out.trans (Mv.of_all hkq)⟩
  · have hpI : ¬ (q : Int) < (rs.length : Int) := by omega
    have f1 : decide (q < rs.length) = false := decide_eq_false hp
    rw [f1, Bool.false_and] at hbe
    have Hbe := hid hbe
    clear hbe
    go_wp2_with fail
    refine wp_region_class wr.heap.size (by kernel_rfl) (by kernel_rfl) ?_
    repeat (go_big_quiet_step ((exact HMq.out _)))
    refine wpQuiet_nil ?_
    rintro _ ⟨⟨wq, hkq⟩, rfl⟩
    go_wp2_with fail
    exact hR'.out _ _ ⟨by rw [Hbe.out]; rfl, HQ.out.keep hkq, HM.out.trans (Mv.of_all hkq)⟩
end Go.Proofs.YtbepgbkbpkaodaaDoor
