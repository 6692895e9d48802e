/- Layer 17 (query): the reader: begins, deeper. -/
import Derived.Test.YtbepgbkbpkaodaaDoorQryD
namespace Go.Proofs.YtbepgbkbpkaodaaDoor
open Go.RowKit

/-- may a further part stand here -/
def beginB (rs : List Int) (q : Nat) : Bool := decide (q < rs.length) && (runeAt rs q == 34 || runeAt rs q == 40 || runeAt rs q == 33 || isW (runeAt rs q))

set_option maxRecDepth 100000 in
set_option maxHeartbeats 2000000 in
theorem query_begins {w : World} {b c p : Nat} {A : Option Addr} {rs : List Int} (h : Rd w b A c rs p) : Calls Tryd.prog 52 #[.pointer (some ⟨b, 0, none⟩)] w fun e w' => e = .returned (.bool (beginB rs (skipB rs p))) ∧ Rd w' b A c rs (skipB rs p) ∧ Mv b w w' := by
  have HR := hid h
  clear h
  refine calls_hide fun R' hR' => ?_
  go_enter Tryd.func52, Tryd.ntmps52
  go_wp2_with fail
  refine (query_blanks HR.out).mono ?_
  rintro e w1 ⟨rfl, hQ, hM⟩
  have HQ := hid hQ
  have HM := hid hM
  clear hQ hM
  clear HR
  go_wp2_with fail
  refine (query_peek HQ.out).mono ?_
  rintro e wr ⟨rfl, hk⟩
  have hQ2 := HQ.out.keep hk
  have hM2 := HM.out.trans (Mv.of_all hk)
  clear HQ HM hk
  have hbe : beginB rs (skipB rs p) = (decide (skipB rs p < rs.length) && (runeAt rs (skipB rs p) == 34 || runeAt rs (skipB rs p) == 40 || runeAt rs (skipB rs p) == 33 || isW (runeAt rs (skipB rs p)))) := rfl
  have hrb := runeAt_bnd hQ2.bnd (skipB rs p)
  generalize beginB rs (skipB rs p) = be at *
  generalize skipB rs p = q at *
  generalize runeAt rs q = r at *
  have HQ := hid hQ2
  have HM := hid hM2
  clear hQ2 hM2
  have hc := HQ.out.blk
  have hlB := hc.lt
  have z0 := (hc).cell 0
  have z1 := (hc).cell 1
  simp only [List.getElem?_cons_zero, List.getElem?_cons_succ] at z0 z1
  have c0 := fun p : KP wr wr.heap.size => KP.cell hlB z0 p
  have c1 := fun p : KP wr wr.heap.size => KP.cell hlB z1 p
  clear hc
  have hMq : ∀ p : KP wr wr.heap.size, Calls Tryd.prog 54 #[.int .i32 r] p.w fun e w' => e = .returned (.int .i64 (classM r)) ∧ ∃ q : KP wr wr.heap.size, w' = q.w :=
    fun p => p.calls (Nat.le_refl _) (fold_class r (by omega) p.w (HQ.out.tab.keep p.k))
  have hWr : isW r = !(classM r == 0) := rfl
  rw [hWr] at hbe
  clear hWr
  generalize classM r = k at *
  have HMq := hid hMq
  clear hMq
  by_cases hp : q < rs.length
  · have hpI : (q : Int) < (rs.length : Int) := by omega
    have f1 : decide (q < rs.length) = true := decide_eq_true hp
    rw [f1, Bool.true_and] at hbe
    by_cases g1 : r = 34
    · have h1 : (r == 34) = true := by simp [g1]
      rw [h1, Bool.true_or, Bool.true_or, Bool.true_or] at hbe
      clear g1
      have Hbe := hid hbe
      clear hbe
      go_wp2_with fail
      refine wp_region_class wr.heap.size (by kernel_rfl) (by kernel_rfl) ?_
      repeat (go_big_quiet_step ((exact HMq.out _)))
      refine wpQuiet_nil ?_
      rintro _ ⟨⟨wq, hkq⟩, rfl⟩
      go_wp2_with fail
      exact hR'.out _ _ ⟨by rw [Hbe.out]; rfl, HQ.out.keep hkq, HM.out.trans (Mv.of_all hkq)⟩
    have h1 : (r == 34) = false := by simpa using g1
    rw [h1, Bool.false_or] at hbe
    clear g1
    by_cases g2 : r = 40
    · have h2 : (r == 40) = true := by simp [g2]
      rw [h2, Bool.true_or, Bool.true_or] at hbe
      clear g2
      have Hbe := hid hbe
      clear hbe
      go_wp2_with fail
      refine wp_region_class wr.heap.size (by kernel_rfl) (by kernel_rfl) ?_
      repeat (go_big_quiet_step ((exact HMq.out _)))
      refine wpQuiet_nil ?_
      rintro _ ⟨⟨wq, hkq⟩, rfl⟩
      go_wp2_with fail
      exact hR'.out _ _ ⟨by rw [Hbe.out]; rfl, HQ.out.keep hkq, HM.out.trans (Mv.of_all hkq)⟩
    have h2 : (r == 40) = false := by simpa using g2
    rw [h2, Bool.false_or] at hbe
    clear g2
    by_cases g3 : r = 33
    · have h3 : (r == 33) = true := by simp [g3]
      rw [h3, Bool.true_or] at hbe
      clear g3
      have Hbe := hid hbe
      clear hbe
      go_wp2_with fail
      refine wp_region_class wr.heap.size (by kernel_rfl) (by kernel_rfl) ?_
      repeat (go_big_quiet_step ((exact HMq.out _)))
      refine wpQuiet_nil ?_
      rintro _ ⟨⟨wq, hkq⟩, rfl⟩
      go_wp2_with fail
      exact hR'.out _ _ ⟨by rw [Hbe.out]; rfl, HQ.out.keep hkq, HM.out.trans (Mv.of_all hkq)⟩
    have h3 : (r == 33) = false := by simpa using g3
    rw [h3, Bool.false_or] at hbe
    clear g3
    have hkn : (k != 0) = !(k == 0) := rfl
    have Hbe := hid hbe
    have Hkn := hid hkn
    clear hbe hkn
    go_wp2_with fail
    refine wp_region_class wr.heap.size (by kernel_rfl) (by kernel_rfl) ?_
    repeat (go_big_quiet_step ((exact HMq.out _)))
    refine wpQuiet_nil ?_
    rintro _ ⟨⟨wq, hkq⟩, rfl⟩
    go_wp2_with fail
    exact hR'.out _ _ ⟨by rw [Hbe.out]; first | rfl | simp, HQ.out.keep hkq, HM.out.trans (Mv.of_all hkq)⟩
  · have hpI : ¬ (q : Int) < (rs.length : Int) := by omega
    have f1 : decide (q < rs.length) = false := decide_eq_false hp
    rw [f1, Bool.false_and] at hbe
    have Hbe := hid hbe
    clear hbe
    go_wp2_with fail
    refine wp_region_class wr.heap.size (by kernel_rfl) (by kernel_rfl) ?_
    repeat (go_big_quiet_step ((exact HMq.out _)))
    refine wpQuiet_nil ?_
    rintro _ ⟨⟨wq, hkq⟩, rfl⟩
    go_wp2_with fail
    exact hR'.out _ _ ⟨by rw [Hbe.out]; rfl, HQ.out.keep hkq, HM.out.trans (Mv.of_all hkq)⟩
end Go.Proofs.YtbepgbkbpkaodaaDoor

/- Layer 17 (query): deeper; several. -/
namespace Go.Proofs.YtbepgbkbpkaodaaDoor
open Go.RowKit

/-- an error that is thrown -/
def thrown (n : Int) : Ending := .panicked [{ v := .iface 29 (.int .i64 n), recovered := false }]
theorem post_thrown {P : Program} {fn : Func} {R : Ending → World → Prop} {t : Array Value} {ch : List PanicEntry} {w : World} (h : R (.panicked ch) w) : bodyPost P fn R (Exit.panic ch) { tmps := t, defers := [] } w := by
  simp only [bodyPost]
  exact ⟨trivial, h⟩
theorem query_deeper (d : Nat) (hd : d ≤ 8) (w : World) : Calls Tryd.prog 60 #[.int .i64 d] w fun e w' => e = (if d = 8 then thrown 9 else .returned (.int .i64 ((d + 1 : Nat) : Int))) ∧ w = w' := by
  refine calls_hide fun R' hR' => ?_
  go_enter Tryd.func60, Tryd.ntmps60
  by_cases h8 : d = 8
  · subst h8
    go_wp2_with fail
    exact post_thrown (hR'.out _ _ ⟨by first | rfl | (simp; rfl), rfl⟩)
  · have hdI : ¬ 8 ≤ (d : Int) := by omega
    go_wp2_with fail
    exact hR'.out _ _ ⟨by rw [if_neg h8]; rfl, rfl⟩
end Go.Proofs.YtbepgbkbpkaodaaDoor

/- Layer 17 (query): several. -/
namespace Go.Proofs.YtbepgbkbpkaodaaDoor
open Go.RowKit

set_option maxRecDepth 100000 in
set_option maxHeartbeats 1000000 in
theorem query_several (kind : Int) (g cp n : Nat) (k f : Int) (A1 A2 : Option Addr) (n1 c1 n2 c2 : Nat) (w : World) (hn : 0 < n) (hg : g < w.heap.size) (hr : w.rangeAt g 0 [.int .i64 k, .int .u8 f, .slice A1 n1 c1, .slice A2 n2 c2]) : Calls Tryd.prog 40 #[.int .i64 kind, .slice (some ⟨g, 0, none⟩) n cp] w fun e w' => e = .returned (.agg (if n = 1 then #[.int .i64 k, .int .u8 f, .slice A1 n1 c1, .slice A2 n2 c2] else #[.int .i64 kind, .int .u8 0, .slice none 0 0, .slice (some ⟨g, 0, none⟩) n cp])) ∧ Keeps (· < w.heap.size) w w' := by
  have x0 := hr 0 _ rfl
  have x1 := hr 1 _ rfl
  have x2 := hr 2 _ rfl
  have x3 := hr 3 _ rfl
  simp only [Nat.zero_add] at x0 x1 x2 x3
  clear hr
  refine calls_hide fun R' hR' => ?_
  go_enter Tryd.func40, Tryd.ntmps40
  by_cases h1 : n = 1
  · subst h1
    go_wp2_with fail
    refine bodyPost_ret (results_cell_row rfl _ _ w.heap.size 26 _ _ _ rfl (heap_alloc_new w _) Tryd.underlying26 rfl (by kernel_rfl)) rfl ?_
    refine hR'.out _ _ ⟨?_, ?_⟩
    · simp
    · exact (Keeps.refl _ _).alloc (fun b hb => hb) _
  · have h1b : ((n : Int) == 1) = false := by simp; omega
    go_wp2_with fail
    refine bodyPost_ret (results_cell_row rfl _ _ w.heap.size 26 _ _ _ rfl (heap_alloc_new w _) Tryd.underlying26 rfl (by kernel_rfl)) rfl ?_
    refine hR'.out _ _ ⟨?_, ?_⟩
    · simp [h1]
    · exact (Keeps.refl _ _).alloc (fun b hb => hb) _
end Go.Proofs.YtbepgbkbpkaodaaDoor

/- Layer 17 (query): finished. -/
namespace Go.Proofs.YtbepgbkbpkaodaaDoor
open Go.RowKit

set_option maxRecDepth 100000 in
set_option maxHeartbeats 1000000 in
theorem query_finished (k f : Int) (A1 A2 : Option Addr) (n1 c1 n2 c2 : Nat) (li o : Int) (w : World) : Calls Tryd.prog 28 #[.agg #[.int .i64 k, .int .u8 f, .slice A1 n1 c1, .slice A2 n2 c2, .int .i64 li, .int .i64 o]] w fun e w' => e = .returned (.agg #[.int .i64 k, .int .u8 f, .slice A1 n1 c1, .slice A2 n2 c2, .int .i64 (if li < 0 then 10 else li), .int .i64 (max o 0)]) ∧ Keeps (· < w.heap.size) w w' := by
  refine calls_hide fun R' hR' => ?_
  go_enter Tryd.func28, Tryd.ntmps28
  by_cases h1 : li < 0
  all_goals go_wp2_with fail
  all_goals refine bodyPost_ret (results_cell_row rfl _ _ (w.heap.size + 1) 28 _ _ _ rfl (heap_alloc2_new w _ _) Tryd.underlying28 rfl (by kernel_rfl)) rfl ?_
  all_goals refine hR'.out _ _ ⟨?_, ((Keeps.refl _ _).alloc (fun b hb => hb) _).alloc (fun b hb => by simp; omega) _⟩
  all_goals first | (rw [if_pos h1]) | (rw [if_neg (by omega)])
  all_goals (congr; omega)
end Go.Proofs.YtbepgbkbpkaodaaDoor

/- Layer 17 (query): order. -/
namespace Go.Proofs.YtbepgbkbpkaodaaDoor
open Go.RowKit

/-- the word behind blanks -/
def nextW (rs : List Int) (p : Nat) : ByteArray := textS ((rs.drop (skipB rs p)).takeWhile isW)
def orderP (t : ByteArray) : Option Int := if (t.toList == [110, 101, 119]) = true then some 1 else if (t.toList == [114, 97, 110, 107]) = true then some 0 else none

set_option maxRecDepth 100000 in
set_option maxHeartbeats 1000000 in
theorem query_order {w : World} {b c p : Nat} {A : Option Addr} {rs : List Int} (h : Rd w b A c rs p) : Calls Tryd.prog 27 #[.pointer (some ⟨b, 0, none⟩)] w fun e w' => e = (match orderP (nextW rs p) with | some k => .returned (.int .i64 k) | none => thrown 8) ∧ Rd w' b A c rs (wordE rs (skipB rs p)) ∧ Mv b w w' := by
  have HR := hid h
  clear h
  refine calls_hide fun R' hR' => ?_
  go_enter Tryd.func27, Tryd.ntmps27
  go_wp2_with fail
  refine (query_blanks HR.out).mono ?_
  rintro e w1 ⟨rfl, hQ, hM⟩
  have HQ := hid hQ
  have HM := hid hM
  clear hQ hM
  clear HR
  go_wp2_with fail
  refine (query_word HQ.out).mono ?_
  rintro e w2 ⟨rfl, hQ2, hM2⟩
  have hM3 := HM.out.trans hM2
  have hnw : nextW rs p = textS ((rs.drop (skipB rs p)).takeWhile isW) := rfl
  rw [← hnw]
  clear hnw HQ HM hM2
  generalize nextW rs p = t at *
  have HQ2 := hid hQ2
  have HM3 := hid hM3
  clear hQ2 hM3
  by_cases g1 : (t.toList == [110, 101, 119]) = true
  · go_wp2_with fail
    exact hR'.out _ _ ⟨by unfold orderP; rw [if_pos g1]; rfl, HQ2.out, HM3.out⟩
  have g1f : (t.toList == [110, 101, 119]) = false := by simpa using g1
  by_cases g2 : (t.toList == [114, 97, 110, 107]) = true
  · have ho : orderP t = some 0 := by unfold orderP; rw [if_neg g1, if_pos g2]
    clear g1
    have HO := hid ho
    clear ho
    go_wp2_with fail
    exact hR'.out _ _ ⟨by rw [HO.out]; rfl, HQ2.out, HM3.out⟩
  have g2f : (t.toList == [114, 97, 110, 107]) = false := by simpa using g2
  have ho : orderP t = none := by unfold orderP; rw [if_neg g1, if_neg g2]
  clear g1 g2
  have HO := hid ho
  clear ho
  go_wp2_with fail
  exact post_thrown (hR'.out _ _ ⟨by rw [HO.out]; rfl, HQ2.out, HM3.out⟩)
end Go.Proofs.YtbepgbkbpkaodaaDoor
