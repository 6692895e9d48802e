/- Layer 17 (query): the reader: word. -/
import Derived.Test.YtbepgbkbpkaodaaDoorJQryC
namespace Go.Proofs.YtbepgbkbpkaodaaDoor
open Go.RowKit

/-- behind a word -/
def wordE (rs : List Int) (p : Nat) : Nat := p + ((rs.drop p).takeWhile isW).length
theorem wordE_step {rs : List Int} {p : Nat} {r : Int} (hr : rs[p]? = some r) (h : isW r = true) : wordE rs p = wordE rs (p + 1) := by
  obtain ⟨h9, h8⟩ := List.getElem?_eq_some_iff.1 hr
  unfold wordE
  rw [List.drop_eq_getElem_cons h9, h8, List.takeWhile_cons_of_pos h, List.length_cons]; omega
theorem wordE_stop {rs : List Int} {p : Nat} {r : Int} (hr : rs[p]? = some r) (h : isW r = false) : wordE rs p = p := by
  obtain ⟨h9, h8⟩ := List.getElem?_eq_some_iff.1 hr
  unfold wordE
  rw [List.drop_eq_getElem_cons h9, h8, List.takeWhile_cons_of_neg (by simp [h])]; rfl
theorem wordE_end {rs : List Int} {p : Nat} (h : ¬ p < rs.length) : wordE rs p = p := by
  unfold wordE
  rw [List.drop_eq_nil_of_le (by omega)]; rfl
theorem wordE_take (rs : List Int) (p : Nat) : (rs.drop p).take (wordE rs p - p) = (rs.drop p).takeWhile isW := by
  unfold wordE
  rw [Nat.add_sub_cancel_left]
  exact List.prefix_iff_eq_take.1 (List.takeWhile_prefix isW) |>.symm
theorem Rd.cap {w : World} {b c p : Nat} {A : Option Addr} {rs : List Int} (h : Rd w b A c rs p) : rs.length ≤ c ∧ c ≤ maxLen := by
  obtain ⟨A', cap, h1, h2, h3, _⟩ := h.sl
  injection h1 with _ _ hc
  subst hc
  exact ⟨h2, h3⟩
/-- a piece of the runes, as a text -/
theorem Rd.text {w : World} {b c p : Nat} {A : Option Addr} {rs : List Int} (h : Rd w b A c rs p) (i j : Nat) (hij : i ≤ j) (hj : j ≤ rs.length) :
    Calls Tryd.prog 55 #[.slice (A.map fun x => x.add i) (j - i) (c - i)] w fun e w' => e = .returned (.string (textS ((rs.drop i).take (j - i)))) ∧ Keeps (· < w.heap.size) w w' := by
  have hl : ((rs.drop i).take (j - i)).length = j - i := by rw [List.length_take, List.length_drop]; omega
  have hs := h.sl
  have h256 := h.len
  obtain ⟨A', cap, h1, h2, h3, h4, h5⟩ := hs
  injection h1 with ha _ hc
  subst ha hc
  have := utf_text ((rs.drop i).take (j - i)) (by omega) (A.map fun x => x.add i) (c - i) w (· < b) (fun x hx => Nat.lt_trans hx h.blk.lt) (by
    refine ⟨_, _, rfl, by omega, by omega, by simp, fun hn => ?_⟩
    obtain ⟨b', off, e, hb, hc⟩ := h5 (by omega)
    subst e
    refine ⟨b', off + i, by simp [Addr.add_lit], hb, fun k u hu => ?_⟩
    have hk : k < j - i := by have := (List.getElem?_eq_some_iff.1 hu).1; simp at this; omega
    rw [Nat.add_assoc]
    refine hc (i + k) u ?_
    rw [List.getElem?_map, List.getElem?_take_of_lt hk, List.getElem?_drop] at hu
    rw [List.getElem?_map]; exact hu)
  rw [hl] at this
  exact this

set_option maxRecDepth 100000 in
set_option maxHeartbeats 2000000 in
theorem query_word {w : World} {b c p : Nat} {A : Option Addr} {rs : List Int} (h : Rd w b A c rs p) : Calls Tryd.prog 42 #[.pointer (some ⟨b, 0, none⟩)] w fun e w' => e = .returned (.string (textS ((rs.drop p).takeWhile isW))) ∧ Rd w' b A c rs (wordE rs p) ∧ Mv b w w' := by
  have HR := hid h
  have z0 := (h.blk).cell 0
  have z1 := (h.blk).cell 1
  simp only [List.getElem?_cons_zero, List.getElem?_cons_succ] at z0 z1
  clear h
  refine calls_hide fun R' hR' => ?_
  go_enter Tryd.func42, Tryd.ntmps42
  go_wp2_with fail
  clear z0 z1
  go_loopw [] (fun wr => ∃ q : Nat, p ≤ q ∧ Hid (Rd wr b A c rs q) ∧ Hid (Mv b w wr) ∧ Hid (wordE rs q = wordE rs p)) (fun wr => rs.length - posOf b wr)
  case atStart => exact ⟨p, Nat.le_refl _, HR, hid (Keeps.refl _ _), hid rfl⟩
  case round =>
    obtain ⟨q, hpq, HQ, HM, HE⟩ := hrel
    have hc := HQ.out.blk
    have hlB := hc.lt
    have z0 := (hc).cell 0
    have z1 := (hc).cell 1
    simp only [List.getElem?_cons_zero, List.getElem?_cons_succ] at z0 z1
    have c0 := fun p : KP wr wr.heap.size => KP.cell hlB z0 p
    have c1 := fun p : KP wr wr.heap.size => KP.cell hlB z1 p
    clear hc
    by_cases hp : q < rs.length
    · have hpI : (q : Int) < (rs.length : Int) := by omega
      have f1 : decide (q < rs.length) = true := decide_eq_true hp
      have hg := List.getElem?_eq_getElem hp
      obtain ⟨b2, o2, c2, hv, hb2, hcc⟩ := HQ.out.sl.get q _ hg
      injection hv with hA h2 h3
      subst hA h3
      have hbd := HQ.out.bnd _ (List.mem_of_getElem? hg)
      generalize rs[q] = r at *
      have c2 := fun p : KP wr wr.heap.size => KP.cell (by omega) hcc p
      have hMq : ∀ p : KP wr wr.heap.size, Calls Tryd.prog 54 #[.int .i32 r] p.w fun e w' => e = .returned (.int .i64 (classM r)) ∧ ∃ q : KP wr wr.heap.size, w' = q.w :=
        fun p => p.calls (Nat.le_refl _) (fold_class r (by omega) p.w (HQ.out.tab.keep p.k))
      have hWr : isW r = !(classM r == 0) := rfl
      generalize classM r = k at *
      have HMq := hid hMq
      clear hMq
      by_cases hk0 : k = 0
      · have f2 : (k == 0) = true := by simp [hk0]
        have f3 : (k != 0) = false := by simp [hk0]
        have hst : wordE rs q = q := wordE_stop hg (by rw [hWr, f2]; rfl)
        clear hk0 hWr hg
        have Hst := hid hst
        clear hst
        go_upto_region 2 with fail
        refine wp_region_class wr.heap.size (by kernel_rfl) (by kernel_rfl) ?_
        repeat (go_big_quiet_step ((exact HMq.out _)))
        refine wpQuiet_nil ?_
        rintro _ ⟨⟨wq, hkq⟩, rfl⟩
        have hQ2 := HQ.out.keep hkq
        have hM2 := HM.out.trans (Mv.of_all hkq)
        clear c0 c1 c2 HQ
        have HQ2 := hid hQ2
        have HM2 := hid hM2
        clear hQ2 hM2
        go_wp2_with fail
        rcases HQ2.out.form with ⟨hz, _⟩ | ⟨g, hz⟩
        · cases hz
        injection hz with hz
        injection hz with hz1 hz2
        subst hz1 hz2
        have hqe : wordE rs p = q := by rw [← HE.out, Hst.out]
        have hle := HQ2.out.le
        obtain ⟨hlc, hmx⟩ := HQ2.out.cap
        unfold maxLen at hmx
        rename World => W
        have hc := HQ2.out.blk
        have hlB2 := hc.lt
        have x0 := (hc).cell 0
        have x1 := (hc).cell 1
        simp only [List.getElem?_cons_zero, List.getElem?_cons_succ] at x0 x1
        have d0 := fun p : KP W W.heap.size => KP.cell hlB2 x0 p
        have d1 := fun p : KP W W.heap.size => KP.cell hlB2 x1 p
        clear hc
        obtain ⟨tx, htx⟩ : ∃ t, t = textS ((rs.drop p).take (q - p)) := ⟨_, rfl⟩
        have hMt : ∀ pw : KP W W.heap.size, Calls Tryd.prog 55 #[.slice (some ⟨b2, p, none⟩) (q - p) (c - p)] pw.w fun e w' => e = .returned (.string tx) ∧ ∃ q : KP W W.heap.size, w' = q.w := by
          intro pw
          rw [htx]
          have ht := (HQ2.out.keep pw.k).text p q hpq hle
          simp only [Option.map_some, Option.map_none, Addr.add_lit, Nat.zero_add, Nat.sub_self] at ht
          exact pw.calls (Nat.le_refl _) ht
        have htw : tx = textS ((rs.drop p).takeWhile isW) := by rw [htx, ← hqe, wordE_take]
        have Hqe := hid hqe
        have HMt := hid hMt
        have Htw := hid htw
        clear hqe hMt htw
        clear htx
        have hpqc : p ≤ c := by omega
        have hqc : q ≤ c := by omega
        refine wp_region_class W.heap.size (by kernel_rfl) (by kernel_rfl) ?_
        repeat (go_big_quiet_step (exact HMt.out _))
        refine wpQuiet_nil ?_
        rintro _ ⟨⟨wz, hkz⟩, rfl⟩
        go_wp2_with fail
        exact hR'.out _ _ ⟨by first | (rw [← Htw.out]; done) | (rw [← Htw.out]; rfl), by rw [Hqe.out]; exact HQ2.out.keep hkz, HM2.out.trans (Mv.of_all hkz)⟩
      · have f2 : (k == 0) = false := by simpa using hk0
        have f3 : (k != 0) = true := by simpa using hk0
        have hst : wordE rs q = wordE rs (q + 1) := wordE_step hg (by rw [hWr, f2]; rfl)
        clear hk0 hWr hg
        have Hst := hid hst
        clear hst
        go_upto_region 2 with fail
        refine wp_region_class wr.heap.size (by kernel_rfl) (by kernel_rfl) ?_
        repeat (go_big_quiet_step ((exact HMq.out _)))
        refine wpQuiet_nil ?_
        rintro _ ⟨⟨wq, hkq⟩, rfl⟩
        have hQ2 := HQ.out.keep hkq
        have hM2 := HM.out.trans (Mv.of_all hkq)
        have hS2 := hQ2.set (q := q + 1) (by omega)
        have hM3 := hM2.trans (Mv.set (.int .i64 ((q + 1 : Nat) : Int)))
        have hp2 := hS2.pos
        have hp3 := HQ.out.pos
        have hl256 := HQ.out.len
        have ec : ((q + 1 : Nat) : Int) = (q : Int) + 1 := by omega
        rw [ec] at hS2 hM3 hp2
        clear ec
        have hcc := hQ2.blk
        have hf := hcc.free 1
        have y0 := (hcc).cell 0
        have y1 := (hcc).cell 1
        simp only [List.getElem?_cons_zero, List.getElem?_cons_succ] at y0 y1
        clear c0 c1 c2 hcc
        have HS2 := hid hS2
        have HM3 := hid hM3
        clear hS2 hM3
        go_wp2_with fail
        go_roundw
        case rel => exact ⟨q + 1, by omega, HS2, HM3, hid (by rw [← Hst.out]; exact HE.out)⟩
        case measure => rw [hp2, hp3]; omega
    · have hpI : ¬ (q : Int) < (rs.length : Int) := by omega
      have f1 : decide (q < rs.length) = false := decide_eq_false hp
      have hst : wordE rs q = q := wordE_end hp
      have Hst := hid hst
      clear hst
      go_upto_region 2 with fail
      refine wp_region_class wr.heap.size (by kernel_rfl) (by kernel_rfl) ?_
      repeat (go_big_quiet_step (fail))
      refine wpQuiet_nil ?_
      rintro _ ⟨⟨wq, hkq⟩, rfl⟩
      have hQ2 := HQ.out.keep hkq
      have hM2 := HM.out.trans (Mv.of_all hkq)
      clear c0 c1 HQ
      have HQ2 := hid hQ2
      have HM2 := hid hM2
      clear hQ2 hM2
      go_wp2_with fail
      rcases HQ2.out.form with ⟨rfl, rfl, hz⟩ | ⟨g, rfl⟩
      · have hle0 := HQ2.out.le
        obtain rfl : q = 0 := by omega
        obtain rfl : p = 0 := by omega
        have hqe : wordE rs 0 = 0 := by rw [← HE.out, Hst.out]
        have hle := HQ2.out.le
        obtain ⟨hlc, hmx⟩ := HQ2.out.cap
        unfold maxLen at hmx
        rename World => W
        have hc := HQ2.out.blk
        have hlB2 := hc.lt
        have x0 := (hc).cell 0
        have x1 := (hc).cell 1
        simp only [List.getElem?_cons_zero, List.getElem?_cons_succ] at x0 x1
        have d0 := fun p : KP W W.heap.size => KP.cell hlB2 x0 p
        have d1 := fun p : KP W W.heap.size => KP.cell hlB2 x1 p
        clear hc
        obtain ⟨tx, htx⟩ : ∃ t, t = textS ((rs.drop 0).take (0 - 0)) := ⟨_, rfl⟩
        have hMt : ∀ pw : KP W W.heap.size, Calls Tryd.prog 55 #[.slice none 0 0] pw.w fun e w' => e = .returned (.string tx) ∧ ∃ q : KP W W.heap.size, w' = q.w := by
          intro pw
          rw [htx]
          have ht := (HQ2.out.keep pw.k).text 0 0 hpq hle
          simp only [Option.map_some, Option.map_none, Addr.add_lit, Nat.zero_add, Nat.sub_self] at ht
          exact pw.calls (Nat.le_refl _) ht
        have htw : tx = textS ((rs.drop 0).takeWhile isW) := by rw [htx, ← wordE_take, hqe]
        have Hqe := hid hqe
        have HMt := hid hMt
        have Htw := hid htw
        clear hqe hMt htw
        clear htx
        refine wp_region_class W.heap.size (by kernel_rfl) (by kernel_rfl) ?_
        repeat (go_big_quiet_step (exact HMt.out _))
        refine wpQuiet_nil ?_
        rintro _ ⟨⟨wz, hkz⟩, rfl⟩
        go_wp2_with fail
        exact hR'.out _ _ ⟨by first | (rw [← Htw.out]; done) | (rw [← Htw.out]; rfl), by rw [Hqe.out]; exact HQ2.out.keep hkz, HM2.out.trans (Mv.of_all hkz)⟩
      · have hle0 := HQ2.out.le
        obtain ⟨hlc0, hmx0⟩ := HQ2.out.cap
        by_cases hcp : c = p
        · have hq9 : q = c := by omega
          subst hq9
          subst hcp
          clear hpq hpI f1 hp hle0 hlc0 hmx0
          rename World => W
          have hc := HQ2.out.blk
          have hlB2 := hc.lt
          have x0 := (hc).cell 0
          have x1 := (hc).cell 1
          simp only [List.getElem?_cons_zero, List.getElem?_cons_succ] at x0 x1
          have d0 := fun p : KP W W.heap.size => KP.cell hlB2 x0 p
          have d1 := fun p : KP W W.heap.size => KP.cell hlB2 x1 p
          clear hc
          obtain ⟨tx, htx⟩ : ∃ t, t = textS [] := ⟨_, rfl⟩
          have hMt : ∀ pw : KP W W.heap.size, Calls Tryd.prog 55 #[.slice (some ⟨g, 0, none⟩) 0 0] pw.w fun e w' => e = .returned (.string tx) ∧ ∃ q : KP W W.heap.size, w' = q.w := by
            intro pw
            rw [htx]
            exact pw.calls (Nat.le_refl _) (utf_text [] (by simp) (some ⟨g, 0, none⟩) 0 pw.w (fun _ => False) (fun _ h => h.elim) ⟨_, _, rfl, Nat.le_refl _, Nat.zero_le _, rfl, fun h => absurd h (Nat.lt_irrefl _)⟩)
          have htw : tx = textS ((rs.drop q).takeWhile isW) := by rw [htx, ← wordE_take, Hst.out, Nat.sub_self]; rfl
          have HMt := hid hMt
          have Htw := hid htw
          clear hMt htw
          clear htx
          refine wp_region_class W.heap.size (by kernel_rfl) (by kernel_rfl) ?_
          repeat (go_big_quiet_step (exact HMt.out _))
          refine wpQuiet_nil ?_
          rintro _ ⟨⟨wz, hkz⟩, rfl⟩
          go_wp2_with fail
          exact hR'.out _ _ ⟨by first | (rw [← Htw.out]; done) | (rw [← Htw.out]; rfl), by rw [Hst.out]; exact HQ2.out.keep hkz, HM2.out.trans (Mv.of_all hkz)⟩
        · have hcp2 : ¬ p = c := fun e => hcp e.symm
          have hqe : wordE rs p = q := by rw [← HE.out, Hst.out]
          have hle := HQ2.out.le
          obtain ⟨hlc, hmx⟩ := HQ2.out.cap
          unfold maxLen at hmx
          rename World => W
          have hc := HQ2.out.blk
          have hlB2 := hc.lt
          have x0 := (hc).cell 0
          have x1 := (hc).cell 1
          simp only [List.getElem?_cons_zero, List.getElem?_cons_succ] at x0 x1
          have d0 := fun p : KP W W.heap.size => KP.cell hlB2 x0 p
          have d1 := fun p : KP W W.heap.size => KP.cell hlB2 x1 p
          clear hc
          obtain ⟨tx, htx⟩ : ∃ t, t = textS ((rs.drop p).take (q - p)) := ⟨_, rfl⟩
          have hMt : ∀ pw : KP W W.heap.size, Calls Tryd.prog 55 #[.slice (some ⟨g, p, none⟩) (q - p) (c - p)] pw.w fun e w' => e = .returned (.string tx) ∧ ∃ q : KP W W.heap.size, w' = q.w := by
            intro pw
            rw [htx]
            have ht := (HQ2.out.keep pw.k).text p q hpq hle
            simp only [Option.map_some, Option.map_none, Addr.add_lit, Nat.zero_add, Nat.sub_self] at ht
            exact pw.calls (Nat.le_refl _) ht
          have htw : tx = textS ((rs.drop p).takeWhile isW) := by rw [htx, ← hqe, wordE_take]
          have Hqe := hid hqe
          have HMt := hid hMt
          have Htw := hid htw
          clear hqe hMt htw
          clear htx
          have hpqc : p ≤ c := by omega
          have hqc : q ≤ c := by omega
          refine wp_region_class W.heap.size (by kernel_rfl) (by kernel_rfl) ?_
          repeat (go_big_quiet_step (exact HMt.out _))
          refine wpQuiet_nil ?_
          rintro _ ⟨⟨wz, hkz⟩, rfl⟩
          go_wp2_with fail
          exact hR'.out _ _ ⟨by first | (rw [← Htw.out]; done) | (rw [← Htw.out]; rfl), by rw [Hqe.out]; exact HQ2.out.keep hkz, HM2.out.trans (Mv.of_all hkz)⟩
end Go.Proofs.YtbepgbkbpkaodaaDoor
