/- DictUndisturbed: the closure that adds a key. -/
import Derived.Test.YtjnaibmnpajfdaaFix10
namespace Go.Proofs.Ytjnaibmnpajfdaa
open Go.RowKit

def plan599 : List Value := [.int .i64 3, .int .i64 3, .int .i64 3, .int .i64 3, .int .i64 3, .int .i64 602, .int .i64 0, .int .i64 0, .int .i64 0, .int .i64 0, .int .i64 599, .int .i64 16, .int .i64 618, .int .i64 128, .int .i64 133]

/-- a memory that holds a dictionary of 16 slots -/
structure DW (w : World) (m c uB : Nat) (μ : MemS) (T : Tab) (u4 : Nat) : Prop where
  mem : MemAt w m c μ
  rep : Rep μ.cells 602 16 T 3 (3 + u4)
  wf : WF T 16 (homeD 16)
  len : μ.cells.length = 618
  le : u4 ≤ 599
  used : Blk w uB [.int .i64 0, .int .i64 0, .int .i64 0, .int .i64 0, .int .i64 u4, .int .i64 0]

theorem DW.keep {w w' : World} {m c uB : Nat} {μ : MemS} {T : Tab} {u4 : Nat} (h : DW w m c uB μ T u4) {K : Nat → Prop} (k : Keeps K w w') (h1 : K m) (h2 : K c) (h3 : K uB) : DW w' m c uB μ T u4 :=
  ⟨h.mem.keep k h1 h2, h.rep, h.wf, h.len, h.le, h.used.keep k h3⟩

set_option maxRecDepth 100000 in
set_option maxHeartbeats 2000000 in
theorem add_call {w : World} {m c mB sB pB uB : Nat} {μ : MemS} {T : Tab} {u4 : Nat} (h : DW w m c uB μ T u4) (t : ByteArray) (ht : t.size ≤ 140737488351232)
    (hbm : Blk w mB [.pointer (some ⟨m, 0, none⟩)]) (hbs : Blk w sB [.int .i64 602]) (hbp : Blk w pB plan599)
    (hn1 : mB ≠ m ∧ mB ≠ c ∧ mB ≠ uB) (hn2 : sB ≠ m ∧ sB ≠ c ∧ sB ≠ uB) (hn3 : pB ≠ m ∧ pB ≠ c ∧ pB ≠ uB) (hn4 : uB ≠ m ∧ uB ≠ c) :
    Calls Try.prog 41 #[.string t, .pointer (some ⟨mB, 0, none⟩), .pointer (some ⟨sB, 0, none⟩), .pointer (some ⟨pB, 0, none⟩), .pointer (some ⟨uB, 0, none⟩)] w fun e w' =>
      e = .returned (.tuple #[]) ∧ ∃ μ' T' u4', DW w' m c uB μ' T' u4' ∧ T.le T' ∧ (∀ i k a, T' i = some (k, a) → T i = some (k, a) ∨ k = bsL t) ∧ Keeps (fun b => b < w.heap.size ∧ b ≠ m ∧ b ≠ c ∧ b ≠ uB) w w' := by
  obtain ⟨hm, hR, hW, hl, hu, hbu⟩ := h
  have cm0 := (hbm).cell 0
  simp only [List.getElem?_cons_zero, List.getElem?_cons_succ] at cm0
  have cs0 := (hbs).cell 0
  simp only [List.getElem?_cons_zero, List.getElem?_cons_succ] at cs0
  have hms := hm.obj.lt
  have hcs := hm.cells.lt
  have hus := hbu.lt
  have Hm := hid hm
  have HR := hid hR
  have HW := hid hW
  have Hl := hid hl
  have Hu := hid hu
  have Hbu := hid hbu
  have Hbm := hid hbm
  have Hbs := hid hbs
  have Hbp := hid hbp
  clear hm hR hW hl hu hbu hbm hbs hbp
  refine calls_hide fun R' hR' => ?_
  go_enter Try.func41, Try.ntmps41
  go_wp2_with fail
  refine (find10 (K := fun b => b < w.heap.size ∧ b ≠ m ∧ b ≠ c) Hm.out (fun e => e.2.1 rfl) (fun e => e.2.2 rfl) (fun b hb => hb.1) HR.out t (by decide) (by decide) ht).mono ?_
  rintro e w1 ⟨rfl, ⟨μ1, hm1, hc1⟩, hk1⟩
  have hR1 := HR.out
  rw [← hc1] at hR1
  have hl1 := Hl.out
  rw [← hc1] at hl1
  have hbm1 := Hbm.out.keep hk1 ⟨Hbm.out.lt, hn1.1, hn1.2.1⟩
  have hbs1 := Hbs.out.keep hk1 ⟨Hbs.out.lt, hn2.1, hn2.2.1⟩
  have hbp1 := Hbp.out.keep hk1 ⟨Hbp.out.lt, hn3.1, hn3.2.1⟩
  have hbu1 := Hbu.out.keep hk1 ⟨hus, hn4.1, hn4.2⟩
  have hkk1 : Keeps (fun b => b < w.heap.size ∧ b ≠ m ∧ b ≠ c ∧ b ≠ uB) w w1 := hk1.mono fun b hb => ⟨hb.1, hb.2.1, hb.2.2.1⟩
  have hz1 := hk1.size
  clear hk1 hc1 cm0 cs0
  have hfin : DW w1 m c uB μ1 T u4 := ⟨hm1, hR1, HW.out, hl1, Hu.out, hbu1⟩
  have Hm1 := hid hm1
  have HR1 := hid hR1
  have Hl1 := hid hl1
  have Hbm1 := hid hbm1
  have Hbs1 := hid hbs1
  have Hbp1 := hid hbp1
  have Hbu1 := hid hbu1
  have Hkk1 := hid hkk1
  have Hfin := hid hfin
  clear hm1 hR1 hl1 hbm1 hbs1 hbp1 hbu1 hkk1 hfin
  rcases probe_cases T 16 (homeD 16 (bsL t)) (bsL t) 16 0 with ⟨j, _, hj, _, hp⟩ | ⟨_, hp⟩
  rcases hp with ⟨htn, hp⟩ | ⟨a, hta, hp⟩
  · rw [hp]
    have hp0 := hp
    generalize hsl : (homeD 16 (bsL t) + j) % 16 = sl at *
    have hsl16 : sl < 16 := by omega
    have i0 : (0 : Int) ≤ (sl : Int) := by omega
    dsimp only
    by_cases hsz : t.size ≤ 100
    · have i1 : (t.size : Int) ≤ 100 := by omega
      have d1 := Hbm1.out.cell 0
      have d2 := Hbs1.out.cell 0
      simp only [List.getElem?_cons_zero] at d1 d2
      have hbp2 := Hbp1.out
      unfold plan599 at hbp2
      have p0 := (hbp2).cell 0
      have p1 := (hbp2).cell 1
      have p2 := (hbp2).cell 2
      have p3 := (hbp2).cell 3
      have p4 := (hbp2).cell 4
      have p5 := (hbp2).cell 5
      have p6 := (hbp2).cell 6
      have p7 := (hbp2).cell 7
      have p8 := (hbp2).cell 8
      have p9 := (hbp2).cell 9
      have p10 := (hbp2).cell 10
      have p11 := (hbp2).cell 11
      have p12 := (hbp2).cell 12
      have p13 := (hbp2).cell 13
      have p14 := (hbp2).cell 14
      simp only [List.getElem?_cons_zero, List.getElem?_cons_succ] at p0 p1 p2 p3 p4 p5 p6 p7 p8 p9 p10 p11 p12 p13 p14
      have hbu2 := Hbu1.out
      have q0 := (hbu2).cell 0
      have q1 := (hbu2).cell 1
      have q2 := (hbu2).cell 2
      have q3 := (hbu2).cell 3
      have q4 := (hbu2).cell 4
      have q5 := (hbu2).cell 5
      simp only [List.getElem?_cons_zero, List.getElem?_cons_succ] at q0 q1 q2 q3 q4 q5
      clear hbp2 hbu2
      have Hp := hid hp
      have Hp0 := hid hp0
      have Htn := hid htn
      have Hsl := hid hsl
      clear hp hp0 htn hsl
      by_cases hrm : u4 + (2 + (t.size + 3) / 4) ≤ 599
      · have Hrm := hid hrm
        clear hrm
        go_wp2_with fail
        refine (put10_ok (K := fun b => b < w1.heap.size ∧ b ≠ m ∧ b ≠ c) Hm1.out (fun e => e.2.1 rfl) (fun e => e.2.2 rfl) (fun b hb => hb.1) (planD 599) ⟨0, 0, 0, 0, u4, 0⟩ 602 sl t (by omega)
          (by show (0 : Int) ≤ (u4 : Int); omega) (by decide) (by omega) (by decide) (by have := Hrm.out; simp only [planD]; omega) (a := 3 + u4) (by simp only [planD]; omega) (by decide) (by rw [packC_len, bsL_len, Hl1.out]; have := Hrm.out; omega) (by rw [Hl1.out]; omega)).mono ?_
        rintro e w2 ⟨rfl, ⟨μ2, hm2, hc2⟩, hk2⟩
        dsimp only
        rw [show (u4 : Int) + (2 + ((t.size : Int) + 3) / 4) = ((u4 + (2 + (t.size + 3) / 4) : Nat) : Int) by omega]
        generalize hv4 : u4 + (2 + (t.size + 3) / 4) = v4 at *
        have hbu3 := Hbu1.out.keep hk2 ⟨Hbu1.out.lt, hn4.1, hn4.2⟩
        have hkk2 := Hkk1.out.trans (hk2.mono fun b hb => ⟨by omega, hb.2.1, hb.2.2.1⟩)
        have hput := WF.put HW.out (by decide) Hp0.out (3 + u4) (by omega)
        have hlen := bsL_len t
        have hRp := Rep.put HR1.out hsl16 hput.2.1 (by omega) rfl (by rw [packC_len, hlen]; have := Hrm.out; omega) (by rw [hlen]; exact hsz) (fun x hx => bsL_range t x hx)
        rw [hlen, packC_len, hlen, ← hc2, show 3 + u4 + 2 + (t.size + 3) / 4 = 3 + v4 by omega] at hRp
        have hl2 : μ2.cells.length = 618 := by rw [hc2, putC_len]; exact Hl1.out
        have hz2 := hk2.size
        clear p0 p1 p2 p3 p4 p5 p6 p7 p8 p9 p10 p11 p12 p13 p14 q0 q1 q2 q3 q4 q5 d1 d2 hk2 hc2
        have Hm2 := hid hm2
        have Hbu3 := hid hbu3
        have Hkk2 := hid hkk2
        have Hput := hid hput
        have HRp := hid hRp
        have Hl2 := hid hl2
        clear hm2 hbu3 hkk2 hput hRp hl2
        have hbu4 := Hbu3.out
        have q0 := (hbu4).cell 0
        have q1 := (hbu4).cell 1
        have q2 := (hbu4).cell 2
        have q3 := (hbu4).cell 3
        have q4 := (hbu4).cell 4
        have q5 := (hbu4).cell 5
        simp only [List.getElem?_cons_zero, List.getElem?_cons_succ] at q0 q1 q2 q3 q4 q5
        clear hbu4
        have f1 := Hbu3.out.free
        have hul := Hbu3.out.lt
        have hne : w2.heap.size ≠ uB := by omega
        go_wp2_with fail
        have hv599 : v4 ≤ 599 := by have := Hrm.out; omega
        refine bp_gen (fun W => Blk W uB [.int .i64 0, .int .i64 0, .int .i64 0, .int .i64 0, .int .i64 v4, .int .i64 0] ∧ MemAt W m c μ2 ∧ Keeps (fun b => b < w.heap.size ∧ b ≠ m ∧ b ≠ c ∧ b ≠ uB) w W) ⟨?_, ?_, ?_⟩ ?_
        · have hbu5 := Hbu3.out
          repeat (first | with_reducible assumption | with_reducible exact Blk.new _ _ _ | with_reducible refine Blk.drew ?_ | with_reducible refine Blk.drewN ?_ _ | with_reducible refine BlkN.set1 ?_ _ | with_reducible refine BlkN.set6 ?_ _ _ _ _ _ _ | with_reducible exact BlkN.of1 (by with_reducible assumption) | with_reducible exact BlkN.of6 (by with_reducible assumption) | with_reducible refine BlkN.drew ?_ | with_reducible refine BlkN.drewN ?_ _ | with_reducible refine BlkN.set_ne ?_ _ ?_ | with_reducible refine BlkN.alloc ?_ _ | with_reducible refine Blk.set_ne ?_ _ ?_ | (with_reducible refine Blk.new' _ _ _ ?_; focus (simp; done)) | with_reducible refine Blk.alloc ?_ _)
          all_goals (first | assumption | (simp; done) | (simp; omega))
        · refine Hm2.out.keep (K := fun b => b < w2.heap.size ∧ b ≠ uB) ?_ ⟨Hm2.out.obj.lt, fun e => hn4.1 e.symm⟩ ⟨Hm2.out.cells.lt, fun e => hn4.2 e.symm⟩
          repeat (first | with_reducible exact Keeps.refl _ _ | with_reducible refine Keeps.setCell ?_ ?_ _ | with_reducible refine Keeps.alloc ?_ ?_ _)
          all_goals (first | (simp; done) | (intro b hb; have hb1 := hb.1; simp only [World.size_alloc, World.size_setCell]; exact hb1))
        · have hkk3 := Hkk2.out
          repeat (first | with_reducible assumption | with_reducible refine Keeps.setCell ?_ ?_ _ | with_reducible refine Keeps.alloc ?_ ?_ _)
          all_goals (first | (simp; done) | (intro b hb; have hb1 := hb.1; simp only [World.size_alloc, World.size_setCell]; omega))
        rintro W ⟨g1, g2, g3⟩
        clear q0 q1 q2 q3 q4 q5 f1
        go_end0
        refine hR'.out _ _ ⟨rfl, μ2, T.put sl (bsL t, 3 + u4), v4, ⟨g2, HRp.out, Hput.out.2.2, Hl2.out, hv599, g1⟩, Tab.put_le Htn.out, ?_, g3⟩
        intro i k b hb
        by_cases hi : i = sl
        · subst hi
          rw [Tab.put_self] at hb
          injection hb with hb; injection hb with hb _
          exact Or.inr hb.symm
        · rw [Tab.put_ne _ _ hi] at hb; exact Or.inl hb
      · have Hrm := hid hrm
        clear hrm
        go_wp2_with fail
        refine (put10_full (K := fun b => b < w1.heap.size ∧ b ≠ m ∧ b ≠ c) Hm1.out (fun e => e.2.1 rfl) (fun e => e.2.2 rfl) (fun b hb => hb.1) (planD 599) ⟨0, 0, 0, 0, u4, 0⟩ 602 sl t (by omega)
          (by show (0 : Int) ≤ (u4 : Int); omega) (by decide) (by omega) (by decide) (by have := Hu.out; simp only [planD]; omega) (by have := Hrm.out; simp only [planD]; omega)).mono ?_
        rintro e w2 ⟨rfl, ⟨μ2, hm2, hc2⟩, hk2⟩
        dsimp only
        have hbu3 := Hbu1.out.keep hk2 ⟨Hbu1.out.lt, hn4.1, hn4.2⟩
        have hkk2 := Hkk1.out.trans (hk2.mono fun b hb => ⟨by omega, hb.2.1, hb.2.2.1⟩)
        have hRp := HR1.out
        rw [← hc2] at hRp
        have hl2 : μ2.cells.length = 618 := by rw [hc2]; exact Hl1.out
        have hz2 := hk2.size
        clear p0 p1 p2 p3 p4 p5 p6 p7 p8 p9 p10 p11 p12 p13 p14 q0 q1 q2 q3 q4 q5 d1 d2 hk2 hc2
        have Hm2 := hid hm2
        have Hbu3 := hid hbu3
        have Hkk2 := hid hkk2
        have HRp := hid hRp
        have Hl2 := hid hl2
        clear hm2 hbu3 hkk2 hRp hl2
        go_wp2_with fail
        refine bp_gen (fun W => DW W m c uB μ2 T u4 ∧ Keeps (fun b => b < w.heap.size ∧ b ≠ m ∧ b ≠ c ∧ b ≠ uB) w W) ⟨?_, ?_⟩ ?_
        · refine DW.keep (w := w2) ⟨Hm2.out, HRp.out, HW.out, Hl2.out, Hu.out, Hbu3.out⟩ (K := fun b => b < w2.heap.size) ?_ Hm2.out.obj.lt Hm2.out.cells.lt Hbu3.out.lt
          exact (Keeps.refl _ _).alloc (fun b hb => hb) _
        · exact Hkk2.out.alloc (fun b hb => by have hb1 := hb.1; omega) _
        rintro W ⟨g1, g2⟩
        go_end0
        exact hR'.out _ _ ⟨rfl, μ2, T, u4, g1, Tab.le_refl _, fun i k a h => Or.inl h, g2⟩
    · have i1 : (100 : Int) < (t.size : Int) := by omega
      go_wp2_with fail
      go_end0
      exact hR'.out _ _ ⟨rfl, μ1, T, u4, Hfin.out, Tab.le_refl _, fun i k a h => Or.inl h, Hkk1.out⟩
  · rw [hp]
    have hpos := HW.out.pos _ _ _ (Nat.mod_lt _ (by decide)) hta
    generalize (homeD 16 (bsL t) + j) % 16 = sl at *
    have hb : ((a : Int) == 0) = false := by simp; omega
    dsimp only
    go_wp2_with fail
    go_end0
    exact hR'.out _ _ ⟨rfl, μ1, T, u4, Hfin.out, Tab.le_refl _, fun i k a h => Or.inl h, Hkk1.out⟩
  · rw [hp]
    dsimp only
    go_wp2_with fail
    go_end0
    exact hR'.out _ _ ⟨rfl, μ1, T, u4, Hfin.out, Tab.le_refl _, fun i k a h => Or.inl h, Hkk1.out⟩
end Go.Proofs.Ytjnaibmnpajfdaa
