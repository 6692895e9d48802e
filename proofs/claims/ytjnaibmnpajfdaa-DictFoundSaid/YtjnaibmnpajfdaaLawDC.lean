/- Layer 10's statements: put, at once. -/
import Derived.Test.YtjnaibmnpajfdaaLawDB
namespace Go.Proofs.Ytjnaibmnpajfdaa
open Go.RowKit

set_option maxRecDepth 100000 in
set_option maxHeartbeats 2000000 in
theorem put10_ok {w : World} {K : Nat → Prop} {m c : Nat} {μ : MemS} (hm : MemAt w m c μ) (hKm : ¬ K m) (hKc : ¬ K c) (hlt : ∀ b, K b → b < w.heap.size) (p : PlanM) (u : V6) (s sl : Nat) (t : ByteArray) (ht : t.size ≤ 1000)
    (h0 : 0 ≤ u.a4) (hs : s ≤ 65536) (hl : sl ≤ 65536) (h3 : p.size.a4 ≤ 65536) (h2 : u.a4 + (2 + ((t.size + 3) / 4 : Nat)) ≤ p.size.a4) {a : Nat} (hpb : p.base.a4 + u.a4 = a) (hb0 : 0 ≤ p.base.a4 ∧ p.base.a4 ≤ 65536) (ha : a + 2 + (packC (bsL t)).length ≤ μ.cells.length) (hsl : s + sl < μ.cells.length) :
    Calls Try.prog 43 #[.pointer (some ⟨m, 0, none⟩), p.val, u.val, .int .i64 s, .int .i64 sl, .string t] w fun e w' =>
      e = .returned (.tuple #[.int .i64 a, .agg #[.int .i64 u.a0, .int .i64 u.a1, .int .i64 u.a2, .int .i64 u.a3, .int .i64 (u.a4 + (2 + ((t.size : Int) + 3) / 4)), .int .i64 u.a5], .int .i64 0]) ∧ (∃ μ', MemAt w' m c μ' ∧ μ'.cells = putC μ.cells a (s + sl) t.size (packC (bsL t))) ∧ Keeps K w w' := by
  have hideal : (putD a ((s : Int) + (sl : Int)) t.size (packC (bsL t))).ideal μ.cells = some ((), putC μ.cells a (s + sl) t.size (packC (bsL t)), (packC (bsL t)).length + 2) := by
    rw [← Int.natCast_add]; exact putD_ideal ha hsl
  have hcl : (packC (bsL t)).length ≤ 251 := by rw [packC_len, bsL_len]; omega
  have hl1 := hm.obj.lt
  have hl2 := hm.cells.lt
  have Hm := hid hm
  have Hideal := hid hideal
  have Hlt := hid hlt
  have H2 := hid h2
  have Hpb := hid hpb
  have Ha := hid ha
  have Hsl := hid hsl
  have Hcl := hid hcl
  clear hm hideal hlt h2 hpb ha hsl hcl
  refine calls_hide fun R' hR' => ?_
  unfold PlanM.val V6.val
  go_enter Try.func43, Try.ntmps43
  go_wp2_with fail
  refine calls_gen (fun W => Blk W (w.heap.size) [.int .i64 p.base.a0, .int .i64 p.base.a1, .int .i64 p.base.a2, .int .i64 p.base.a3, .int .i64 p.base.a4, .int .i64 p.base.a5, .int .i64 p.size.a0, .int .i64 p.size.a1, .int .i64 p.size.a2, .int .i64 p.size.a3, .int .i64 p.size.a4, .int .i64 p.size.a5, .int .i64 p.cells, .int .i64 p.slots, .int .i64 p.live] ∧ Blk W (w.heap.size + 1) [.int .i64 u.a0, .int .i64 u.a1, .int .i64 u.a2, .int .i64 u.a3, .int .i64 u.a4, .int .i64 u.a5] ∧ Blk W (w.heap.size + 1 + 1) [.int .i64 s] ∧ Blk W (w.heap.size + 1 + 1 + 1) [.int .i64 sl] ∧ Blk W (w.heap.size + 1 + 1 + 1 + 1) [.string t] ∧ Blk W (w.heap.size + 1 + 1 + 1 + 1 + 1) [.int .i64 0, .int .i64 0, .int .i64 0, .int .i64 0, .int .i64 0, .int .i64 0] ∧ Blk W (w.heap.size + 1 + 1 + 1 + 1 + 1 + 1) [.int .i64 0] ∧ Blk W (w.heap.size + 1 + 1 + 1 + 1 + 1 + 1 + 1) [.int .i64 0, .int .i64 0, .int .i64 0, .int .i64 0, .int .i64 0, .int .i64 0] ∧ Blk W (w.heap.size + 1 + 1 + 1 + 1 + 1 + 1 + 1 + 1) [.int .i64 0] ∧ Keeps (· < w.heap.size) w W) ⟨?_, ?_, ?_, ?_, ?_, ?_, ?_, ?_, ?_, ?_⟩ ?_
  · repeat (first | with_reducible assumption | with_reducible exact Blk.new _ _ _ | with_reducible refine Blk.drew ?_ | with_reducible refine Blk.drewN ?_ _ | with_reducible refine Blk.set_ne ?_ _ ?_ | (with_reducible refine Blk.new' _ _ _ ?_; focus (simp; done)) | with_reducible refine Blk.alloc ?_ _)
    all_goals (first | assumption | (simp; done) | (simp; omega))
  · repeat (first | with_reducible assumption | with_reducible exact Blk.new _ _ _ | with_reducible refine Blk.drew ?_ | with_reducible refine Blk.drewN ?_ _ | with_reducible refine Blk.set_ne ?_ _ ?_ | (with_reducible refine Blk.new' _ _ _ ?_; focus (simp; done)) | with_reducible refine Blk.alloc ?_ _)
    all_goals (first | assumption | (simp; done) | (simp; omega))
  · repeat (first | with_reducible assumption | with_reducible exact Blk.new _ _ _ | with_reducible refine Blk.drew ?_ | with_reducible refine Blk.drewN ?_ _ | with_reducible refine Blk.set_ne ?_ _ ?_ | (with_reducible refine Blk.new' _ _ _ ?_; focus (simp; done)) | with_reducible refine Blk.alloc ?_ _)
    all_goals (first | assumption | (simp; done) | (simp; omega))
  · repeat (first | with_reducible assumption | with_reducible exact Blk.new _ _ _ | with_reducible refine Blk.drew ?_ | with_reducible refine Blk.drewN ?_ _ | with_reducible refine Blk.set_ne ?_ _ ?_ | (with_reducible refine Blk.new' _ _ _ ?_; focus (simp; done)) | with_reducible refine Blk.alloc ?_ _)
    all_goals (first | assumption | (simp; done) | (simp; omega))
  · repeat (first | with_reducible assumption | with_reducible exact Blk.new _ _ _ | with_reducible refine Blk.drew ?_ | with_reducible refine Blk.drewN ?_ _ | with_reducible refine Blk.set_ne ?_ _ ?_ | (with_reducible refine Blk.new' _ _ _ ?_; focus (simp; done)) | with_reducible refine Blk.alloc ?_ _)
    all_goals (first | assumption | (simp; done) | (simp; omega))
  · repeat (first | with_reducible assumption | with_reducible exact Blk.new _ _ _ | with_reducible refine Blk.drew ?_ | with_reducible refine Blk.drewN ?_ _ | with_reducible refine Blk.set_ne ?_ _ ?_ | (with_reducible refine Blk.new' _ _ _ ?_; focus (simp; done)) | with_reducible refine Blk.alloc ?_ _)
    all_goals (first | assumption | (simp; done) | (simp; omega))
  · repeat (first | with_reducible assumption | with_reducible exact Blk.new _ _ _ | with_reducible refine Blk.drew ?_ | with_reducible refine Blk.drewN ?_ _ | with_reducible refine Blk.set_ne ?_ _ ?_ | (with_reducible refine Blk.new' _ _ _ ?_; focus (simp; done)) | with_reducible refine Blk.alloc ?_ _)
    all_goals (first | assumption | (simp; done) | (simp; omega))
  · repeat (first | with_reducible assumption | with_reducible exact Blk.new _ _ _ | with_reducible refine Blk.drew ?_ | with_reducible refine Blk.drewN ?_ _ | with_reducible refine Blk.set_ne ?_ _ ?_ | (with_reducible refine Blk.new' _ _ _ ?_; focus (simp; done)) | with_reducible refine Blk.alloc ?_ _)
    all_goals (first | assumption | (simp; done) | (simp; omega))
  · repeat (first | with_reducible assumption | with_reducible exact Blk.new _ _ _ | with_reducible refine Blk.drew ?_ | with_reducible refine Blk.drewN ?_ _ | with_reducible refine Blk.set_ne ?_ _ ?_ | (with_reducible refine Blk.new' _ _ _ ?_; focus (simp; done)) | with_reducible refine Blk.alloc ?_ _)
    all_goals (first | assumption | (simp; done) | (simp; omega))
  · repeat (first | with_reducible assumption | with_reducible exact Keeps.refl _ _ | with_reducible refine Keeps.drew ?_ | with_reducible refine Keeps.drewN ?_ _ | with_reducible refine Keeps.setCell ?_ ?_ _ | with_reducible refine Keeps.alloc ?_ ?_ _)
    all_goals (first | (simp; done) | (simp; omega) | (intro b hb; first | exact hb | omega | (simp; omega) | (simp only [World.size_alloc]; omega)))
  rintro W ⟨hB0, hB1, hB2, hB3, hB4, hB5, hB6, hB7, hB8, hk⟩
  generalize w.heap.size = b at *
  have hl8 := hB8.lt
  have hmW := Hm.out.keep hk hl1 hl2
  have HB0 := hid hB0
  have HB1 := hid hB1
  have HB2 := hid hB2
  have HB3 := hid hB3
  have HB4 := hid hB4
  have HB5 := hid hB5
  have Hk := hid hk
  clear hB0 hB1 hB2 hB3 hB4 hB5 hk
  refine (whole10 (K := fun x => K x ∨ (b ≤ x ∧ x < b + 9)) hmW (by rintro (h | h); exact hKm h; omega) (by rintro (h | h); exact hKc h; omega)
    (by rintro x (h | h); have := Hlt.out x h; omega; omega) _ _ enters_put10 (putD a ((s : Int) + (sl : Int)) t.size (packC (bsL t))) Hideal.out (by have := Hcl.out; omega)
    (fun w2 => Keeps (fun x => K x ∨ (b ≤ x ∧ x < b + 6)) W w2 ∧ (∃ oa : Int, Blk w2 (b + 1 + 1 + 1 + 1 + 1 + 1) [.int .i64 oa]) ∧ (∃ o : V6, Blk w2 (b + 1 + 1 + 1 + 1 + 1 + 1 + 1) [.int .i64 o.a0, .int .i64 o.a1, .int .i64 o.a2, .int .i64 o.a3, .int .i64 o.a4, .int .i64 o.a5]) ∧ ∃ oe : Int, Blk w2 (b + 1 + 1 + 1 + 1 + 1 + 1 + 1 + 1) [.int .i64 oe])
    (fun _ _ w2 => Blk w2 (b + 1 + 1 + 1 + 1 + 1 + 1) [.int .i64 a] ∧ Blk w2 (b + 1 + 1 + 1 + 1 + 1 + 1 + 1) [.int .i64 u.a0, .int .i64 u.a1, .int .i64 u.a2, .int .i64 u.a3, .int .i64 (u.a4 + (2 + ((t.size : Int) + 3) / 4)), .int .i64 u.a5] ∧ Blk w2 (b + 1 + 1 + 1 + 1 + 1 + 1 + 1 + 1) [.int .i64 0]) ⟨Keeps.refl _ _, ⟨_, hB6⟩, ⟨⟨0, 0, 0, 0, 0, 0⟩, hB7⟩, ⟨_, hB8⟩⟩
    (by rintro w2 w3 ⟨h1, ⟨oa, h2⟩, ⟨o, h3⟩, ⟨oe, h4⟩⟩ k; exact ⟨h1.trans (k.mono fun x hx => by rcases hx with h | h; exact Or.inl h; exact Or.inr ⟨h.1, by omega⟩), ⟨oa, h2.keep k (Or.inr ⟨by omega, by omega⟩)⟩, ⟨o, h3.keep k (Or.inr ⟨by omega, by omega⟩)⟩, ⟨oe, h4.keep k (Or.inr ⟨by omega, by omega⟩)⟩⟩)
    (by rintro r y w2 w3 hr ⟨h1, h2, h3⟩ k; exact ⟨h1.keep k (fun e => hr (e ▸ Or.inr ⟨by omega, by omega⟩)), h2.keep k (fun e => hr (e ▸ Or.inr ⟨by omega, by omega⟩)), h3.keep k (fun e => hr (e ▸ Or.inr ⟨by omega, by omega⟩))⟩) ?_).mono ?_
  · rintro w2 r s2 ⟨h1, ⟨oa, g2⟩, ⟨o, g3⟩, ⟨oe, g4⟩⟩ hR
    refine (put1_ok hR b (b + 1) (b + 1 + 1) (b + 1 + 1 + 1) (b + 1 + 1 + 1 + 1) (b + 1 + 1 + 1 + 1 + 1 + 1) (b + 1 + 1 + 1 + 1 + 1 + 1 + 1) (b + 1 + 1 + 1 + 1 + 1 + 1 + 1 + 1) p u o s sl oa oe t ht h0 H2.out hb0 (by omega) (by omega) h3 (HB0.out.keep h1 (Or.inr ⟨by omega, by omega⟩)) (HB1.out.keep h1 (Or.inr ⟨by omega, by omega⟩)) (HB2.out.keep h1 (Or.inr ⟨by omega, by omega⟩)) (HB3.out.keep h1 (Or.inr ⟨by omega, by omega⟩)) (HB4.out.keep h1 (Or.inr ⟨by omega, by omega⟩)) g2 g3 g4 (Or.inr ⟨by omega, by omega⟩) (Or.inr ⟨by omega, by omega⟩) (Or.inr ⟨by omega, by omega⟩) (by omega) (by omega) (by omega)).mono ?_
    rintro e w3 ⟨rfl, g1, g2, g3, g4, g5⟩
    rw [Hpb.out] at g3 g1
    refine ⟨rfl, g1, ⟨h1.trans (g2.mono fun x hx => ?_), ⟨_, g3⟩, ⟨⟨u.a0, u.a1, u.a2, u.a3, (u.a4 + (2 + ((t.size : Int) + 3) / 4)), u.a5⟩, g4⟩, ⟨_, g5⟩⟩, g3, g4, g5⟩
    rcases hx with h | h
    · have := Hlt.out x h; exact ⟨Or.inl h, by omega, by omega, by omega⟩
    · exact ⟨Or.inr ⟨h.1, by omega⟩, by omega, by omega, by omega⟩
  rintro e w4 ⟨rfl, hmem, ⟨hJ1, _⟩, ⟨r, _, hO1, hO2, hO3⟩, _⟩
  have hB5' := HB5.out.keep hJ1 (Or.inr ⟨by omega, by omega⟩)
  have ca0 := (hO1).cell 0
  simp only [List.getElem?_cons_zero, List.getElem?_cons_succ] at ca0
  have cu0 := (hO2).cell 0
  have cu1 := (hO2).cell 1
  have cu2 := (hO2).cell 2
  have cu3 := (hO2).cell 3
  have cu4 := (hO2).cell 4
  have cu5 := (hO2).cell 5
  simp only [List.getElem?_cons_zero, List.getElem?_cons_succ] at cu0 cu1 cu2 cu3 cu4 cu5
  have ce0 := (hO3).cell 0
  simp only [List.getElem?_cons_zero, List.getElem?_cons_succ] at ce0
  have f5 := hB5'.free
  have z0 := (hB5').cell 0
  have z1 := (hB5').cell 1
  have z2 := (hB5').cell 2
  have z3 := (hB5').cell 3
  have z4 := (hB5').cell 4
  have z5 := (hB5').cell 5
  simp only [List.getElem?_cons_zero, List.getElem?_cons_succ] at z0 z1 z2 z3 z4 z5
  have hkf : Keeps K w w4 := (Hk.out.mono Hlt.out).trans (hJ1.mono fun x hx => Or.inl hx)
  have hl4 : b + 1 + 1 + 1 + 1 + 1 < w4.heap.size := hB5'.lt
  have Hkf := hid hkf
  clear hkf
  obtain ⟨μ', hm4, hc4⟩ := hmem
  have Hm4 := hid hm4
  have Hc4 := hid hc4
  clear hm4 hc4
  clear hO1 hO2 hO3 hJ1
  go_wp2_with fail
  go_region
  go_wp2_with fail
  refine bp_gen (fun W => Blk W (b + 1 + 1 + 1 + 1 + 1) [.int .i64 u.a0, .int .i64 u.a1, .int .i64 u.a2, .int .i64 u.a3, .int .i64 (u.a4 + (2 + ((t.size : Int) + 3) / 4)), .int .i64 u.a5] ∧ Keeps K w W ∧ MemAt W m c μ') ⟨?_, ?_, ?_⟩ ?_
  · repeat (first | with_reducible assumption | with_reducible exact Blk.new _ _ _ | with_reducible refine Blk.drew ?_ | with_reducible refine Blk.drewN ?_ _ | with_reducible refine BlkN.set1 ?_ _ | with_reducible refine BlkN.set6 ?_ _ _ _ _ _ _ | with_reducible exact BlkN.of1 (by with_reducible assumption) | with_reducible exact BlkN.of6 (by with_reducible assumption) | with_reducible refine BlkN.drew ?_ | with_reducible refine BlkN.drewN ?_ _ | with_reducible refine BlkN.set_ne ?_ _ ?_ | with_reducible refine BlkN.alloc ?_ _ | with_reducible refine Blk.set_ne ?_ _ ?_ | (with_reducible refine Blk.new' _ _ _ ?_; focus (simp; done)) | with_reducible refine Blk.alloc ?_ _)
    all_goals (first | assumption | (simp; done) | (simp; omega))
  · repeat (first | with_reducible exact Hkf.out | with_reducible refine Keeps.drew ?_ | with_reducible refine Keeps.setCell ?_ ?_ _)
    all_goals (intro hb; have := Hlt.out _ hb; simp at this; omega)
  · refine Hm4.out.keep (K := fun x => x ≠ b + 1 + 1 + 1 + 1 + 1) ?_ (by omega) (by omega)
    repeat (first | with_reducible exact Keeps.refl _ _ | with_reducible refine Keeps.drew ?_ | with_reducible refine Keeps.setCell ?_ ?_ _)
    all_goals simp
  clear ca0 cu0 cu1 cu2 cu3 cu4 cu5 ce0 z0 z1 z2 z3 z4 z5 f5 hB5'
  rintro W2 ⟨g1, g2, g3⟩
  have d0 := (g1).cell 0
  have d1 := (g1).cell 1
  have d2 := (g1).cell 2
  have d3 := (g1).cell 3
  have d4 := (g1).cell 4
  have d5 := (g1).cell 5
  simp only [List.getElem?_cons_zero, List.getElem?_cons_succ] at d0 d1 d2 d3 d4 d5
  refine bodyPost_ret (v := .tuple #[.int .i64 a, .agg #[.int .i64 u.a0, .int .i64 u.a1, .int .i64 u.a2, .int .i64 u.a3, .int .i64 (u.a4 + (2 + ((t.size : Int) + 3) / 4)), .int .i64 u.a5], .int .i64 0]) ?_ rfl ?_
  · simp [results, Try.results43, go_sem, d0, d1, d2, d3, d4, d5]
  · exact hR'.out _ _ ⟨rfl, ⟨μ', g3, Hc4.out⟩, g2⟩

set_option maxRecDepth 100000 in
set_option maxHeartbeats 2000000 in
theorem put10_full {w : World} {K : Nat → Prop} {m c : Nat} {μ : MemS} (hm : MemAt w m c μ) (hKm : ¬ K m) (hKc : ¬ K c) (hlt : ∀ b, K b → b < w.heap.size) (p : PlanM) (u : V6) (s sl : Nat) (t : ByteArray) (ht : t.size ≤ 1000)
    (h0 : 0 ≤ u.a4) (hs : s ≤ 65536) (hl : sl ≤ 65536) (h3 : p.size.a4 ≤ 65536) (hu : u.a4 ≤ p.size.a4) (h2 : p.size.a4 < u.a4 + (2 + ((t.size + 3) / 4 : Nat))) :
    Calls Try.prog 43 #[.pointer (some ⟨m, 0, none⟩), p.val, u.val, .int .i64 s, .int .i64 sl, .string t] w fun e w' =>
      e = .returned (.tuple #[.int .i64 0, .agg #[.int .i64 0, .int .i64 0, .int .i64 0, .int .i64 0, .int .i64 0, .int .i64 0], .int .i64 3]) ∧ (∃ μ', MemAt w' m c μ' ∧ μ'.cells = μ.cells) ∧ Keeps K w w' := by
  have hideal : (Tree.ret () : Tree Unit).ideal μ.cells = some ((), μ.cells, 0) := rfl
  have hl1 := hm.obj.lt
  have hl2 := hm.cells.lt
  have Hm := hid hm
  have Hideal := hid hideal
  have Hlt := hid hlt
  have H2 := hid h2
  clear hm hideal hlt h2
  refine calls_hide fun R' hR' => ?_
  unfold PlanM.val V6.val
  go_enter Try.func43, Try.ntmps43
  go_wp2_with fail
  refine calls_gen (fun W => Blk W (w.heap.size) [.int .i64 p.base.a0, .int .i64 p.base.a1, .int .i64 p.base.a2, .int .i64 p.base.a3, .int .i64 p.base.a4, .int .i64 p.base.a5, .int .i64 p.size.a0, .int .i64 p.size.a1, .int .i64 p.size.a2, .int .i64 p.size.a3, .int .i64 p.size.a4, .int .i64 p.size.a5, .int .i64 p.cells, .int .i64 p.slots, .int .i64 p.live] ∧ Blk W (w.heap.size + 1) [.int .i64 u.a0, .int .i64 u.a1, .int .i64 u.a2, .int .i64 u.a3, .int .i64 u.a4, .int .i64 u.a5] ∧ Blk W (w.heap.size + 1 + 1) [.int .i64 s] ∧ Blk W (w.heap.size + 1 + 1 + 1) [.int .i64 sl] ∧ Blk W (w.heap.size + 1 + 1 + 1 + 1) [.string t] ∧ Blk W (w.heap.size + 1 + 1 + 1 + 1 + 1) [.int .i64 0, .int .i64 0, .int .i64 0, .int .i64 0, .int .i64 0, .int .i64 0] ∧ Blk W (w.heap.size + 1 + 1 + 1 + 1 + 1 + 1) [.int .i64 0] ∧ Blk W (w.heap.size + 1 + 1 + 1 + 1 + 1 + 1 + 1) [.int .i64 0, .int .i64 0, .int .i64 0, .int .i64 0, .int .i64 0, .int .i64 0] ∧ Blk W (w.heap.size + 1 + 1 + 1 + 1 + 1 + 1 + 1 + 1) [.int .i64 0] ∧ Keeps (· < w.heap.size) w W) ⟨?_, ?_, ?_, ?_, ?_, ?_, ?_, ?_, ?_, ?_⟩ ?_
  · repeat (first | with_reducible assumption | with_reducible exact Blk.new _ _ _ | with_reducible refine Blk.drew ?_ | with_reducible refine Blk.drewN ?_ _ | with_reducible refine Blk.set_ne ?_ _ ?_ | (with_reducible refine Blk.new' _ _ _ ?_; focus (simp; done)) | with_reducible refine Blk.alloc ?_ _)
    all_goals (first | assumption | (simp; done) | (simp; omega))
  · repeat (first | with_reducible assumption | with_reducible exact Blk.new _ _ _ | with_reducible refine Blk.drew ?_ | with_reducible refine Blk.drewN ?_ _ | with_reducible refine Blk.set_ne ?_ _ ?_ | (with_reducible refine Blk.new' _ _ _ ?_; focus (simp; done)) | with_reducible refine Blk.alloc ?_ _)
    all_goals (first | assumption | (simp; done) | (simp; omega))
  · repeat (first | with_reducible assumption | with_reducible exact Blk.new _ _ _ | with_reducible refine Blk.drew ?_ | with_reducible refine Blk.drewN ?_ _ | with_reducible refine Blk.set_ne ?_ _ ?_ | (with_reducible refine Blk.new' _ _ _ ?_; focus (simp; done)) | with_reducible refine Blk.alloc ?_ _)
    all_goals (first | assumption | (simp; done) | (simp; omega))
  · repeat (first | with_reducible assumption | with_reducible exact Blk.new _ _ _ | with_reducible refine Blk.drew ?_ | with_reducible refine Blk.drewN ?_ _ | with_reducible refine Blk.set_ne ?_ _ ?_ | (with_reducible refine Blk.new' _ _ _ ?_; focus (simp; done)) | with_reducible refine Blk.alloc ?_ _)
    all_goals (first | assumption | (simp; done) | (simp; omega))
  · repeat (first | with_reducible assumption | with_reducible exact Blk.new _ _ _ | with_reducible refine Blk.drew ?_ | with_reducible refine Blk.drewN ?_ _ | with_reducible refine Blk.set_ne ?_ _ ?_ | (with_reducible refine Blk.new' _ _ _ ?_; focus (simp; done)) | with_reducible refine Blk.alloc ?_ _)
    all_goals (first | assumption | (simp; done) | (simp; omega))
  · repeat (first | with_reducible assumption | with_reducible exact Blk.new _ _ _ | with_reducible refine Blk.drew ?_ | with_reducible refine Blk.drewN ?_ _ | with_reducible refine Blk.set_ne ?_ _ ?_ | (with_reducible refine Blk.new' _ _ _ ?_; focus (simp; done)) | with_reducible refine Blk.alloc ?_ _)
    all_goals (first | assumption | (simp; done) | (simp; omega))
  · repeat (first | with_reducible assumption | with_reducible exact Blk.new _ _ _ | with_reducible refine Blk.drew ?_ | with_reducible refine Blk.drewN ?_ _ | with_reducible refine Blk.set_ne ?_ _ ?_ | (with_reducible refine Blk.new' _ _ _ ?_; focus (simp; done)) | with_reducible refine Blk.alloc ?_ _)
    all_goals (first | assumption | (simp; done) | (simp; omega))
  · repeat (first | with_reducible assumption | with_reducible exact Blk.new _ _ _ | with_reducible refine Blk.drew ?_ | with_reducible refine Blk.drewN ?_ _ | with_reducible refine Blk.set_ne ?_ _ ?_ | (with_reducible refine Blk.new' _ _ _ ?_; focus (simp; done)) | with_reducible refine Blk.alloc ?_ _)
    all_goals (first | assumption | (simp; done) | (simp; omega))
  · repeat (first | with_reducible assumption | with_reducible exact Blk.new _ _ _ | with_reducible refine Blk.drew ?_ | with_reducible refine Blk.drewN ?_ _ | with_reducible refine Blk.set_ne ?_ _ ?_ | (with_reducible refine Blk.new' _ _ _ ?_; focus (simp; done)) | with_reducible refine Blk.alloc ?_ _)
    all_goals (first | assumption | (simp; done) | (simp; omega))
  · repeat (first | with_reducible assumption | with_reducible exact Keeps.refl _ _ | with_reducible refine Keeps.drew ?_ | with_reducible refine Keeps.drewN ?_ _ | with_reducible refine Keeps.setCell ?_ ?_ _ | with_reducible refine Keeps.alloc ?_ ?_ _)
    all_goals (first | (simp; done) | (simp; omega) | (intro b hb; first | exact hb | omega | (simp; omega) | (simp only [World.size_alloc]; omega)))
  rintro W ⟨hB0, hB1, hB2, hB3, hB4, hB5, hB6, hB7, hB8, hk⟩
  generalize w.heap.size = b at *
  have hl8 := hB8.lt
  have hmW := Hm.out.keep hk hl1 hl2
  have HB0 := hid hB0
  have HB1 := hid hB1
  have HB2 := hid hB2
  have HB3 := hid hB3
  have HB4 := hid hB4
  have HB5 := hid hB5
  have Hk := hid hk
  clear hB0 hB1 hB2 hB3 hB4 hB5 hk
  refine (whole10 (K := fun x => K x ∨ (b ≤ x ∧ x < b + 9)) hmW (by rintro (h | h); exact hKm h; omega) (by rintro (h | h); exact hKc h; omega)
    (by rintro x (h | h); have := Hlt.out x h; omega; omega) _ _ enters_put10 (Tree.ret ()) Hideal.out (by omega)
    (fun w2 => Keeps (fun x => K x ∨ (b ≤ x ∧ x < b + 6)) W w2 ∧ (∃ oa : Int, Blk w2 (b + 1 + 1 + 1 + 1 + 1 + 1) [.int .i64 oa]) ∧ (∃ o : V6, Blk w2 (b + 1 + 1 + 1 + 1 + 1 + 1 + 1) [.int .i64 o.a0, .int .i64 o.a1, .int .i64 o.a2, .int .i64 o.a3, .int .i64 o.a4, .int .i64 o.a5]) ∧ ∃ oe : Int, Blk w2 (b + 1 + 1 + 1 + 1 + 1 + 1 + 1 + 1) [.int .i64 oe])
    (fun _ _ w2 => Blk w2 (b + 1 + 1 + 1 + 1 + 1 + 1) [.int .i64 0] ∧ Blk w2 (b + 1 + 1 + 1 + 1 + 1 + 1 + 1) [.int .i64 0, .int .i64 0, .int .i64 0, .int .i64 0, .int .i64 0, .int .i64 0] ∧ Blk w2 (b + 1 + 1 + 1 + 1 + 1 + 1 + 1 + 1) [.int .i64 3]) ⟨Keeps.refl _ _, ⟨_, hB6⟩, ⟨⟨0, 0, 0, 0, 0, 0⟩, hB7⟩, ⟨_, hB8⟩⟩
    (by rintro w2 w3 ⟨h1, ⟨oa, h2⟩, ⟨o, h3⟩, ⟨oe, h4⟩⟩ k; exact ⟨h1.trans (k.mono fun x hx => by rcases hx with h | h; exact Or.inl h; exact Or.inr ⟨h.1, by omega⟩), ⟨oa, h2.keep k (Or.inr ⟨by omega, by omega⟩)⟩, ⟨o, h3.keep k (Or.inr ⟨by omega, by omega⟩)⟩, ⟨oe, h4.keep k (Or.inr ⟨by omega, by omega⟩)⟩⟩)
    (by rintro r y w2 w3 hr ⟨h1, h2, h3⟩ k; exact ⟨h1.keep k (fun e => hr (e ▸ Or.inr ⟨by omega, by omega⟩)), h2.keep k (fun e => hr (e ▸ Or.inr ⟨by omega, by omega⟩)), h3.keep k (fun e => hr (e ▸ Or.inr ⟨by omega, by omega⟩))⟩) ?_).mono ?_
  · rintro w2 r s2 ⟨h1, ⟨oa, g2⟩, ⟨o, g3⟩, ⟨oe, g4⟩⟩ hR
    refine (put1_full hR b (b + 1) (b + 1 + 1) (b + 1 + 1 + 1) (b + 1 + 1 + 1 + 1) (b + 1 + 1 + 1 + 1 + 1 + 1) (b + 1 + 1 + 1 + 1 + 1 + 1 + 1) (b + 1 + 1 + 1 + 1 + 1 + 1 + 1 + 1) p u o s sl oa oe t ht h0 hu H2.out h3 (HB0.out.keep h1 (Or.inr ⟨by omega, by omega⟩)) (HB1.out.keep h1 (Or.inr ⟨by omega, by omega⟩)) (HB2.out.keep h1 (Or.inr ⟨by omega, by omega⟩)) (HB3.out.keep h1 (Or.inr ⟨by omega, by omega⟩)) (HB4.out.keep h1 (Or.inr ⟨by omega, by omega⟩)) g2 g3 g4 (Or.inr ⟨by omega, by omega⟩) (Or.inr ⟨by omega, by omega⟩) (Or.inr ⟨by omega, by omega⟩) (by omega) (by omega) (by omega)).mono ?_
    rintro e w3 ⟨rfl, g1, g2, g3, g4, g5⟩
    refine ⟨rfl, g1, ⟨h1.trans (g2.mono fun x hx => ?_), ⟨_, g3⟩, ⟨⟨0, 0, 0, 0, 0, 0⟩, g4⟩, ⟨_, g5⟩⟩, g3, g4, g5⟩
    rcases hx with h | h
    · have := Hlt.out x h; exact ⟨Or.inl h, by omega, by omega, by omega⟩
    · exact ⟨Or.inr ⟨h.1, by omega⟩, by omega, by omega, by omega⟩
  rintro e w4 ⟨rfl, hmem, ⟨hJ1, _⟩, ⟨r, _, hO1, hO2, hO3⟩, _⟩
  have hB5' := HB5.out.keep hJ1 (Or.inr ⟨by omega, by omega⟩)
  have ca0 := (hO1).cell 0
  simp only [List.getElem?_cons_zero, List.getElem?_cons_succ] at ca0
  have cu0 := (hO2).cell 0
  have cu1 := (hO2).cell 1
  have cu2 := (hO2).cell 2
  have cu3 := (hO2).cell 3
  have cu4 := (hO2).cell 4
  have cu5 := (hO2).cell 5
  simp only [List.getElem?_cons_zero, List.getElem?_cons_succ] at cu0 cu1 cu2 cu3 cu4 cu5
  have ce0 := (hO3).cell 0
  simp only [List.getElem?_cons_zero, List.getElem?_cons_succ] at ce0
  have f5 := hB5'.free
  have z0 := (hB5').cell 0
  have z1 := (hB5').cell 1
  have z2 := (hB5').cell 2
  have z3 := (hB5').cell 3
  have z4 := (hB5').cell 4
  have z5 := (hB5').cell 5
  simp only [List.getElem?_cons_zero, List.getElem?_cons_succ] at z0 z1 z2 z3 z4 z5
  have hkf : Keeps K w w4 := (Hk.out.mono Hlt.out).trans (hJ1.mono fun x hx => Or.inl hx)
  have hl4 : b + 1 + 1 + 1 + 1 + 1 < w4.heap.size := hB5'.lt
  have Hkf := hid hkf
  clear hkf
  obtain ⟨μ', hm4, hc4⟩ := hmem
  have Hm4 := hid hm4
  have Hc4 := hid hc4
  clear hm4 hc4
  clear hO1 hO2 hO3 hJ1
  go_wp2_with fail
  go_region
  go_wp2_with fail
  refine bp_gen (fun W => Blk W (b + 1 + 1 + 1 + 1 + 1) [.int .i64 0, .int .i64 0, .int .i64 0, .int .i64 0, .int .i64 0, .int .i64 0] ∧ Keeps K w W ∧ MemAt W m c μ') ⟨?_, ?_, ?_⟩ ?_
  · repeat (first | with_reducible assumption | with_reducible exact Blk.new _ _ _ | with_reducible refine Blk.drew ?_ | with_reducible refine Blk.drewN ?_ _ | with_reducible refine BlkN.set1 ?_ _ | with_reducible refine BlkN.set6 ?_ _ _ _ _ _ _ | with_reducible exact BlkN.of1 (by with_reducible assumption) | with_reducible exact BlkN.of6 (by with_reducible assumption) | with_reducible refine BlkN.drew ?_ | with_reducible refine BlkN.drewN ?_ _ | with_reducible refine BlkN.set_ne ?_ _ ?_ | with_reducible refine BlkN.alloc ?_ _ | with_reducible refine Blk.set_ne ?_ _ ?_ | (with_reducible refine Blk.new' _ _ _ ?_; focus (simp; done)) | with_reducible refine Blk.alloc ?_ _)
    all_goals (first | assumption | (simp; done) | (simp; omega))
  · repeat (first | with_reducible exact Hkf.out | with_reducible refine Keeps.drew ?_ | with_reducible refine Keeps.setCell ?_ ?_ _)
    all_goals (intro hb; have := Hlt.out _ hb; simp at this; omega)
  · refine Hm4.out.keep (K := fun x => x ≠ b + 1 + 1 + 1 + 1 + 1) ?_ (by omega) (by omega)
    repeat (first | with_reducible exact Keeps.refl _ _ | with_reducible refine Keeps.drew ?_ | with_reducible refine Keeps.setCell ?_ ?_ _)
    all_goals simp
  clear ca0 cu0 cu1 cu2 cu3 cu4 cu5 ce0 z0 z1 z2 z3 z4 z5 f5 hB5'
  rintro W2 ⟨g1, g2, g3⟩
  have d0 := (g1).cell 0
  have d1 := (g1).cell 1
  have d2 := (g1).cell 2
  have d3 := (g1).cell 3
  have d4 := (g1).cell 4
  have d5 := (g1).cell 5
  simp only [List.getElem?_cons_zero, List.getElem?_cons_succ] at d0 d1 d2 d3 d4 d5
  refine bodyPost_ret (v := .tuple #[.int .i64 0, .agg #[.int .i64 0, .int .i64 0, .int .i64 0, .int .i64 0, .int .i64 0, .int .i64 0], .int .i64 3]) ?_ rfl ?_
  · simp [results, Try.results43, go_sem, d0, d1, d2, d3, d4, d5]
  · exact hR'.out _ _ ⟨rfl, ⟨μ', g3, Hc4.out⟩, g2⟩
end Go.Proofs.Ytjnaibmnpajfdaa
