/- Layer 10's statements: find, put, plan. -/
import Derived.Test.YtjnaibmnpajfdaaDictB
import Derived.Test.YtjnaibmnpajfdaaWhole10
import Derived.Test.YtjnaibmnpajfdaaDictQ
import Derived.Shelf.Abstract
namespace Go.Proofs.Ytjnaibmnpajfdaa
open Go.RowKit

theorem enters_find10 : ∀ (args : Array Value) (w : World), (callFunc 70 args).run Try.prog w = .ok (.enter 70 args) w :=
  enters_of Try.func70 (by kernel_rfl) rfl
theorem enters_put10 : ∀ (args : Array Value) (w : World), (callFunc 71 args).run Try.prog w = .ok (.enter 71 args) w :=
  enters_of Try.func71 (by kernel_rfl) rfl

set_option maxRecDepth 100000 in
set_option maxHeartbeats 1000000 in
theorem find1_call {w : World} {K : Nat → Prop} {r m c : Nat} {s : St} (h : RM w K r m c s) (ps pn pk pa pl : Nat) (s0 : Int) (n : Nat) (t : ByteArray) (o1 o2 : Int) (hs : 0 ≤ s0 ∧ s0 ≤ 65536) (hn : 1 ≤ n ∧ n ≤ 65536) (ht : t.size ≤ 140737488351232)
    (hbs : Blk w ps [.int .i64 s0]) (hbn : Blk w pn [.int .i64 n]) (hbk : Blk w pk [.string t]) (hba : Blk w pa [.int .i64 o1]) (hbl : Blk w pl [.int .i64 o2]) (hKa : K pa) (hKl : K pl) (hne : pa ≠ pl) :
    Calls Try.prog 70 #[.pointer (some ⟨r, 0, none⟩), .pointer (some ⟨ps, 0, none⟩), .pointer (some ⟨pn, 0, none⟩), .pointer (some ⟨pk, 0, none⟩), .pointer (some ⟨pa, 0, none⟩), .pointer (some ⟨pl, 0, none⟩)] w fun e w' =>
      e = .returned (.tuple #[]) ∧ RM w' K r m c ((findD s0 n (homeD n (bsL t)) (packC (bsL t)) t.size n 0).exec s).2 ∧ Keeps (fun x => K x ∧ x ≠ pa ∧ x ≠ pl) w w' ∧
        Blk w' pa [.int .i64 ((findD s0 n (homeD n (bsL t)) (packC (bsL t)) t.size n 0).exec s).1.1] ∧ Blk w' pl [.int .i64 ((findD s0 n (homeD n (bsL t)) (packC (bsL t)) t.size n 0).exec s).1.2] := by
  have cs0 := (hbs).cell 0
  simp only [List.getElem?_cons_zero, List.getElem?_cons_succ] at cs0
  have cn0 := (hbn).cell 0
  simp only [List.getElem?_cons_zero, List.getElem?_cons_succ] at cn0
  have ck0 := (hbk).cell 0
  simp only [List.getElem?_cons_zero, List.getElem?_cons_succ] at ck0
  generalize hres : (findD s0 n (homeD n (bsL t)) (packC (bsL t)) t.size n 0).exec s = res
  have Hres := hid hres
  clear hres
  clear hbs hbn hbk
  refine calls_hide fun R' hR' => ?_
  go_enter Try.func70, Try.ntmps70
  go_wp2_with fail
  refine (dict_find h s0 n t hs hn ht).mono ?_
  rintro e w1 ⟨rfl, hR, hK⟩
  rw [Hres.out] at *
  have hA := hba.keep hK hKa
  have hL := hbl.keep hK hKl
  clear cs0 cn0 ck0 hba hbl
  have ca0 := (hA).cell 0
  simp only [List.getElem?_cons_zero, List.getElem?_cons_succ] at ca0
  have cl0 := (hL).cell 0
  simp only [List.getElem?_cons_zero, List.getElem?_cons_succ] at cl0
  have fa := hA.free
  have fl := hL.free
  have hne' := hne.symm
  go_wp2_with fail
  go_end0
  have k1 : Keeps (fun x => K x ∧ x ≠ pa ∧ x ≠ pl) w1 ((w1.setCell ⟨pa, 0, none⟩ (.int .i64 res.1.1)).setCell ⟨pl, 0, none⟩ (.int .i64 res.1.2)) :=
    ((Keeps.refl _ _).setCell (by simp) _).setCell (by simp) _
  refine hR'.out _ _ ⟨rfl, (hR.setK (a := ⟨pa, 0, none⟩) hKa _).setK (a := ⟨pl, 0, none⟩) hKl _, (hK.mono fun b hb => hb.1).trans k1, ?_, ?_⟩
  · simpa using (hA.set 0 (.int .i64 res.1.1)).set_ne (a := ⟨pl, 0, none⟩) (.int .i64 res.1.2) hne
  · simpa using (hL.set_ne (a := ⟨pa, 0, none⟩) (.int .i64 res.1.1) hne').set 0 (.int .i64 res.1.2)

/-- 'find' at cells that hold a table -/
theorem find10 {w : World} {K : Nat → Prop} {m c : Nat} {μ : MemS} (hm : MemAt w m c μ) (hKm : ¬ K m) (hKc : ¬ K c) (hlt : ∀ b, K b → b < w.heap.size) {s n lo hi : Nat} {T : Tab} (R : Rep μ.cells s n T lo hi) (t : ByteArray)
    (hs : s ≤ 65536) (hn : 1 ≤ n ∧ n ≤ 16) (ht : t.size ≤ 140737488351232) :
    Calls Try.prog 42 #[.pointer (some ⟨m, 0, none⟩), .int .i64 s, .int .i64 n, .string t] w fun e w' =>
      e = .returned (.tuple #[.int .i64 (probe T n (homeD n (bsL t)) (bsL t) n 0).1, .int .i64 (probe T n (homeD n (bsL t)) (bsL t) n 0).2, .bool true]) ∧ (∃ μ', MemAt w' m c μ' ∧ μ'.cells = μ.cells) ∧ Keeps K w w' := by
  obtain ⟨cnt, hcnt, hideal⟩ := findD_ideal R (by omega) (homeD n (bsL t)) (bsL t) (fun x hx => bsL_range t x hx) n 0
  rw [bsL_len] at hideal
  generalize hpr : probe T n (homeD n (bsL t)) (bsL t) n 0 = pr at *
  have hl1 := hm.obj.lt
  have hl2 := hm.cells.lt
  have Hm := hid hm
  have Hideal := hid hideal
  have Hpr := hid hpr
  have Hlt := hid hlt
  have Hs := hid hs
  have Hn := hid hn
  have Ht := hid ht
  have R := hid R
  clear hm hideal hpr hlt hs hn ht R
  refine calls_hide fun R' hR' => ?_
  go_enter Try.func42, Try.ntmps42
  go_wp2_with fail
  refine calls_gen (fun W => Blk W w.heap.size [.int .i64 s] ∧ Blk W (w.heap.size + 1) [.int .i64 n] ∧ Blk W (w.heap.size + 1 + 1) [.string t] ∧ Blk W (w.heap.size + 1 + 1 + 1) [.int .i64 0] ∧ Blk W (w.heap.size + 1 + 1 + 1 + 1) [.int .i64 0] ∧ Keeps (· < w.heap.size) w W) ⟨?_, ?_, ?_, ?_, ?_, ?_⟩ ?_
  · repeat (first | with_reducible assumption | with_reducible exact Blk.new _ _ _ | with_reducible refine Blk.drew ?_ | with_reducible refine Blk.drewN ?_ _ | with_reducible refine Blk.set_ne ?_ _ ?_ | (with_reducible refine Blk.new' _ _ _ ?_; focus (simp; done)) | with_reducible refine Blk.alloc ?_ _)
    all_goals (first | assumption | (simp; done) | (simp; omega))
  · repeat (first | with_reducible assumption | with_reducible exact Blk.new _ _ _ | with_reducible refine Blk.drew ?_ | with_reducible refine Blk.drewN ?_ _ | with_reducible refine Blk.set_ne ?_ _ ?_ | (with_reducible refine Blk.new' _ _ _ ?_; focus (simp; done)) | with_reducible refine Blk.alloc ?_ _)
    all_goals (first | assumption | (simp; done) | (simp; omega))
  · repeat (first | with_reducible assumption | with_reducible exact Blk.new _ _ _ | with_reducible refine Blk.drew ?_ | with_reducible refine Blk.drewN ?_ _ | with_reducible refine Blk.set_ne ?_ _ ?_ | (with_reducible refine Blk.new' _ _ _ ?_; focus (simp; done)) | with_reducible refine Blk.alloc ?_ _)
    all_goals (first | assumption | (simp; done) | (simp; omega))
  · repeat (first | with_reducible assumption | with_reducible exact Blk.new _ _ _ | with_reducible refine Blk.drew ?_ | with_reducible refine Blk.drewN ?_ _ | with_reducible refine Blk.set_ne ?_ _ ?_ | (with_reducible refine Blk.new' _ _ _ ?_; focus (simp; done)) | with_reducible refine Blk.alloc ?_ _)
    all_goals (first | assumption | (simp; done) | (simp; omega))
  · repeat (first | with_reducible assumption | with_reducible exact Blk.new _ _ _ | with_reducible refine Blk.drew ?_ | with_reducible refine Blk.drewN ?_ _ | with_reducible refine Blk.set_ne ?_ _ ?_ | (with_reducible refine Blk.new' _ _ _ ?_; focus (simp; done)) | with_reducible refine Blk.alloc ?_ _)
    all_goals (first | assumption | (simp; done) | (simp; omega))
  · repeat (first | with_reducible assumption | with_reducible exact Keeps.refl _ _ | with_reducible refine Keeps.drew ?_ | with_reducible refine Keeps.drewN ?_ _ | with_reducible refine Keeps.setCell ?_ ?_ _ | with_reducible refine Keeps.alloc ?_ ?_ _)
    all_goals (first | (simp; done) | (simp; omega) | (intro b hb; first | exact hb | omega | (simp; omega) | (simp only [World.size_alloc]; omega)))
  rintro W ⟨hB0, hB1, hB2, hB3, hB4, hk⟩
  generalize w.heap.size = b at *
  have hl4 := hB4.lt
  have hmW := Hm.out.keep hk hl1 hl2
  have HB0 := hid hB0
  have HB1 := hid hB1
  have HB2 := hid hB2
  have Hk := hid hk
  clear hB0 hB1 hB2 hk
  refine (whole10 (K := fun x => K x ∨ (b ≤ x ∧ x < b + 5)) hmW (by rintro (h | h); exact hKm h; omega) (by rintro (h | h); exact hKc h; omega)
    (by rintro x (h | h); have := Hlt.out x h; omega; omega) _ _ enters_find10 (findD s n (homeD n (bsL t)) (packC (bsL t)) t.size n 0) Hideal.out (by have := Hn.out; omega)
    (fun w2 => Keeps (fun x => K x ∨ (b ≤ x ∧ x < b + 3)) W w2 ∧ (∃ o1 : Int, Blk w2 (b + 1 + 1 + 1) [.int .i64 o1]) ∧ ∃ o2 : Int, Blk w2 (b + 1 + 1 + 1 + 1) [.int .i64 o2])
    (fun _ y w2 => Blk w2 (b + 1 + 1 + 1) [.int .i64 y.1] ∧ Blk w2 (b + 1 + 1 + 1 + 1) [.int .i64 y.2]) ⟨Keeps.refl _ _, ⟨_, hB3⟩, ⟨_, hB4⟩⟩
    (by rintro w2 w3 ⟨h1, ⟨o1, h2⟩, ⟨o2, h3⟩⟩ k; exact ⟨h1.trans (k.mono fun x hx => by rcases hx with h | h; exact Or.inl h; exact Or.inr ⟨h.1, by omega⟩), ⟨o1, h2.keep k (Or.inr ⟨by omega, by omega⟩)⟩, ⟨o2, h3.keep k (Or.inr ⟨by omega, by omega⟩)⟩⟩)
    (by rintro r y w2 w3 hr ⟨h1, h2⟩ k; exact ⟨h1.keep k (fun e => hr (e ▸ Or.inr ⟨by omega, by omega⟩)), h2.keep k (fun e => hr (e ▸ Or.inr ⟨by omega, by omega⟩))⟩) ?_).mono ?_
  · rintro w2 r s2 ⟨h1, ⟨o1, h2⟩, ⟨o2, h3⟩⟩ hR
    refine (find1_call hR b (b + 1) (b + 1 + 1) (b + 1 + 1 + 1) (b + 1 + 1 + 1 + 1) s n t o1 o2 (by have := Hs.out; omega) (by have := Hn.out; omega) Ht.out (HB0.out.keep h1 (Or.inr ⟨by omega, by omega⟩)) (HB1.out.keep h1 (Or.inr ⟨by omega, by omega⟩)) (HB2.out.keep h1 (Or.inr ⟨by omega, by omega⟩)) h2 h3 (Or.inr ⟨by omega, by omega⟩) (Or.inr ⟨by omega, by omega⟩) (by omega)).mono ?_
    rintro e w3 ⟨rfl, g1, g2, g3, g4⟩
    refine ⟨rfl, g1, ⟨h1.trans (g2.mono fun x hx => ?_), ⟨_, g3⟩, ⟨_, g4⟩⟩, g3, g4⟩
    rcases hx with h | h
    · have := Hlt.out x h; exact ⟨Or.inl h, by omega, by omega⟩
    · exact ⟨Or.inr ⟨h.1, by omega⟩, by omega, by omega⟩
  rintro e w4 ⟨rfl, hmem, ⟨hJ1, _⟩, ⟨r, _, hO1, hO2⟩, _⟩
  have ca0 := (hO1).cell 0
  simp only [List.getElem?_cons_zero, List.getElem?_cons_succ] at ca0
  have cl0 := (hO2).cell 0
  simp only [List.getElem?_cons_zero, List.getElem?_cons_succ] at cl0
  have hkf : Keeps K w w4 := (Hk.out.mono Hlt.out).trans (hJ1.mono fun x hx => Or.inl hx)
  have Hkf := hid hkf
  have Hmem := hid hmem
  clear hkf hmem
  clear hO1 hO2 hJ1
  go_wp2_with fail
  go_region
  go_wp2_with fail
  obtain ⟨μ', g1, g2⟩ := Hmem.out
  exact hR'.out _ _ ⟨rfl, ⟨μ', g1.keep (K := fun _ => True) ((Keeps.refl _ _).drew) trivial trivial, g2⟩, Hkf.out.drew⟩
end Go.Proofs.Ytjnaibmnpajfdaa
