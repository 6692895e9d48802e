/- Layer 10's statements: read. -/
import Derived.Test.YtjnaibmnpajfdaaRead
import Derived.Test.YtjnaibmnpajfdaaFix10
namespace Go.Proofs.Ytjnaibmnpajfdaa
open Go.RowKit

theorem enters_read10 : ∀ (args : Array Value) (w : World), (callFunc 75 args).run Try.prog w = .ok (.enter 75 args) w :=
  enters_of Try.func75 (by kernel_rfl) rfl

set_option maxHeartbeats 400000 in
theorem read1_call {w : World} {K : Nat → Prop} {r m c : Nat} {s : St} (h : RM w K r m c s) (pr ps : Nat) (a : Nat) (ha : a ≤ 131072) (o : ByteArray) (hbr : Blk w pr [.int .i64 a]) (hbs : Blk w ps [.string o]) (hKs : K ps) :
    Calls Try.prog 75 #[.pointer (some ⟨r, 0, none⟩), .pointer (some ⟨pr, 0, none⟩), .pointer (some ⟨ps, 0, none⟩)] w fun e w' =>
      e = .returned (.tuple #[]) ∧ RM w' K r m c ((readD a).exec s).2 ∧ Keeps (fun x => K x ∧ x ≠ ps) w w' ∧ Blk w' ps [.string ((readD a).exec s).1] := by
  have a0 := (hbr).cell 0
  simp only [List.getElem?_cons_zero, List.getElem?_cons_succ] at a0
  have hd := dict_read h a ha
  generalize (readD (a : Int)).exec s = res at *
  have Hd := hid hd
  clear hd
  clear hbr
  refine calls_hide fun R' hR' => ?_
  go_enter Try.func75, Try.ntmps75
  go_wp2_with fail
  refine (Hd.out).mono ?_
  rintro e w1 ⟨rfl, hR, hK⟩
  have hG := hbs.keep hK hKs
  clear a0 hbs
  have g0 := (hG).cell 0
  simp only [List.getElem?_cons_zero, List.getElem?_cons_succ] at g0
  have fg := hG.free
  go_wp2_with fail
  go_end0
  have k1 : Keeps (fun x => K x ∧ x ≠ ps) w1 (w1.setCell ⟨ps, 0, none⟩ (.string res.1)) := (Keeps.refl _ _).setCell (by simp) _
  refine hR'.out _ _ ⟨rfl, hR.setK (a := ⟨ps, 0, none⟩) hKs _, (hK.mono fun b hb => hb.1).trans k1, ?_⟩
  simpa using hG.set 0 (.string res.1)

set_option maxRecDepth 100000 in
set_option maxHeartbeats 1000000 in
theorem read10 {w : World} {K : Nat → Prop} {m c : Nat} {μ : MemS} (hm : MemAt w m c μ) (hKm : ¬ K m) (hKc : ¬ K c) (hlt : ∀ b, K b → b < w.heap.size) {s n lo hi : Nat} {T : Tab} (R : Rep μ.cells s n T lo hi) {i a : Nat} {t : ByteArray}
    (hi' : i < n) (e : T i = some (bsL t, a)) (ha : a ≤ 131072) :
    Calls Try.prog 51 #[.pointer (some ⟨m, 0, none⟩), .int .i64 a] w fun e w' =>
      e = .returned (.tuple #[.string (if t.size ≤ 17 then t else ⟨#[]⟩), .bool true]) ∧ (∃ μ', MemAt w' m c μ' ∧ μ'.cells = μ.cells) ∧ Keeps K w w' := by
  obtain ⟨cnt, hcnt, hideal⟩ := readD_ideal R hi' e
  generalize (if t.size ≤ 17 then t else (⟨#[]⟩ : ByteArray)) = res at *
  have hl1 := hm.obj.lt
  have hl2 := hm.cells.lt
  have Hm := hid hm
  have Hideal := hid hideal
  have Hlt := hid hlt
  have R := hid R
  have E := hid e
  clear hm hideal hlt R e
  refine calls_hide fun R' hR' => ?_
  go_enter Try.func51, Try.ntmps51
  go_wp2_with fail
  refine calls_gen (fun W => Blk W w.heap.size [.int .i64 a] ∧ Blk W (w.heap.size + 1) [.string ⟨#[]⟩] ∧ Keeps (· < w.heap.size) w W) ⟨?_, ?_, ?_⟩ ?_
  · repeat (first | with_reducible assumption | with_reducible exact Blk.new _ _ _ | with_reducible refine Blk.drew ?_ | with_reducible refine Blk.drewN ?_ _ | with_reducible refine Blk.set_ne ?_ _ ?_ | (with_reducible refine Blk.new' _ _ _ ?_; focus (simp; done)) | with_reducible refine Blk.alloc ?_ _)
    all_goals (first | assumption | (simp; done) | (simp; omega))
  · repeat (first | with_reducible assumption | with_reducible exact Blk.new _ _ _ | with_reducible refine Blk.drew ?_ | with_reducible refine Blk.drewN ?_ _ | with_reducible refine Blk.set_ne ?_ _ ?_ | (with_reducible refine Blk.new' _ _ _ ?_; focus (simp; done)) | with_reducible refine Blk.alloc ?_ _)
    all_goals (first | assumption | (simp; done) | (simp; omega))
  · repeat (first | with_reducible assumption | with_reducible exact Keeps.refl _ _ | with_reducible refine Keeps.drew ?_ | with_reducible refine Keeps.drewN ?_ _ | with_reducible refine Keeps.setCell ?_ ?_ _ | with_reducible refine Keeps.alloc ?_ ?_ _)
    all_goals (first | (simp; done) | (simp; omega) | (intro b hb; first | exact hb | omega | (simp; omega) | (simp only [World.size_alloc]; omega)))
  rintro W ⟨hB0, hB1, hk⟩
  generalize w.heap.size = b at *
  have hl4 := hB1.lt
  have hmW := Hm.out.keep hk hl1 hl2
  have HB0 := hid hB0
  have HB1 := hid hB1
  have Hk := hid hk
  clear hB0 hB1 hk
  refine (whole10 (K := fun x => K x ∨ (b ≤ x ∧ x < b + 2)) hmW (by rintro (h | h); exact hKm h; omega) (by rintro (h | h); exact hKc h; omega)
    (by rintro x (h | h); have := Hlt.out x h; omega; omega) _ _ enters_read10 (readD a) Hideal.out (by omega)
    (fun w2 => Keeps (fun x => K x ∨ x = b) W w2 ∧ (∃ o : ByteArray, Blk w2 (b + 1) [.string o]))
    (fun _ y w2 => Blk w2 (b + 1) [.string y]) ⟨Keeps.refl _ _, ⟨_, HB1.out⟩⟩
    (by rintro w2 w3 ⟨h1, ⟨o1, h2⟩⟩ k; exact ⟨h1.trans (k.mono fun x hx => by rcases hx with h | h; exact Or.inl h; exact Or.inr ⟨by omega, by omega⟩), ⟨o1, h2.keep k (Or.inr ⟨by omega, by omega⟩)⟩⟩)
    (by rintro r y w2 w3 hr h1 k; exact h1.keep k (fun e => hr (e ▸ Or.inr ⟨by omega, by omega⟩))) ?_).mono ?_
  · rintro w2 r s2 ⟨h1, ⟨o1, h2⟩⟩ hR
    refine (read1_call hR b (b + 1) a ha o1 (HB0.out.keep h1 (Or.inr rfl)) h2 (Or.inr ⟨by omega, by omega⟩)).mono ?_
    rintro e w3 ⟨rfl, g1, g2, g3⟩
    refine ⟨rfl, g1, ⟨h1.trans (g2.mono fun x hx => ?_), ⟨_, g3⟩⟩, g3⟩
    rcases hx with h | h
    · have := Hlt.out x h; exact ⟨Or.inl h, by omega⟩
    · exact ⟨Or.inr ⟨by omega, by omega⟩, by omega⟩
  rintro e w4 ⟨rfl, hmem, ⟨hJ1, _⟩, ⟨r, _, hO1⟩, _⟩
  have ca0 := (hO1).cell 0
  simp only [List.getElem?_cons_zero, List.getElem?_cons_succ] at ca0
  have hkf : Keeps K w w4 := (Hk.out.mono Hlt.out).trans (hJ1.mono fun x hx => Or.inl hx)
  have Hkf := hid hkf
  have Hmem := hid hmem
  clear hkf hmem
  clear hO1 hJ1
  go_wp2_with fail
  obtain ⟨μ', g1, g2⟩ := Hmem.out
  exact hR'.out _ _ ⟨rfl, ⟨μ', g1, g2⟩, Hkf.out⟩
end Go.Proofs.Ytjnaibmnpajfdaa
