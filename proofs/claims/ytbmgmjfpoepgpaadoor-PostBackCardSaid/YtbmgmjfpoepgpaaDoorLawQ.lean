/- Layer 9's statements: walk, at once. Printed by gen/lawq.py. -/
import Derived.Test.YtbmgmjfpoepgpaaDoorPostQ
import Derived.Test.YtbmgmjfpoepgpaaDoorWhole09
import Derived.Shelf.Abstract
namespace Go.Proofs.YtbmgmjfpoepgpaaDoor
open Go.RowKit

theorem enters_walk09 : ∀ (args : Array Value) (w : World), (callFunc 38 args).run Tryd.prog w = .ok (.enter 38 args) w :=
  enters_of Tryd.func38 (by kernel_rfl) rfl

set_option maxRecDepth 100000 in
set_option maxHeartbeats 2000000 in
theorem walk1_call {w : World} {K : Nat → Prop} {r m c : Nat} {s : St} (h : RM w K r m c s) (hK0 : K 0) (hT : Tab w) (pp pt pl : Nat) (p : PlanM) (hp : p.Wf) (t : Int) (g0 : Value) (ht0 : -9223372036854775808 ≤ t ∧ t ≤ 9223372036854775807) (n : Nat) (hn : p.cells = n) (hn2 : n ≤ 65536)
    (hbp : Blk w pp [.int .i64 p.base.a0, .int .i64 p.base.a1, .int .i64 p.base.a2, .int .i64 p.base.a3, .int .i64 p.base.a4, .int .i64 p.base.a5, .int .i64 p.size.a0, .int .i64 p.size.a1, .int .i64 p.size.a2, .int .i64 p.size.a3, .int .i64 p.size.a4, .int .i64 p.size.a5, .int .i64 p.cells, .int .i64 p.slots, .int .i64 p.live]) (hbt : Blk w pt [.int .i64 t]) (hbl : Blk w pl [g0]) (hKl : K pl) :
    Calls Tryd.prog 38 #[.pointer (some ⟨r, 0, none⟩), .pointer (some ⟨pp, 0, none⟩), .pointer (some ⟨pt, 0, none⟩), .pointer (some ⟨pl, 0, none⟩)] w fun e w' =>
      e = .returned (.tuple #[]) ∧ RM w' K r m c ((walkT p n t []).exec s).2 ∧ Keeps (fun x => K x ∧ x ≠ pl) w w' ∧ ∃ g, Blk w' pl [g] ∧ SlAt w' (· ≠ r) 1 g ((walkT p n t []).exec s).1.length (((walkT p n t []).exec s).1.map (Value.int .u32)) := by
  have cp0 := (hbp).cell 0
  have cp1 := (hbp).cell 1
  have cp2 := (hbp).cell 2
  have cp3 := (hbp).cell 3
  have cp4 := (hbp).cell 4
  have cp5 := (hbp).cell 5
  have cp6 := (hbp).cell 6
  have cp7 := (hbp).cell 7
  have cp8 := (hbp).cell 8
  have cp9 := (hbp).cell 9
  have cp10 := (hbp).cell 10
  have cp11 := (hbp).cell 11
  have cp12 := (hbp).cell 12
  have cp13 := (hbp).cell 13
  have cp14 := (hbp).cell 14
  simp only [List.getElem?_cons_zero, List.getElem?_cons_succ] at cp0 cp1 cp2 cp3 cp4 cp5 cp6 cp7 cp8 cp9 cp10 cp11 cp12 cp13 cp14
  have cs0 := (hbt).cell 0
  simp only [List.getElem?_cons_zero] at cs0
  have hcon := walk_call h hK0 hT p hp t ht0 n hn hn2
  obtain ⟨ws, s2, hx⟩ : ∃ ws s2, (walkT p n t []).exec s = (ws, s2) := ⟨_, _, rfl⟩
  rw [hx] at hcon ⊢
  clear hx
  have Hcon := hid hcon
  clear hcon
  have HKR := hid h.kr
  clear hbp hbt
  unfold PlanM.val at Hcon
  have HNC := hid hn
  clear hn
  refine calls_hide fun R' hR' => ?_
  go_enter Tryd.func38, Tryd.ntmps38
  go_wp2_with fail
  refine Hcon.out.mono ?_
  rintro e w1 ⟨g, rfl, hR, hO, hK, -⟩
  obtain ⟨gA, gc, rfl⟩ := hO.form
  dsimp only at *
  have hL := hbl.keep hK hKl
  have hgr : ∀ b, (Value.slice gA ws.length gc).ownBlock = some b → b ≠ r := fun b hb e => hR.kr (Or.inr (e ▸ hb))
  have hS := hO.slAt (L := fun b => b ≠ r ∧ b ≠ pl) (fun b hb => ⟨hgr b hb, fun e => hO.2 b hb (e ▸ hKl)⟩)
  have hR1 : RM w1 K r m c s2 := hR.mono fun b hb => Or.inl hb
  clear cp0 cp1 cp2 cp3 cp4 cp5 cp6 cp7 cp8 cp9 cp10 cp11 cp12 cp13 cp14 cs0 hbl hgr hO hR
  have hK' : Keeps (fun x => K x ∧ x ≠ pl) w w1 := hK.mono fun b hb => hb.1
  have cl0 := (hL).cell 0
  simp only [List.getElem?_cons_zero] at cl0
  have fl := hL.free
  have HS := hid hS
  have HR1 := hid hR1
  have HK' := hid hK'
  clear hS hR1 hK'
  clear hK
  go_wp2_with fail
  refine bp_gen (fun W => Blk W pl [.slice gA ws.length gc] ∧ SlAt W (· ≠ r) 1 (.slice gA ws.length gc) ws.length (ws.map (Value.int .u32)) ∧ Keeps (fun x => K x ∧ x ≠ pl) w W ∧ RM W K r m c s2) ⟨?_, ?_, ?_, ?_⟩ ?_
  · exact hL.set 0 _
  · exact (HS.out.keep ((Keeps.refl (· ≠ pl) _).setCell (by simp) _) (fun b hb => hb.2)).mono fun b hb => hb.1
  · exact HK'.out.setCell (by simp) _
  · exact HR1.out.setK hKl _
  rintro W ⟨g1, g2, g3, g4⟩
  go_end0
  exact hR'.out _ _ ⟨rfl, g4, g3, _, g1, g2⟩

set_option maxRecDepth 100000 in
set_option maxHeartbeats 4000000 in
theorem walk09 {w : World} {K : Nat → Prop} {m c : Nat} {μ : MemS} (hm : MemAt w m c μ) (hKm : ¬ K m) (hKc : ¬ K c) (hlt : ∀ b, K b → b < w.heap.size) (hK0 : K 0) (hT : Tab w) (p : PlanM) (hp : p.Wf) (t : Int) (ht0 : -9223372036854775808 ≤ t ∧ t ≤ 9223372036854775807)
    (nc : Nat) (hnc : p.cells = nc) (hn2 : nc ≤ 65536) {ws cs' : List Int} {n : Nat} (hideal : (walkT p nc t []).ideal μ.cells = some (ws, cs', n)) (hn : n ≤ 262143) :
    Calls Tryd.prog 13 #[.pointer (some ⟨m, 0, none⟩), p.val, .int .i64 t] w fun e w' =>
      ∃ g, e = .returned g ∧ SlAt w' (fun _ => True) 1 g ws.length (ws.map (Value.int .u32)) ∧ (∃ μ', MemAt w' m c μ' ∧ μ'.cells = cs') ∧ Keeps K w w' := by
  have hl1 := hm.obj.lt
  have hl2 := hm.cells.lt
  have Hm := hid hm
  have Hideal := hid hideal
  have Hlt := hid hlt
  clear hm hideal hlt
  have HT := hid hT
  have HNC := hid hnc
  clear hT hnc
  refine calls_hide fun R' hR' => ?_
  unfold PlanM.val
  go_enter Tryd.func13, Tryd.ntmps13
  go_wp2_with fail
  refine calls_gen (fun W => Blk W (w.heap.size) [.int .i64 p.base.a0, .int .i64 p.base.a1, .int .i64 p.base.a2, .int .i64 p.base.a3, .int .i64 p.base.a4, .int .i64 p.base.a5, .int .i64 p.size.a0, .int .i64 p.size.a1, .int .i64 p.size.a2, .int .i64 p.size.a3, .int .i64 p.size.a4, .int .i64 p.size.a5, .int .i64 p.cells, .int .i64 p.slots, .int .i64 p.live] ∧ Blk W (w.heap.size + 1) [.int .i64 t] ∧ Blk W (w.heap.size + 1 + 1) [.slice none 0 0] ∧ Keeps (· < w.heap.size) w W) ⟨?_, ?_, ?_, ?_⟩ ?_
  · repeat (first | with_reducible assumption | with_reducible exact Blk.new _ _ _ | with_reducible refine Blk.drew ?_ | with_reducible refine Blk.drewN ?_ _ | with_reducible refine Blk.set_ne ?_ _ ?_ | (with_reducible refine Blk.new' _ _ _ ?_; focus (simp; done)) | with_reducible refine Blk.alloc ?_ _)
    all_goals (first | assumption | (simp; done) | (simp; omega))
  · repeat (first | with_reducible assumption | with_reducible exact Blk.new _ _ _ | with_reducible refine Blk.drew ?_ | with_reducible refine Blk.drewN ?_ _ | with_reducible refine Blk.set_ne ?_ _ ?_ | (with_reducible refine Blk.new' _ _ _ ?_; focus (simp; done)) | with_reducible refine Blk.alloc ?_ _)
    all_goals (first | assumption | (simp; done) | (simp; omega))
  · repeat (first | with_reducible assumption | with_reducible exact Blk.new _ _ _ | with_reducible refine Blk.drew ?_ | with_reducible refine Blk.drewN ?_ _ | with_reducible refine Blk.set_ne ?_ _ ?_ | (with_reducible refine Blk.new' _ _ _ ?_; focus (simp; done)) | with_reducible refine Blk.alloc ?_ _)
    all_goals (first | assumption | (simp; done) | (simp; omega))
  · repeat (first | with_reducible assumption | with_reducible exact Keeps.refl _ _ | with_reducible refine Keeps.drew ?_ | with_reducible refine Keeps.drewN ?_ _ | with_reducible refine Keeps.setCell ?_ ?_ _ | with_reducible refine Keeps.alloc ?_ ?_ _)
    all_goals (first | (simp; done) | (simp; omega) | (intro b hb; first | exact hb | omega | (simp; omega) | (simp only [World.size_alloc]; omega)))
  rintro W ⟨hB0, hB1, hB2, hk⟩
  have hTW : Tab W := HT.out.keep hk HT.out.2.2.2.2
  generalize w.heap.size = b at *
  have hl3 := hB2.lt
  have hmW := Hm.out.keep hk hl1 hl2
  have HB0 := hid hB0
  have HB1 := hid hB1
  have Hk := hid hk
  have HTW := hid hTW
  clear hB0 hB1 hk hTW
  refine (whole09 (K := fun x => K x ∨ (b ≤ x ∧ x < b + 3)) hmW (by rintro (h | h); exact hKm h; omega) (by rintro (h | h); exact hKc h; omega)
    (by rintro x (h | h); have := Hlt.out x h; omega; omega) _ _ enters_walk09 (walkT p nc t []) Hideal.out hn
    (fun w2 => Keeps (fun x => K x ∨ (b ≤ x ∧ x < b + 2)) W w2 ∧ (∃ og : Value, Blk w2 (b + 1 + 1) [og]))
    (fun r y w2 => ∃ g, Blk w2 (b + 1 + 1) [g] ∧ SlAt w2 (· ≠ r) 1 g y.length (y.map (Value.int .u32))) ⟨Keeps.refl _ _, ⟨_, hB2⟩⟩
    (by rintro w2 w3 ⟨h1, ⟨og, h2⟩⟩ k; exact ⟨h1.trans (k.mono fun x hx => by rcases hx with h | h; exact Or.inl h; exact Or.inr ⟨h.1, by omega⟩), ⟨og, h2.keep k (Or.inr ⟨by omega, by omega⟩)⟩⟩)
    (by rintro r y w2 w3 hr ⟨g, h1, h2⟩ k; exact ⟨g, h1.keep k (fun e => hr (e ▸ Or.inr ⟨by omega, by omega⟩)), h2.keep k (fun b hb => hb)⟩) ?_).mono ?_
  · rintro w2 r s2 ⟨h1, ⟨og, g2⟩⟩ hR
    refine (walk1_call hR (Or.inl hK0) (HTW.out.keep h1 (Or.inl hK0)) b (b + 1) (b + 1 + 1) p hp t og ht0 nc HNC.out hn2 (HB0.out.keep h1 (Or.inr ⟨by omega, by omega⟩)) (HB1.out.keep h1 (Or.inr ⟨by omega, by omega⟩)) g2 (Or.inr ⟨by omega, by omega⟩)).mono ?_
    rintro e w3 ⟨rfl, g1, g2, g, g3, g4⟩
    refine ⟨rfl, g1, ⟨h1.trans (g2.mono fun x hx => ?_), ⟨_, g3⟩⟩, g, g3, g4⟩
    rcases hx with h | h
    · have := Hlt.out x h; exact ⟨Or.inl h, by omega⟩
    · exact ⟨Or.inr ⟨h.1, by omega⟩, by omega⟩
  rintro e w4 ⟨rfl, hmem, ⟨hJ1, _⟩, ⟨r, _, g, hO1, hO2⟩, _⟩
  obtain ⟨gA, gc, rfl, -, -⟩ := hO2.form
  have ca0 := (hO1).cell 0
  simp only [List.getElem?_cons_zero] at ca0
  have hkf : Keeps K w w4 := (Hk.out.mono Hlt.out).trans (hJ1.mono fun x hx => Or.inl hx)
  have Hkf := hid hkf
  have HO2 := hid hO2
  clear hkf hO2
  obtain ⟨μ', hm4, hc4⟩ := hmem
  have Hm4 := hid hm4
  have Hc4 := hid hc4
  clear hm4 hc4
  clear hO1 hJ1
  go_wp2_with fail
  exact hR'.out _ _ ⟨_, rfl, HO2.out.mono (fun b hb => trivial), ⟨μ', Hm4.out, Hc4.out⟩, Hkf.out⟩
end Go.Proofs.YtbmgmjfpoepgpaaDoor
