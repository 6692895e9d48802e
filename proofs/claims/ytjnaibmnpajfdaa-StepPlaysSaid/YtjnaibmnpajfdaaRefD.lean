/- StepPlays: (Prog).Step, the walk. -/
import Derived.Test.YtjnaibmnpajfdaaRefC
namespace Go.Proofs.Ytjnaibmnpajfdaa
open Go.RowKit

def zeros6 : List Value := [.slice none 0 0, .int .i64 0, .int .u32 0, .bool false, .int .i64 0, .int .i64 0]

theorem splice_all {α : Type} (L cs : List α) (h : cs.length = L.length) : splice L 0 cs = cs := by
  unfold splice; rw [Nat.zero_add, h, List.drop_length]; simp

set_option maxRecDepth 100000 in
set_option maxHeartbeats 2000000 in
theorem pstep_call {w : World} {K KC : Nat → Prop} (p : ProgM) (A : Option Addr) (cap : Nat) (vc : Value) (cells : List Int)
    (hsl : SlAt w K 3 (.slice A p.l.length cap) p.l.length (p.l.flatMap InsM.cells)) (hK : ∀ b, K b → b < w.heap.size) (hat : p.at_ ≤ p.l.length) (hlast : U32 p.last) (hmade : p.made ≤ p.at_)
    (hwf : ∀ x ∈ p.l, x.wf) (hc : SlAt w KC 1 vc cells.length (cells.map (Value.int .u32))) (hKC : ∀ b, KC b → b < w.heap.size) (hcr : ∀ x ∈ cells, U32 x) (hcn : cells.length ≤ 65536) :
    Calls Try.prog 25 #[.agg #[.slice A p.l.length cap, .int .i64 p.at_, .int .u32 p.last, .bool p.over, .int .i64 p.err, .int .i64 p.made], vc] w fun e w' =>
      ∃ vc', e = .returned (.tuple #[.agg #[.slice A p.l.length cap, .int .i64 (p.step cells).1.at_, .int .u32 (p.step cells).1.last, .bool (p.step cells).1.over, .int .i64 (p.step cells).1.err, .int .i64 (p.step cells).1.made], vc']) ∧
        SlAt w' (fun b => KC b ∨ w.heap.size ≤ b) 1 vc' cells.length ((p.step cells).2.map (Value.int .u32)) ∧ Keeps (· < w.heap.size) w w' := by
  obtain ⟨C, cc, rfl, hc1, hc2⟩ := hc.form
  unfold maxLen at hc2
  obtain ⟨l, at_, last, over, err, made⟩ := p
  simp only at hsl hat hlast hmade hwf ⊢
  have HS := hid hsl
  have HK := hid hK
  have HL := hid hlast
  have HC := hid hc
  have HKC := hid hKC
  clear hsl hK hlast hc hKC
  refine calls_hide fun R' hR' => ?_
  cases over with
  | true =>
    rw [ProgM.step_over (by rfl)] at hR'
    go_enter Try.func25, Try.ntmps25
    go_wp2
    refine bodyPost_ret (v := .tuple #[.agg #[.slice A l.length cap, .int .i64 at_, .int .u32 last, .bool true, .int .i64 err, .int .i64 made], .slice C cells.length cc])
      (by simp [results, Try.results25, go_sem]) rfl (hR'.out _ _ ⟨_, rfl, ?_, ?_⟩)
    · refine (HC.out.keep (((Keeps.refl _ _).alloc HKC.out _).alloc (fun b hb => ?_) _) fun b hb => hb).mono fun b hb => Or.inl hb
      have := HKC.out b hb; simp; omega
    · exact ((Keeps.refl _ _).alloc (fun b hb => hb) _).alloc (fun b hb => by simp; omega) _
  | false =>
    go_enter Try.func25, Try.ntmps25
    go_wp2_with fail
    generalize hb1 : w.heap.size = b1 at *
    have hB0 : Blk ((w.alloc (.cells #[.slice A l.length cap, .int .i64 at_, .int .u32 last, .bool false, .int .i64 err, .int .i64 made] 49)).alloc (.cells #[.slice none 0 0, .int .i64 0, .int .u32 0, .bool false, .int .i64 0, .int .i64 0] 49)) b1 [.slice A l.length cap, .int .i64 at_, .int .u32 last, .bool false, .int .i64 err, .int .i64 made] := by
      rw [← hb1]; exact (Blk.new w [.slice A l.length cap, .int .i64 at_, .int .u32 last, .bool false, .int .i64 err, .int .i64 made] _).alloc _
    have hZ0 : Blk ((w.alloc (.cells #[.slice A l.length cap, .int .i64 at_, .int .u32 last, .bool false, .int .i64 err, .int .i64 made] 49)).alloc (.cells #[.slice none 0 0, .int .i64 0, .int .u32 0, .bool false, .int .i64 0, .int .i64 0] 49)) (b1 + 1) zeros6 := by
      have := Blk.new (w.alloc (.cells #[.slice A l.length cap, .int .i64 at_, .int .u32 last, .bool false, .int .i64 err, .int .i64 made] 49)) zeros6 49
      simpa [hb1, zeros6] using this
    have hk0 : Keeps (· < b1) w ((w.alloc (.cells #[.slice A l.length cap, .int .i64 at_, .int .u32 last, .bool false, .int .i64 err, .int .i64 made] 49)).alloc (.cells #[.slice none 0 0, .int .i64 0, .int .u32 0, .bool false, .int .i64 0, .int .i64 0] 49)) :=
      ((Keeps.refl _ _).alloc (fun b hb => by omega) _).alloc (fun b hb => by simp; omega) _
    generalize hw0 : ((w.alloc (.cells #[.slice A l.length cap, .int .i64 at_, .int .u32 last, .bool false, .int .i64 err, .int .i64 made] 49)).alloc (.cells #[.slice none 0 0, .int .i64 0, .int .u32 0, .bool false, .int .i64 0, .int .i64 0] 49)) = w0 at *
    clear hw0
    have hlt1 := hB0.lt
    have hlt2 := hZ0.lt
    have honle := ProgM.on_le (p := ⟨l, at_, last, false, err, made⟩) hat
    have honlive := @ProgM.on_live ⟨l, at_, last, false, err, made⟩
    have hstE := fun h => ProgM.step_end (p := ⟨l, at_, last, false, err, made⟩) (cells := cells) rfl h
    have hstO := fun x h hx => ProgM.step_out (p := ⟨l, at_, last, false, err, made⟩) (cells := cells) (x := x) rfl h hx
    have hstL := fun x h hx => ProgM.step_load (p := ⟨l, at_, last, false, err, made⟩) (cells := cells) (x := x) rfl h hx
    have hstS := fun x h hx => ProgM.step_store (p := ⟨l, at_, last, false, err, made⟩) (cells := cells) (x := x) rfl h hx
    have honge : at_ ≤ (ProgM.on ⟨l, at_, last, false, err, made⟩).at_ := Nat.le_add_right _ _
    have hcall := on_call (w := w0) ⟨l, at_, last, false, err, made⟩ A cap (HS.out.keep hk0 HK.out) (fun b hb => by have := HK.out b hb; omega) hat HL.out
    obtain ⟨k1, o1, hon⟩ : ∃ k1 o1, ProgM.on ⟨l, at_, last, false, err, made⟩ = ⟨l, k1, last, o1, err, made⟩ := ⟨_, _, rfl⟩
    simp only [hon] at honle honlive hstE hstO hstL hstS honge hcall
    clear hon
    refine hcall.mono ?_
    rintro e w1 ⟨rfl, hk1⟩
    have hB1 := hB0.keep hk1 hlt1
    have hZ1 := hZ0.keep hk1 hlt2
    have hk01 : Keeps (· < b1) w w1 := hk0.trans (hk1.mono fun b hb => by omega)
    have hsz := hk1.size
    clear hcall hk0 hk1 hB0 hZ0
    have c0 := hB1.cell 0
    have c1 := hB1.cell 1
    have c2 := hB1.cell 2
    have c3 := hB1.cell 3
    have c4 := hB1.cell 4
    have c5 := hB1.cell 5
    have f0 := hB1.free 0
    have f1 := hB1.free 1
    have f2 := hB1.free 2
    have f3 := hB1.free 3
    have f4 := hB1.free 4
    have f5 := hB1.free 5
    simp only [List.getElem?_cons_zero, List.getElem?_cons_succ] at c0 c1 c2 c3 c4 c5
    have hB2 := hB1.set6 (.slice A l.length cap) (.int .i64 k1) (.int .u32 last) (.bool o1) (.int .i64 err) (.int .i64 made) rfl
    have hZ2 := hZ1.set6_ne (b := b1) (.slice A l.length cap) (.int .i64 k1) (.int .u32 last) (.bool o1) (.int .i64 err) (.int .i64 made) (by omega)
    have hk02 := hk01.set6 (b := b1) (.slice A l.length cap) (.int .i64 k1) (.int .u32 last) (.bool o1) (.int .i64 err) (.int .i64 made) (by omega)
    have HX := hid (And.intro hB2 (And.intro hZ2 hk02))
    clear hB2 hZ2 hk02 hB1 hZ1 hk01
    dsimp only
    go_step
    go_step
    go_step
    clear c0 c1 c2 c3 c4 c5 f0 f1 f2 f3 f4 f5
    generalize hw2 : ((((((w1.setCell ⟨b1, 0, none⟩ (.slice A l.length cap)).setCell ⟨b1, 1, none⟩ (.int .i64 k1)).setCell ⟨b1, 2, none⟩ (.int .u32 last)).setCell ⟨b1, 3, none⟩ (.bool o1)).setCell ⟨b1, 4, none⟩ (.int .i64 err)).setCell ⟨b1, 5, none⟩ (.int .i64 made)) = w2 at HX ⊢
    clear hw2
    obtain ⟨hB2, hZ2, hk02⟩ := HX.out
    clear HX
    have hsz2 := hB2.lt
    have hsz3 := hZ2.lt
    have c0 := hB2.cell 0
    have f0 := hB2.free 0
    have z0 := hZ2.cell 0
    have y0 := hZ2.free 0
    have c1 := hB2.cell 1
    have f1 := hB2.free 1
    have z1 := hZ2.cell 1
    have y1 := hZ2.free 1
    have c2 := hB2.cell 2
    have f2 := hB2.free 2
    have z2 := hZ2.cell 2
    have y2 := hZ2.free 2
    have c3 := hB2.cell 3
    have f3 := hB2.free 3
    have z3 := hZ2.cell 3
    have y3 := hZ2.free 3
    have c4 := hB2.cell 4
    have f4 := hB2.free 4
    have z4 := hZ2.cell 4
    have y4 := hZ2.free 4
    have c5 := hB2.cell 5
    have f5 := hB2.free 5
    have z5 := hZ2.cell 5
    have y5 := hZ2.free 5
    simp only [zeros6, List.getElem?_cons_zero, List.getElem?_cons_succ] at c0 c1 c2 c3 c4 c5 z0 z1 z2 z3 z4 z5
    have HB2 := hid hB2
    have HZ2 := hid hZ2
    have HK2 := hid hk02
    clear hB2 hZ2 hk02 hlt1 hlt2 hsz
    have HT := hid (And.intro honle honge)
    have HE := hid hstE
    have HO := hid hstO
    have HLo := hid hstL
    have HSt := hid hstS
    have HLive := hid honlive
    clear honle honge hstE hstO hstL hstS honlive
    cases o1 with
    | true =>
      rw [HE.out rfl] at hR'
      go_wp2_with fail
      refine bodyPost_ret (v := .tuple #[.agg #[.slice A l.length cap, .int .i64 k1, .int .u32 last, .bool true, .int .i64 err, .int .i64 made], .slice C cells.length cc])
        (by simp [results, Try.results25, go_sem, z0, z1, z2, z3, z4, z5]) rfl (hR'.out _ _ ⟨_, rfl, ?_, ?_⟩)
      · exact (HC.out.keep (HK2.out.set6 _ _ _ _ _ _ (by omega)) HKC.out).mono fun b hb => Or.inl hb
      · exact HK2.out.set6 _ _ _ _ _ _ (by omega)
    | false =>
      obtain ⟨⟨op, a, vv⟩, hx, hx0, hx3⟩ := HLive.out rfl
      simp only at hx0 hx3
      obtain ⟨A', cap', heq, _, hcap', hcs⟩ := prog_cells HS.out
      injection heq with q1 _ q3
      subst q1 q3
      unfold maxLen at hcap'
      obtain ⟨b, off, rfl, hKb, x0, x1, x2⟩ := hcs _ _ hx
      have hbb := HK.out b hKb
      simp only at x0 x1 x2
      have hw0 : w2.cell? ⟨b, off + k1 * 3, none⟩ = some (.int .i64 op) := by
        rw [← x0]; simp only [World.cell?, HK2.out.block b hbb]
      have hw1 : w2.cell? ⟨b, off + k1 * 3 + 1, none⟩ = some (.int .i64 a) := by
        rw [← x1]; simp only [World.cell?, HK2.out.block b hbb]
      have hw2 : w2.cell? ⟨b, off + k1 * 3 + 2, none⟩ = some (.int .u32 vv) := by
        rw [← x2]; simp only [World.cell?, HK2.out.block b hbb]
      have hklt : k1 < l.length := (List.getElem?_eq_some_iff.1 hx).1
      have i1 : (k1 : Int) < (l.length : Int) := by omega
      have hxw := hwf _ (List.mem_of_getElem? hx)
      have HXW := hid hxw
      have HXX := hid hx
      have HO1 := hid (HO.out _ rfl hx)
      have HL1 := hid (HLo.out _ rfl hx)
      have HS1 := hid (HSt.out _ rfl hx)
      clear HO HLo HSt HE
      clear hcs x0 x1 x2 hx hxw
      go_wp2_with fail
      have hX2 : Blk (w2.alloc (.cells #[.int .i64 op, .int .i64 a, .int .u32 vv] 38)) w2.heap.size [.int .i64 op, .int .i64 a, .int .u32 vv] := Blk.new w2 [.int .i64 op, .int .i64 a, .int .u32 vv] 38
      have hB3 := HB2.out.alloc (.cells #[.int .i64 op, .int .i64 a, .int .u32 vv] 38)
      have hZ3 := HZ2.out.alloc (.cells #[.int .i64 op, .int .i64 a, .int .u32 vv] 38)
      have hk3 := HK2.out.alloc (fun b hb => by omega) (.cells #[.int .i64 op, .int .i64 a, .int .u32 vv] 38)
      have HX := hid (And.intro hX2 (And.intro hB3 (And.intro hZ3 hk3)))
      have hb3 : b1 + 1 < w2.heap.size := hsz3
      clear hX2 hB3 hZ3 hk3 hw0 hw1 hw2
      clear c0 c1 c2 c3 c4 c5 f0 f1 f2 f3 f4 f5 z0 z1 z2 z3 z4 z5 y0 y1 y2 y3 y4 y5
      clear HB2 HZ2 HK2
      have hadr := fun w => addr_any op a vv last w HXW.out.2.2 HL.out
      generalize ht : addrM ⟨op, a, vv⟩ last = t at *
      generalize hs3 : w2.heap.size = b3 at *
      generalize hw3 : w2.alloc (.cells #[.int .i64 op, .int .i64 a, .int .u32 vv] 38) = w3 at *
      clear hw3 hs3
      refine (hadr w3).mono ?_
      rintro e w4 ⟨rfl, hk4⟩
      obtain ⟨hX3, hB3, hZ3, hk3⟩ := HX.out
      clear HX hadr
      have hX4 := hX3.keep hk4 hX3.lt
      have hB4 := hB3.keep hk4 hB3.lt
      have hZ4 := hZ3.keep hk4 hZ3.lt
      have hk04 : Keeps (· < b1) w w4 := hk3.trans (hk4.mono fun b hb => by have := hB3.lt; omega)
      clear hX3 hB3 hZ3 hk3 hk4
      have hc4 := HC.out.keep hk04 HKC.out
      have c0 := hB4.cell 0
      have c1 := hB4.cell 1
      have c2 := hB4.cell 2
      have c3 := hB4.cell 3
      have c4 := hB4.cell 4
      have c5 := hB4.cell 5
      have f1 := hB4.free 1
      have f2 := hB4.free 2
      have f3 := hB4.free 3
      have f4 := hB4.free 4
      have f5 := hB4.free 5
      have x0 := hX4.cell 0
      have x1 := hX4.cell 1
      have x2 := hX4.cell 2
      have z0 := hZ4.cell 0
      have z1 := hZ4.cell 1
      have z2 := hZ4.cell 2
      have z3 := hZ4.cell 3
      have z4 := hZ4.cell 4
      have z5 := hZ4.cell 5
      have y0 := hZ4.free 0
      have y1 := hZ4.free 1
      have y2 := hZ4.free 2
      have y3 := hZ4.free 3
      have y4 := hZ4.free 4
      have y5 := hZ4.free 5
      simp only [zeros6, List.getElem?_cons_zero, List.getElem?_cons_succ] at c0 c1 c2 c3 c4 c5 z0 z1 z2 z3 z4 z5 x0 x1 x2
      have hl1 := hB4.lt
      have hl2 := hZ4.lt
      have hl3 := hX4.lt
      have HB4 := hid hB4
      have HX4 := hid hX4
      have HZ4 := hid hZ4
      have HK4 := hid hk04
      have HC4 := hid hc4
      have HTT := hid ht
      clear hB4 hX4 hZ4 hk04 hc4 ht
      dsimp only
      by_cases hout : t < 0 ∨ (cells.length : Int) ≤ t
      · have hstep := HO1.out hout
        rw [hstep] at hR'
        clear hstep
        have hfin : ∀ w' : World, Keeps (· < b1) w w' → SlAt w' (fun b => KC b ∨ b1 ≤ b) 1 (.slice C cells.length cc) cells.length (cells.map (Value.int .u32)) :=
          fun w' k => (HC.out.keep k HKC.out).mono fun b hb => Or.inl hb
        have HF := hid hfin
        clear hfin
        have hend : ∀ a : Act, True := fun _ => trivial
        rcases hout with hlo | hhi
        · go_wp2_with fail
          have hkf := ((HK4.out.setCell (p := ⟨b1, 3, none⟩) (by simp) (.bool true)).setCell (p := ⟨b1, 4, none⟩) (by simp) (.int .i64 2)).set6 (b := b1 + 1) (.slice (some ⟨b, off, none⟩) l.length cap) (.int .i64 k1) (.int .u32 last) (.bool true) (.int .i64 2) (.int .i64 made) (by omega)
          refine bodyPost_ret (v := .tuple #[.agg #[.slice (some ⟨b, off, none⟩) l.length cap, .int .i64 k1, .int .u32 last, .bool true, .int .i64 2, .int .i64 made], .slice C cells.length cc])
            (by simp [results, Try.results25, go_sem, z0, z1, z2, z3, z4, z5]) rfl (hR'.out _ _ ⟨_, rfl, HF.out _ hkf, hkf⟩)
        · by_cases hlo : t < 0
          · omega
          · go_wp2_with fail
            have hkf := ((HK4.out.setCell (p := ⟨b1, 3, none⟩) (by simp) (.bool true)).setCell (p := ⟨b1, 4, none⟩) (by simp) (.int .i64 2)).set6 (b := b1 + 1) (.slice (some ⟨b, off, none⟩) l.length cap) (.int .i64 k1) (.int .u32 last) (.bool true) (.int .i64 2) (.int .i64 made) (by omega)
            refine bodyPost_ret (v := .tuple #[.agg #[.slice (some ⟨b, off, none⟩) l.length cap, .int .i64 k1, .int .u32 last, .bool true, .int .i64 2, .int .i64 made], .slice C cells.length cc])
              (by simp [results, Try.results25, go_sem, z0, z1, z2, z3, z4, z5]) rfl (hR'.out _ _ ⟨_, rfl, HF.out _ hkf, hkf⟩)
      · have hlo : ¬ t < 0 := fun h => hout (Or.inl h)
        have hhi : ¬ (cells.length : Int) ≤ t := fun h => hout (Or.inr h)
        obtain ⟨n, rfl⟩ := Int.eq_ofNat_of_zero_le (show 0 ≤ t by omega)
        have hn : n < cells.length := by omega
        have i2 : (n : Int) < (cells.length : Int) := by omega
        have i3 : (k1 : Int) + 1 ≤ 9223372036854775807 := by omega
        have hmk := HT.out.2
        have i4 : (made : Int) + 1 ≤ 9223372036854775807 := by omega
        by_cases hld : op = 0 ∨ op = 2
        · have hstep := HL1.out hout hld
          rw [hstep] at hR'
          clear hstep
          obtain ⟨bc, oc, cc', e1, hbc, y⟩ := HC4.out.get n cells[n] (List.getElem?_eq_getElem hn)
          injection e1 with e1 _ e3
          subst e1 e3
          have hgd : cells.getD (n : Int).toNat 0 = cells[n] := by
            rw [Int.toNat_natCast, List.getD_eq_getElem?_getD, List.getElem?_eq_getElem hn]; rfl
          rw [hgd] at hR'
          have hux := hcr _ (List.getElem_mem hn)
          generalize cells[n] = x at *
          have hbc1 := HKC.out bc hbc
          have hne : bc ≠ b1 := by omega
          have HUX := hid hux
          clear hgd hux hout
          have hcast : (k1 : Int) + 1 = ((k1 + 1 : Nat) : Int) := by omega
          have hcastm : (made : Int) + 1 = ((made + 1 : Nat) : Int) := by omega
          have HCA := hid (And.intro hcast hcastm)
          clear hcast hcastm
          rcases hld with rfl | rfl
          · go_wp2_with fail
            rw [HCA.out.1, HCA.out.2]
            have hZ5 : Blk (((w4.setCell ⟨b1, 1, none⟩ (.int .i64 (k1 + 1 : Nat))).setCell ⟨b1, 5, none⟩ (.int .i64 (made + 1 : Nat))).setCell ⟨b1, 2, none⟩ (.int .u32 x)) (b1 + 1) zeros6 := ((HZ4.out.set_ne _ (by simp)).set_ne _ (by simp)).set_ne _ (by simp)
            have hk5 : Keeps (· < b1) w (((w4.setCell ⟨b1, 1, none⟩ (.int .i64 (k1 + 1 : Nat))).setCell ⟨b1, 5, none⟩ (.int .i64 (made + 1 : Nat))).setCell ⟨b1, 2, none⟩ (.int .u32 x)) := ((HK4.out.setCell (by simp) _).setCell (by simp) _).setCell (by simp) _
            generalize hw5 : ((w4.setCell ⟨b1, 1, none⟩ (.int .i64 (k1 + 1 : Nat))).setCell ⟨b1, 5, none⟩ (.int .i64 (made + 1 : Nat))).setCell ⟨b1, 2, none⟩ (.int .u32 x) = w5 at *
            clear hw5
            have hl5 := hZ5.lt
            have hcall := on_call (w := w5) ⟨l, k1 + 1, x, false, err, made + 1⟩ (some ⟨b, off, none⟩) cap (HS.out.keep hk5 HK.out) (fun b hb => by have := HK.out b hb; omega) hklt HUX.out
            obtain ⟨k2, o2, hon2⟩ : ∃ k2 o2, ProgM.on ⟨l, k1 + 1, x, false, err, made + 1⟩ = ⟨l, k2, x, o2, err, made + 1⟩ := ⟨_, _, rfl⟩
            simp only [hon2] at hcall hR'
            clear hon2
            refine hcall.mono ?_
            rintro e w6 ⟨rfl, hk6⟩
            have hZ6 := hZ5.keep hk6 hl5
            have hk06 : Keeps (· < b1) w w6 := hk5.trans (hk6.mono fun b hb => by omega)
            clear z0 z1 z2 z3 z4 z5 y0 y1 y2 y3 y4 y5 c0 c1 c2 c3 c4 c5 f1 f2 f3 f4 f5 hcall
            have z0 := hZ6.cell 0
            have y0 := hZ6.free 0
            have z1 := hZ6.cell 1
            have y1 := hZ6.free 1
            have z2 := hZ6.cell 2
            have y2 := hZ6.free 2
            have z3 := hZ6.cell 3
            have y3 := hZ6.free 3
            have z4 := hZ6.cell 4
            have y4 := hZ6.free 4
            have z5 := hZ6.cell 5
            have y5 := hZ6.free 5
            simp only [zeros6, List.getElem?_cons_zero, List.getElem?_cons_succ] at z0 z1 z2 z3 z4 z5
            have hkf := hk06.set6 (b := b1 + 1) (.slice (some ⟨b, off, none⟩) l.length cap) (.int .i64 k2) (.int .u32 x) (.bool o2) (.int .i64 err) (.int .i64 (made + 1 : Nat)) (by omega)
            have HKF := hid hkf
            have HSL := hid (show SlAt _ (fun b => KC b ∨ b1 ≤ b) 1 (.slice (some ⟨bc, oc, none⟩) cells.length cc) cells.length (cells.map (Value.int .u32)) from (HC.out.keep hkf HKC.out).mono fun b hb => Or.inl hb)
            clear hkf hk06 hk6 hk5 hZ6 hZ5
            go_wp2_with fail
            refine bodyPost_ret (v := .tuple #[.agg #[.slice (some ⟨b, off, none⟩) l.length cap, .int .i64 k2, .int .u32 x, .bool o2, .int .i64 err, .int .i64 (made + 1 : Nat)], .slice (some ⟨bc, oc, none⟩) cells.length cc])
              (by simp [results, Try.results25, go_sem, z0, z1, z2, z3, z4, z5]) rfl (hR'.out _ _ ⟨_, rfl, HSL.out, HKF.out⟩)
          · go_wp2_with fail
            rw [HCA.out.1, HCA.out.2]
            have hZ5 : Blk (((w4.setCell ⟨b1, 1, none⟩ (.int .i64 (k1 + 1 : Nat))).setCell ⟨b1, 5, none⟩ (.int .i64 (made + 1 : Nat))).setCell ⟨b1, 2, none⟩ (.int .u32 x)) (b1 + 1) zeros6 := ((HZ4.out.set_ne _ (by simp)).set_ne _ (by simp)).set_ne _ (by simp)
            have hk5 : Keeps (· < b1) w (((w4.setCell ⟨b1, 1, none⟩ (.int .i64 (k1 + 1 : Nat))).setCell ⟨b1, 5, none⟩ (.int .i64 (made + 1 : Nat))).setCell ⟨b1, 2, none⟩ (.int .u32 x)) := ((HK4.out.setCell (by simp) _).setCell (by simp) _).setCell (by simp) _
            generalize hw5 : ((w4.setCell ⟨b1, 1, none⟩ (.int .i64 (k1 + 1 : Nat))).setCell ⟨b1, 5, none⟩ (.int .i64 (made + 1 : Nat))).setCell ⟨b1, 2, none⟩ (.int .u32 x) = w5 at *
            clear hw5
            have hl5 := hZ5.lt
            have hcall := on_call (w := w5) ⟨l, k1 + 1, x, false, err, made + 1⟩ (some ⟨b, off, none⟩) cap (HS.out.keep hk5 HK.out) (fun b hb => by have := HK.out b hb; omega) hklt HUX.out
            obtain ⟨k2, o2, hon2⟩ : ∃ k2 o2, ProgM.on ⟨l, k1 + 1, x, false, err, made + 1⟩ = ⟨l, k2, x, o2, err, made + 1⟩ := ⟨_, _, rfl⟩
            simp only [hon2] at hcall hR'
            clear hon2
            refine hcall.mono ?_
            rintro e w6 ⟨rfl, hk6⟩
            have hZ6 := hZ5.keep hk6 hl5
            have hk06 : Keeps (· < b1) w w6 := hk5.trans (hk6.mono fun b hb => by omega)
            clear z0 z1 z2 z3 z4 z5 y0 y1 y2 y3 y4 y5 c0 c1 c2 c3 c4 c5 f1 f2 f3 f4 f5 hcall
            have z0 := hZ6.cell 0
            have y0 := hZ6.free 0
            have z1 := hZ6.cell 1
            have y1 := hZ6.free 1
            have z2 := hZ6.cell 2
            have y2 := hZ6.free 2
            have z3 := hZ6.cell 3
            have y3 := hZ6.free 3
            have z4 := hZ6.cell 4
            have y4 := hZ6.free 4
            have z5 := hZ6.cell 5
            have y5 := hZ6.free 5
            simp only [zeros6, List.getElem?_cons_zero, List.getElem?_cons_succ] at z0 z1 z2 z3 z4 z5
            have hkf := hk06.set6 (b := b1 + 1) (.slice (some ⟨b, off, none⟩) l.length cap) (.int .i64 k2) (.int .u32 x) (.bool o2) (.int .i64 err) (.int .i64 (made + 1 : Nat)) (by omega)
            have HKF := hid hkf
            have HSL := hid (show SlAt _ (fun b => KC b ∨ b1 ≤ b) 1 (.slice (some ⟨bc, oc, none⟩) cells.length cc) cells.length (cells.map (Value.int .u32)) from (HC.out.keep hkf HKC.out).mono fun b hb => Or.inl hb)
            clear hkf hk06 hk6 hk5 hZ6 hZ5
            go_wp2_with fail
            refine bodyPost_ret (v := .tuple #[.agg #[.slice (some ⟨b, off, none⟩) l.length cap, .int .i64 k2, .int .u32 x, .bool o2, .int .i64 err, .int .i64 (made + 1 : Nat)], .slice (some ⟨bc, oc, none⟩) cells.length cc])
              (by simp [results, Try.results25, go_sem, z0, z1, z2, z3, z4, z5]) rfl (hR'.out _ _ ⟨_, rfl, HSL.out, HKF.out⟩)
        · have hstep := HS1.out hout hld
          rw [hstep] at hR'
          clear hstep
          obtain ⟨bc, oc, cc', e1, hbc, y⟩ := HC4.out.get n cells[n] (List.getElem?_eq_getElem hn)
          injection e1 with e1 _ e3
          subst e1 e3
          clear y
          rw [Int.toNat_natCast] at hR'
          have hbc1 := HKC.out bc hbc
          have hcast : (k1 : Int) + 1 = ((k1 + 1 : Nat) : Int) := by omega
          have hcastm : (made : Int) + 1 = ((made + 1 : Nat) : Int) := by omega
          have HCA := hid (And.intro hcast hcastm)
          clear hcast hcastm hout
          have hmk := fun w => run_make_row' (P := Try.prog) 45 36 (.int .u32 0) 4 Try.underlying45 Try.infoU rfl .i64 .i64 cells.length (by omega) (by omega) w
          have hop : op = 1 ∨ op = 3 := by omega
          clear hld
          rcases hop with rfl | rfl
          · have HC5 := hid (HC4.out.keep (((Keeps.refl (fun b => b ≠ b1) w4).setCell (p := ⟨b1, 1, none⟩) (by simp) (.int .i64 (k1 + 1 : Int))).setCell (p := ⟨b1, 5, none⟩) (by simp) (.int .i64 (made + 1 : Int))) (fun b hb => by have := HKC.out b hb; omega))
            have hhg : ∀ w0 : World, (w0.alloc (.cells (madeCells #[.int .u32 0] cells.length) 36)).heap[w0.heap.size]? = some (.cells (List.replicate cells.length (Value.int .u32 0)).toArray 36 (0, 0)) := by
              intro w0
              have e : madeCells #[Value.int .u32 0] cells.length = (List.replicate cells.length (Value.int .u32 0)).toArray := by
                apply Array.ext'; rw [toList_madeCells_one]
              rw [e]; exact heap_alloc_new w0 _
            have HNL := hid (show (cells.map (Value.int .u32)).length = cells.length from List.length_map ..)
            have hsw : ((w4.setCell ⟨b1, 1, none⟩ (.int .i64 (k1 + 1 : Int))).setCell ⟨b1, 5, none⟩ (.int .i64 (made + 1 : Int))).heap.size = w4.heap.size := by simp [World.setCell]
            have HSW := hid hsw
            have hg2 := hhg ((w4.setCell ⟨b1, 1, none⟩ (.int .i64 (k1 + 1 : Int))).setCell ⟨b1, 5, none⟩ (.int .i64 (made + 1 : Int)))
            rw [hsw] at hg2
            have HG2 := hid hg2
            have HZ5 := hid ((HZ4.out.set_ne (a := ⟨b1, 1, none⟩) (.int .i64 (k1 + 1 : Int)) (by simp)).set_ne (a := ⟨b1, 5, none⟩) (.int .i64 (made + 1 : Int)) (by simp))
            have HX5 := hid ((HX4.out.set_ne (a := ⟨b1, 1, none⟩) (.int .i64 (k1 + 1 : Int)) (by simp; omega)).set_ne (a := ⟨b1, 5, none⟩) (.int .i64 (made + 1 : Int)) (by simp; omega))
            have hb5 := (HB4.out.set 1 (.int .i64 (k1 + 1 : Int))).set 5 (.int .i64 (made + 1 : Int))
            simp only [List.set_cons_succ, List.set_cons_zero] at hb5
            have HB5 := hid hb5
            have HK5 := hid ((HK4.out.setCell (p := ⟨b1, 1, none⟩) (by simp) (.int .i64 (k1 + 1 : Int))).setCell (p := ⟨b1, 5, none⟩) (by simp) (.int .i64 (made + 1 : Int)))
            clear hhg hsw hg2 hb5
            go_wp2_with (with_reducible refine wpList_copy_splice rfl (.tmp 65) (.tmp 66) 45 45 rfl 36 Try.underlying45 Try.sizeU _ _ _ _ _ _ rfl rfl w4.heap.size 0 (List.replicate cells.length (Value.int .u32 0)) 36 HG2.out (cells.map (Value.int .u32)) ?hn ?hpos ?hfit ?h1 w4.heap.size ((w4.setCell ⟨b1, 1, none⟩ (.int .i64 (k1 + 1 : Int))).setCell ⟨b1, 5, none⟩ (.int .i64 (made + 1 : Int))) ?hb (Nat.le_refl _) ?_)
            case hpos =>
              intro _ j x hj
              obtain ⟨b', o', c', e', hb', hy⟩ := HC5.out.get j x hj
              simp only [Value.slice.injEq, Option.some.injEq, Addr.mk.injEq] at e'
              obtain ⟨⟨rfl, rfl, _⟩, _, rfl⟩ := e'
              exact (World.cell?_of_block (a := ⟨_, oc + j, none⟩) (((Keeps.refl (fun b => b = bc) _).alloc (by rintro b rfl; rw [HSW.out]; omega) _).block bc rfl)).trans hy
            case h1 => intro u hu; rfl
            case hb => exact (Below.refl _ _).alloc (by rw [HSW.out]; exact Nat.le_refl _) _
            intro w6 hg6 hb6
            have hk6 : Keeps (· < w4.heap.size) _ w6 := Below.keeps hb6 (fun b hb => hb)
            have hN6 : Blk w6 w4.heap.size (cells.map (Value.int .u32)) := by
              have := hg6.out
              rw [splice_all _ _ (by simp)] at this
              exact ⟨_, this⟩
            have hB6 := HB5.out.keep hk6 hl1
            have hZ6 := HZ5.out.keep hk6 hl2
            have hX6 := HX5.out.keep hk6 hl3
            have hk06 := HK5.out.trans (hk6.mono fun b hb => by omega)
            clear hk6 hg6 hb6 HC5 HG2 HZ5 HX5 HB5 HK5 HSW
            clear c0 c1 c2 c3 c4 c5 f1 f2 f3 f4 f5 x0 x1 x2 z0 z1 z2 z3 z4 z5 y0 y1 y2 y3 y4 y5 hmk
            generalize hb4 : w4.heap.size = b4 at *
            clear hb4
            have c0 := (hB6).cell 0
            have c1 := (hB6).cell 1
            have c2 := (hB6).cell 2
            have c3 := (hB6).cell 3
            have c4 := (hB6).cell 4
            have c5 := (hB6).cell 5
            simp only [List.getElem?_cons_zero, List.getElem?_cons_succ] at c0 c1 c2 c3 c4 c5
            have x0 := (hX6).cell 0
            have x1 := (hX6).cell 1
            have x2 := (hX6).cell 2
            simp only [List.getElem?_cons_zero, List.getElem?_cons_succ] at x0 x1 x2
            have fn := hN6.free n
            have cn := hN6.cell n
            rw [List.getElem?_map, List.getElem?_eq_getElem hn] at cn
            have hx0 := hX6.lt
            simp only [Option.map_some] at cn
            have i5 : (n : Int) < (cells.length : Int) := by omega
            go_wp2_with fail
            rw [HCA.out.1, HCA.out.2]
            refine calls_gen (fun W => Blk W b4 ((cells.set n vv).map (Value.int .u32)) ∧ Blk W (b1 + 1) zeros6 ∧ Keeps (· < b1) w W) ⟨?_, ?_, ?_⟩ ?_
            · have h := hN6.set n (.int .u32 vv)
              skip
              rw [List.map_set]; exact h
            · repeat (first | with_reducible assumption | with_reducible exact Blk.new _ _ _ | with_reducible refine Blk.drew ?_ | with_reducible refine Blk.drewN ?_ _ | with_reducible refine Blk.set_ne ?_ _ ?_ | (with_reducible refine Blk.new' _ _ _ ?_; focus (simp; done)) | with_reducible refine Blk.alloc ?_ _)
              all_goals (first | assumption | (simp; done) | (simp; omega))
            · repeat (first | with_reducible assumption | with_reducible refine Keeps.setCell ?_ ?_ _)
              all_goals (simp; omega)
            clear hB6 hZ6 hX6 hk06 hN6 c0 c1 c2 c3 c4 c5 x0 x1 x2 fn cn
            rintro w7 ⟨hN7, hZ7, hk7⟩
            have hl7 := hZ7.lt
            have hl8 := hN7.lt
            have hcall := on_call (w := w7) ⟨l, k1 + 1, last, false, err, made + 1⟩ (some ⟨b, off, none⟩) cap (HS.out.keep hk7 HK.out) (fun b hb => by have := HK.out b hb; omega) hklt HL.out
            obtain ⟨k2, o2, hon2⟩ : ∃ k2 o2, ProgM.on ⟨l, k1 + 1, last, false, err, made + 1⟩ = ⟨l, k2, last, o2, err, made + 1⟩ := ⟨_, _, rfl⟩
            rw [if_neg (by decide)] at hR'
            simp only [hon2] at hcall hR'
            clear hon2
            refine hcall.mono ?_
            rintro e w8 ⟨rfl, hk8⟩
            have hZ8 := hZ7.keep hk8 hl7
            have hN8 := hN7.keep hk8 hl8
            have hk08 : Keeps (· < b1) w w8 := hk7.trans (hk8.mono fun b hb => by omega)
            clear hcall
            have z0 := hZ8.cell 0
            have z1 := hZ8.cell 1
            have z2 := hZ8.cell 2
            have z3 := hZ8.cell 3
            have z4 := hZ8.cell 4
            have z5 := hZ8.cell 5
            have y0 := hZ8.free 0
            have y1 := hZ8.free 1
            have y2 := hZ8.free 2
            have y3 := hZ8.free 3
            have y4 := hZ8.free 4
            have y5 := hZ8.free 5
            simp only [zeros6, List.getElem?_cons_zero, List.getElem?_cons_succ] at z0 z1 z2 z3 z4 z5
            have hkf := hk08.set6 (b := b1 + 1) (.slice (some ⟨b, off, none⟩) l.length cap) (.int .i64 k2) (.int .u32 last) (.bool o2) (.int .i64 err) (.int .i64 (made + 1 : Nat)) (by omega)
            have hnf := hN8.set6_ne (b := b1 + 1) (.slice (some ⟨b, off, none⟩) l.length cap) (.int .i64 k2) (.int .u32 last) (.bool o2) (.int .i64 err) (.int .i64 (made + 1 : Nat)) (by omega)
            have hsf := SlAt.of_blk (K := fun b => KC b ∨ b1 ≤ b) hnf (Or.inr (by omega)) (by rw [List.length_map, List.length_set]; unfold maxLen; omega)
            rw [List.length_map, List.length_set] at hsf
            have HKF := hid hkf
            have HSL := hid hsf
            clear hkf hk08 hk8 hk7 hZ8 hZ7 hN8 hN7 hnf hsf
            go_wp2_with fail
            refine bodyPost_ret (v := .tuple #[.agg #[.slice (some ⟨b, off, none⟩) l.length cap, .int .i64 k2, .int .u32 last, .bool o2, .int .i64 err, .int .i64 (made + 1 : Nat)], .slice (some ⟨b4, 0, none⟩) cells.length cells.length])
              (by simp [results, Try.results25, go_sem, z0, z1, z2, z3, z4, z5]) rfl (hR'.out _ _ ⟨_, rfl, HSL.out, HKF.out⟩)
          · have HC5 := hid (HC4.out.keep (((Keeps.refl (fun b => b ≠ b1) w4).setCell (p := ⟨b1, 1, none⟩) (by simp) (.int .i64 (k1 + 1 : Int))).setCell (p := ⟨b1, 5, none⟩) (by simp) (.int .i64 (made + 1 : Int))) (fun b hb => by have := HKC.out b hb; omega))
            have hhg : ∀ w0 : World, (w0.alloc (.cells (madeCells #[.int .u32 0] cells.length) 36)).heap[w0.heap.size]? = some (.cells (List.replicate cells.length (Value.int .u32 0)).toArray 36 (0, 0)) := by
              intro w0
              have e : madeCells #[Value.int .u32 0] cells.length = (List.replicate cells.length (Value.int .u32 0)).toArray := by
                apply Array.ext'; rw [toList_madeCells_one]
              rw [e]; exact heap_alloc_new w0 _
            have HNL := hid (show (cells.map (Value.int .u32)).length = cells.length from List.length_map ..)
            have hsw : ((w4.setCell ⟨b1, 1, none⟩ (.int .i64 (k1 + 1 : Int))).setCell ⟨b1, 5, none⟩ (.int .i64 (made + 1 : Int))).heap.size = w4.heap.size := by simp [World.setCell]
            have HSW := hid hsw
            have hg2 := hhg ((w4.setCell ⟨b1, 1, none⟩ (.int .i64 (k1 + 1 : Int))).setCell ⟨b1, 5, none⟩ (.int .i64 (made + 1 : Int)))
            rw [hsw] at hg2
            have HG2 := hid hg2
            have HZ5 := hid ((HZ4.out.set_ne (a := ⟨b1, 1, none⟩) (.int .i64 (k1 + 1 : Int)) (by simp)).set_ne (a := ⟨b1, 5, none⟩) (.int .i64 (made + 1 : Int)) (by simp))
            have HX5 := hid ((HX4.out.set_ne (a := ⟨b1, 1, none⟩) (.int .i64 (k1 + 1 : Int)) (by simp; omega)).set_ne (a := ⟨b1, 5, none⟩) (.int .i64 (made + 1 : Int)) (by simp; omega))
            have hb5 := (HB4.out.set 1 (.int .i64 (k1 + 1 : Int))).set 5 (.int .i64 (made + 1 : Int))
            simp only [List.set_cons_succ, List.set_cons_zero] at hb5
            have HB5 := hid hb5
            have HK5 := hid ((HK4.out.setCell (p := ⟨b1, 1, none⟩) (by simp) (.int .i64 (k1 + 1 : Int))).setCell (p := ⟨b1, 5, none⟩) (by simp) (.int .i64 (made + 1 : Int)))
            clear hhg hsw hg2 hb5
            go_wp2_with (with_reducible refine wpList_copy_splice rfl (.tmp 65) (.tmp 66) 45 45 rfl 36 Try.underlying45 Try.sizeU _ _ _ _ _ _ rfl rfl w4.heap.size 0 (List.replicate cells.length (Value.int .u32 0)) 36 HG2.out (cells.map (Value.int .u32)) ?hn ?hpos ?hfit ?h1 w4.heap.size ((w4.setCell ⟨b1, 1, none⟩ (.int .i64 (k1 + 1 : Int))).setCell ⟨b1, 5, none⟩ (.int .i64 (made + 1 : Int))) ?hb (Nat.le_refl _) ?_)
            case hpos =>
              intro _ j x hj
              obtain ⟨b', o', c', e', hb', hy⟩ := HC5.out.get j x hj
              simp only [Value.slice.injEq, Option.some.injEq, Addr.mk.injEq] at e'
              obtain ⟨⟨rfl, rfl, _⟩, _, rfl⟩ := e'
              exact (World.cell?_of_block (a := ⟨_, oc + j, none⟩) (((Keeps.refl (fun b => b = bc) _).alloc (by rintro b rfl; rw [HSW.out]; omega) _).block bc rfl)).trans hy
            case h1 => intro u hu; rfl
            case hb => exact (Below.refl _ _).alloc (by rw [HSW.out]; exact Nat.le_refl _) _
            intro w6 hg6 hb6
            have hk6 : Keeps (· < w4.heap.size) _ w6 := Below.keeps hb6 (fun b hb => hb)
            have hN6 : Blk w6 w4.heap.size (cells.map (Value.int .u32)) := by
              have := hg6.out
              rw [splice_all _ _ (by simp)] at this
              exact ⟨_, this⟩
            have hB6 := HB5.out.keep hk6 hl1
            have hZ6 := HZ5.out.keep hk6 hl2
            have hX6 := HX5.out.keep hk6 hl3
            have hk06 := HK5.out.trans (hk6.mono fun b hb => by omega)
            clear hk6 hg6 hb6 HC5 HG2 HZ5 HX5 HB5 HK5 HSW
            clear c0 c1 c2 c3 c4 c5 f1 f2 f3 f4 f5 x0 x1 x2 z0 z1 z2 z3 z4 z5 y0 y1 y2 y3 y4 y5 hmk
            generalize hb4 : w4.heap.size = b4 at *
            clear hb4
            have c0 := (hB6).cell 0
            have c1 := (hB6).cell 1
            have c2 := (hB6).cell 2
            have c3 := (hB6).cell 3
            have c4 := (hB6).cell 4
            have c5 := (hB6).cell 5
            simp only [List.getElem?_cons_zero, List.getElem?_cons_succ] at c0 c1 c2 c3 c4 c5
            have x0 := (hX6).cell 0
            have x1 := (hX6).cell 1
            have x2 := (hX6).cell 2
            simp only [List.getElem?_cons_zero, List.getElem?_cons_succ] at x0 x1 x2
            have fn := hN6.free n
            have cn := hN6.cell n
            rw [List.getElem?_map, List.getElem?_eq_getElem hn] at cn
            have hx0 := hX6.lt
            simp only [Option.map_some] at cn
            have i5 : (n : Int) < (cells.length : Int) := by omega
            obtain ⟨vl0, vl1⟩ := HL.out
            obtain ⟨vv0, vv1⟩ := HXW.out.2.2
            go_wp2_with fail
            rw [HCA.out.1, HCA.out.2]
            refine calls_gen (fun W => Blk W b4 ((cells.set n ((last + vv) % 4294967296)).map (Value.int .u32)) ∧ Blk W (b1 + 1) zeros6 ∧ Keeps (· < b1) w W) ⟨?_, ?_, ?_⟩ ?_
            · have h := (hN6.set n (.int .u32 vv)).set n (.int .u32 ((last + vv) % 4294967296))
              rw [List.set_set] at h
              rw [List.map_set]; exact h
            · repeat (first | with_reducible assumption | with_reducible exact Blk.new _ _ _ | with_reducible refine Blk.drew ?_ | with_reducible refine Blk.drewN ?_ _ | with_reducible refine Blk.set_ne ?_ _ ?_ | (with_reducible refine Blk.new' _ _ _ ?_; focus (simp; done)) | with_reducible refine Blk.alloc ?_ _)
              all_goals (first | assumption | (simp; done) | (simp; omega))
            · repeat (first | with_reducible assumption | with_reducible refine Keeps.setCell ?_ ?_ _)
              all_goals (simp; omega)
            clear hB6 hZ6 hX6 hk06 hN6 c0 c1 c2 c3 c4 c5 x0 x1 x2 fn cn
            rintro w7 ⟨hN7, hZ7, hk7⟩
            have hl7 := hZ7.lt
            have hl8 := hN7.lt
            have hcall := on_call (w := w7) ⟨l, k1 + 1, last, false, err, made + 1⟩ (some ⟨b, off, none⟩) cap (HS.out.keep hk7 HK.out) (fun b hb => by have := HK.out b hb; omega) hklt HL.out
            obtain ⟨k2, o2, hon2⟩ : ∃ k2 o2, ProgM.on ⟨l, k1 + 1, last, false, err, made + 1⟩ = ⟨l, k2, last, o2, err, made + 1⟩ := ⟨_, _, rfl⟩
            simp only [↓reduceIte] at hR'
            simp only [hon2] at hcall hR'
            clear hon2
            refine hcall.mono ?_
            rintro e w8 ⟨rfl, hk8⟩
            have hZ8 := hZ7.keep hk8 hl7
            have hN8 := hN7.keep hk8 hl8
            have hk08 : Keeps (· < b1) w w8 := hk7.trans (hk8.mono fun b hb => by omega)
            clear hcall
            have z0 := hZ8.cell 0
            have z1 := hZ8.cell 1
            have z2 := hZ8.cell 2
            have z3 := hZ8.cell 3
            have z4 := hZ8.cell 4
            have z5 := hZ8.cell 5
            have y0 := hZ8.free 0
            have y1 := hZ8.free 1
            have y2 := hZ8.free 2
            have y3 := hZ8.free 3
            have y4 := hZ8.free 4
            have y5 := hZ8.free 5
            simp only [zeros6, List.getElem?_cons_zero, List.getElem?_cons_succ] at z0 z1 z2 z3 z4 z5
            have hkf := hk08.set6 (b := b1 + 1) (.slice (some ⟨b, off, none⟩) l.length cap) (.int .i64 k2) (.int .u32 last) (.bool o2) (.int .i64 err) (.int .i64 (made + 1 : Nat)) (by omega)
            have hnf := hN8.set6_ne (b := b1 + 1) (.slice (some ⟨b, off, none⟩) l.length cap) (.int .i64 k2) (.int .u32 last) (.bool o2) (.int .i64 err) (.int .i64 (made + 1 : Nat)) (by omega)
            have hsf := SlAt.of_blk (K := fun b => KC b ∨ b1 ≤ b) hnf (Or.inr (by omega)) (by rw [List.length_map, List.length_set]; unfold maxLen; omega)
            rw [List.length_map, List.length_set] at hsf
            have HKF := hid hkf
            have HSL := hid hsf
            clear hkf hk08 hk8 hk7 hZ8 hZ7 hN8 hN7 hnf hsf
            go_wp2_with fail
            refine bodyPost_ret (v := .tuple #[.agg #[.slice (some ⟨b, off, none⟩) l.length cap, .int .i64 k2, .int .u32 last, .bool o2, .int .i64 err, .int .i64 (made + 1 : Nat)], .slice (some ⟨b4, 0, none⟩) cells.length cells.length])
              (by simp [results, Try.results25, go_sem, z0, z1, z2, z3, z4, z5]) rfl (hR'.out _ _ ⟨_, rfl, HSL.out, HKF.out⟩)
end Go.Proofs.Ytjnaibmnpajfdaa
