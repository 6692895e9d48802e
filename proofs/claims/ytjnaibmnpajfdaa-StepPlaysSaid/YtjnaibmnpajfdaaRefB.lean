/- StepPlays: (Prog).on. -/
import Derived.Test.YtjnaibmnpajfdaaRefA
import Derived.Deep.LoopGhost
namespace Go.Proofs.Ytjnaibmnpajfdaa
open Go.RowKit

def ProgM.row (p : ProgM) (A : Option Addr) (cap : Nat) : List Value := [.slice A p.l.length cap, .int .i64 p.at_, .int .u32 p.last, .bool p.over, .int .i64 p.err, .int .i64 p.made]

theorem skip_at {l : List InsM} {k : Nat} {last : Int} (h : quietL (l.drop k) last = 1) : k < l.length ∧ k + skipN (l.drop k) last = (k + 1) + skipN (l.drop (k + 1)) last := by
  obtain ⟨x, xs, e, hs⟩ := quiet_one h
  have hlt : k < l.length := by
    have := congrArg List.length e
    simp at this
    omega
  have hd : l.drop (k + 1) = xs := by
    rw [← List.drop_drop, e]; rfl
  exact ⟨hlt, by rw [hs, hd]; omega⟩

set_option maxRecDepth 100000 in
set_option maxHeartbeats 1000000 in
theorem on_call {w : World} {K : Nat → Prop} (p : ProgM) (A : Option Addr) (cap : Nat) (hsl : SlAt w K 3 (.slice A p.l.length cap) p.l.length (p.l.flatMap InsM.cells)) (hK : ∀ b, K b → b < w.heap.size) (hat : p.at_ ≤ p.l.length) (hlast : U32 p.last) :
    Calls Try.prog 57 #[.agg #[.slice A p.l.length cap, .int .i64 p.at_, .int .u32 p.last, .bool p.over, .int .i64 p.err, .int .i64 p.made]] w fun e w' =>
      e = .returned (.agg #[.slice A p.l.length cap, .int .i64 p.on.at_, .int .u32 p.last, .bool p.on.over, .int .i64 p.err, .int .i64 p.made]) ∧ Keeps (· < w.heap.size) w w' := by
  obtain ⟨l, at_, last, over, err, made⟩ := p
  simp only at hsl hat hlast ⊢
  have hln : (l.length : Int) ≤ 9223372036854775807 := by
    obtain ⟨A', cap', he, h1, h2, _⟩ := hsl
    unfold maxLen at h2
    omega
  have HS := hid hsl
  have HK := hid hK
  have HL := hid hlast
  clear hsl hK hlast
  refine calls_hide fun R' hR' => ?_
  go_enter Try.func57, Try.ntmps57
  go_wp2_with fail
  generalize hb1 : w.heap.size = b1 at *
  go_loopg [] (l.length - at_) (fun g wr => ∃ k : Nat, k ≤ l.length ∧ k + skipN (l.drop k) last = at_ + skipN (l.drop at_) last ∧ g = l.length - k ∧
    Blk wr b1 [.slice A l.length cap, .int .i64 k, .int .u32 last, .bool over, .int .i64 err, .int .i64 made] ∧ Blk wr (b1 + 1) [.slice none 0 0, .int .i64 0, .int .u32 0, .bool false, .int .i64 0, .int .i64 0] ∧ Keeps (· < b1) w wr)
  case atStart =>
    refine ⟨at_, hat, rfl, rfl, ?_, ?_, ?_⟩
    · refine Blk.alloc ?_ _
      rw [← hb1]; exact Blk.new w _ _
    · have := Blk.new (w.alloc (.cells #[.slice A l.length cap, .int .i64 at_, .int .u32 last, .bool over, .int .i64 err, .int .i64 made] 49)) [.slice none 0 0, .int .i64 0, .int .u32 0, .bool false, .int .i64 0, .int .i64 0] 49
      simpa [hb1] using this
    · refine ((Keeps.refl _ _).alloc (fun b hb => by omega) _).alloc (fun b hb => ?_) _
      simp; omega
  case round =>
    obtain ⟨k, hk, hsk, hgk, hB, hZ, hkp⟩ := hrel
    have c0 := hB.cell 0
    have c1 := hB.cell 1
    have c2 := hB.cell 2
    have c3 := hB.cell 3
    have c4 := hB.cell 4
    have c5 := hB.cell 5
    simp only [List.getElem?_cons_zero, List.getElem?_cons_succ] at c0 c1 c2 c3 c4 c5
    have hlt := hB.lt
    have hlt2 := hZ.lt
    generalize hq : quietL (l.drop k) last = q at *
    have hc : ∀ w2 : World, Keeps (· < b1) w w2 → Calls Try.prog 79 #[.agg #[.slice A l.length cap, .int .i64 k, .int .u32 last, .bool over, .int .i64 err, .int .i64 made]] w2 fun e w' => e = .returned (.int .i64 q) ∧ Keeps (· < w2.heap.size) w2 w' := by
      intro w2 hk2
      have := quiet_call ⟨l, k, last, over, err, made⟩ A cap (HS.out.keep hk2 HK.out) (fun b hb => by have := HK.out b hb; have := hk2.size; omega) hk HL.out
      rw [show ProgM.quiet ⟨l, k, last, over, err, made⟩ = q from hq] at this
      exact this
    have HC := hid hc
    have HG := hid (And.intro hsk (And.intro hgk (And.intro hq hkp)))
    have HB := hid hB
    have HZ := hid hZ
    clear hc hsk hgk hq hkp hB hZ
    by_cases hq1 : q = 1
    · subst hq1
      obtain ⟨hlk, hnx⟩ := skip_at HG.out.2.2.1
      have HNX := hid hnx
      clear hnx
      have i1 : (k : Int) + 1 ≤ 9223372036854775807 := by omega
      go_wp2_with fail
      refine (HC.out wr HG.out.2.2.2).mono ?_
      rintro e w1 ⟨rfl, hk1⟩
      have hB1 := HB.out.keep hk1 hlt
      have d1 := hB1.cell 1
      have f1 := hB1.free 1
      simp only [List.getElem?_cons_zero, List.getElem?_cons_succ] at d1
      have HK1 := hid hk1
      have HB1 := hid hB1
      clear hk1 hB1 c0 c1 c2 c3 c4 c5
      go_wp2_with fail
      go_roundg (l.length - (k + 1))
      case measure => have := HG.out.2.1; omega
      case rel =>
        refine ⟨k + 1, hlk, HNX.out.symm.trans HG.out.1, rfl, ?_, ?_, ?_⟩
        · exact HB1.out.set 1 _
        · exact (HZ.out.keep HK1.out hlt2).set_ne _ (by simp)
        · exact ((HG.out.2.2.2).trans (HK1.out.mono fun b hb => by omega)).setCell (by simp) _
    · have hb : (q == 1) = false := by simpa using hq1
      have hs0 : skipN (l.drop k) last = 0 := quiet_not_one (by rw [HG.out.2.2.1]; exact hq1)
      have HS0 := hid hs0
      clear hs0 hq1
      go_wp2_with fail
      refine (HC.out wr HG.out.2.2.2).mono ?_
      rintro e w1 ⟨rfl, hk1⟩
      have hB1 := HB.out.keep hk1 hlt
      have d0 := hB1.cell 0
      have d1 := hB1.cell 1
      have d2 := hB1.cell 2
      have d3 := hB1.cell 3
      have d4 := hB1.cell 4
      have d5 := hB1.cell 5
      simp only [List.getElem?_cons_zero, List.getElem?_cons_succ] at d0 d1 d2 d3 d4 d5
      have HK1 := hid hk1
      have HB1 := hid hB1
      clear hk1 hB1 c0 c1 c2 c3 c4 c5
      go_wp2_with fail
      refine (HC.out w1 (HG.out.2.2.2.trans (HK1.out.mono fun b hb => by omega))).mono ?_
      rintro e w2 ⟨rfl, hk2⟩
      have hs1 := HK1.out.size
      have hB2 := HB1.out.keep hk2 (by omega)
      have hZ2 := (HZ.out.keep HK1.out hlt2).keep hk2 (by omega)
      have e0 := hB2.cell 0
      have e1 := hB2.cell 1
      have e2 := hB2.cell 2
      have e3 := hB2.cell 3
      have e4 := hB2.cell 4
      have e5 := hB2.cell 5
      have fr := hB2.free 3
      have z0 := hZ2.cell 0
      have z1 := hZ2.cell 1
      have z2 := hZ2.cell 2
      have z3 := hZ2.cell 3
      have z4 := hZ2.cell 4
      have z5 := hZ2.cell 5
      have y0 := hZ2.free 0
      have y1 := hZ2.free 1
      have y2 := hZ2.free 2
      have y3 := hZ2.free 3
      have y4 := hZ2.free 4
      have y5 := hZ2.free 5
      simp only [List.getElem?_cons_zero, List.getElem?_cons_succ] at e0 e1 e2 e3 e4 e5 z0 z1 z2 z3 z4 z5
      have HK2 := hid hk2
      clear hk2 hB2 hZ2 d0 d1 d2 d3 d4 d5
      have hat' : (ProgM.on ⟨l, at_, last, over, err, made⟩).at_ = k := by
        have := HG.out.1
        rw [HS0.out] at this
        exact this.symm
      have hov : (ProgM.on ⟨l, at_, last, over, err, made⟩).over = (over || decide (q = 2)) := by
        show (over || decide (quietL (l.drop (at_ + skipN (l.drop at_) last)) last = 2)) = _
        have h2 : at_ + skipN (l.drop at_) last = k := hat'
        rw [h2, HG.out.2.2.1]
      have HA := hid hat'
      have HO := hid hov
      clear hat' hov
      have kk : Keeps (· < b1) w w2 := (HG.out.2.2.2.trans (HK1.out.mono fun b hb => by omega)).trans (HK2.out.mono fun b hb => by omega)
      have KK := hid kk
      clear kk
      by_cases hq2 : q = 2
      · subst hq2
        have HO2 := hid (HO.out.trans (by simp : _ = true))
        go_wp2_with fail
        refine bodyPost_ret (v := .agg #[.slice A l.length cap, .int .i64 k, .int .u32 last, .bool true, .int .i64 err, .int .i64 made]) (by simp [results, Try.results57, go_sem, z0, z1, z2, z3, z4, z5]) rfl (hR'.out _ _ ⟨by rw [HA.out, HO2.out], ?_⟩)
        exact ((((((KK.out.setCell (by simp) _).setCell (by simp) _).setCell (by simp) _).setCell (by simp) _).setCell (by simp) _).setCell (by simp) _).setCell (by simp) _
      · have hb2 : (q == 2) = false := by simpa using hq2
        have HO2 := hid (HO.out.trans (by simp [hq2] : _ = over))
        clear hq2
        go_wp2_with fail
        refine bodyPost_ret (v := .agg #[.slice A l.length cap, .int .i64 k, .int .u32 last, .bool over, .int .i64 err, .int .i64 made]) (by simp [results, Try.results57, go_sem, z0, z1, z2, z3, z4, z5]) rfl (hR'.out _ _ ⟨by rw [HA.out, HO2.out], ?_⟩)
        exact (((((KK.out.setCell (by simp) _).setCell (by simp) _).setCell (by simp) _).setCell (by simp) _).setCell (by simp) _).setCell (by simp) _
end Go.Proofs.Ytjnaibmnpajfdaa
