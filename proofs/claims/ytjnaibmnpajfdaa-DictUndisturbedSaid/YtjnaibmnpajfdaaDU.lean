/- DictUndisturbed: the walk. -/
import Derived.Test.YtjnaibmnpajfdaaLawDG
namespace Go.Proofs.Ytjnaibmnpajfdaa
open Go.RowKit

theorem SlAt.get1 {α : Type} {f : α → Value} {w : World} {K : Nat → Prop} {v : Value} {xs : List α} (h : SlAt w K 1 v xs.length (xs.map f)) (i : Nat) (x : α) (hi : xs[i]? = some x) :
    ∃ b off cap, v = .slice (some ⟨b, off, none⟩) xs.length cap ∧ K b ∧ w.cell? ⟨b, off + i, none⟩ = some (f x) := by
  obtain ⟨A, cap, h1, h2, h3, h4, h5⟩ := h
  have hlt := (List.getElem?_eq_some_iff.1 hi).1
  obtain ⟨b, off, e, hb, hc⟩ := h5 (by omega)
  exact ⟨b, off, cap, by rw [h1, e], hb, hc i (f x) (by rw [List.getElem?_map, hi]; rfl)⟩

theorem du_final {key : List Int} {T0 T : Tab} (W0 : WF T0 16 (homeD 16)) (W : WF T 16 (homeD 16)) (hle : T0.le T) {wx wy nx ny got : Int} (h0 : probe T0 16 (homeD 16 key) key 16 0 = (wx, wy))
    (h1 : probe T 16 (homeD 16 key) key 16 0 = (nx, ny)) (hF : FinD 16 key T0 T got) {lt : Bool} (hl : ∀ j a, T j = some (key, a) → lt = true ∨ T0 j = some (key, a)) :
    (wx = 0 ∧ got = 0) ∨ (wx = 0 ∧ got ≠ 0 ∧ lt = true ∧ nx = got) ∨ (wx ≠ 0 ∧ got = wx ∧ nx = wx) := by
  rcases hF with ⟨h2, h3⟩ | ⟨h2, i, a, hi, h4, h5⟩
  · refine Or.inl ⟨?_, h2⟩
    by_cases hw : wx = 0
    · exact hw
    · obtain ⟨j, a, hj, e, _⟩ := probe_sound h0 hw (by decide)
      exact absurd e (h3 j hj a)
  · have hn : nx = got := by
      rw [probe_complete W hi h4] at h1
      injection h1 with h1 _
      rw [h5]; exact h1.symm
    by_cases hw : wx = 0
    · rcases hl i a h4 with h | h
      · exact Or.inr (Or.inl ⟨hw, h2, h, hn⟩)
      · rw [probe_complete W0 hi h] at h0
        injection h0 with h0 _
        exact absurd (by rw [h5, h0]; exact hw) h2
    · obtain ⟨j, a', hj, e, e2, _⟩ := probe_sound h0 hw (by decide)
      have := W.uniq hi hj h4 (hle _ _ e)
      have hg : got = wx := by rw [h5, e2, this.2]
      exact Or.inr (Or.inr ⟨hw, hg, by rw [hn]; exact hg⟩)

set_option maxRecDepth 100000 in
set_option maxHeartbeats 16000000 in
theorem du_walk (A B C : Option Addr) (ca cb cc : Nat) (ahead behind : List ByteArray) (key : ByteArray) (turns : List Int) (w : World) (hka : ∀ x ∈ ahead, x.size ≤ 140737488351232) (hkb : ∀ x ∈ behind, x.size ≤ 140737488351232) (hU : ∀ x ∈ turns, 0 ≤ x ∧ x ≤ 255)
    (hsa : SlAt w (· < w.heap.size) 1 (.slice A ahead.length ca) ahead.length (ahead.map Value.string)) (hsb : SlAt w (· < w.heap.size) 1 (.slice B behind.length cb) behind.length (behind.map Value.string))
    (hsc : SlAt w (· < w.heap.size) 1 (.slice C turns.length cc) turns.length (turns.map (Value.int .u8))) :
    Calls Try.prog 10 #[.slice A ahead.length ca, .slice B behind.length cb, .string key, .slice C turns.length cc] w fun e w' => e = .returned (.bool true) ∧ Keeps (· < w.heap.size) w w' := by
  obtain ⟨A0, cap0, he, hca1, hca2⟩ := hsa.form
  injection he with e1 _ e3
  subst e1 e3
  obtain ⟨A0, cap0, he, hcb1, hcb2⟩ := hsb.form
  injection he with e1 _ e3
  subst e1 e3
  obtain ⟨A0, cap0, he, hcc1, hcc2⟩ := hsc.form
  injection he with e1 _ e3
  subst e1 e3
  unfold maxLen at hca2 hcb2 hcc2
  have Hsa := hid hsa
  have Hsb := hid hsb
  have Hsc := hid hsc
  have Hka := hid hka
  have Hkb := hid hkb
  have HU := hid hU
  clear hsa hsb hsc hka hkb hU
  refine calls_hide fun R' hR' => ?_
  go_enter Try.func10, Try.ntmps10
  go_wp2_with fail
  refine (plan10 599 (by decide) (by decide) _).mono ?_
  rintro e w1 ⟨rfl, hk1⟩
  have hBk := (Blk.new w [.string key] 9).keep hk1 (Blk.new w [.string key] 9).lt
  have hkk1 : Keeps (· < w.heap.size) w w1 := ((Keeps.refl _ _).alloc (fun b hb => hb) _).trans (hk1.mono fun b hb => by simp; omega)
  unfold planD PlanM.val
  clear hk1
  have Hkk1 := hid hkk1
  have HBk := hid hBk
  clear hkk1 hBk
  go_wp2_with fail
  refine calls_gen (fun W => Blk W w1.heap.size plan599 ∧ Blk W w.heap.size [.string key] ∧ Keeps (· < w.heap.size) w W) ⟨?_, ?_, ?_⟩ ?_
  · exact Blk.new w1 plan599 _
  · exact HBk.out.alloc _
  · exact Hkk1.out.alloc (fun b hb => by have := Hkk1.out.size; omega) _
  have hz1 := HBk.out.lt
  clear Hkk1 HBk
  rintro W ⟨hBp, hBk, hkk⟩
  refine (mem_new W 618 (by decide) (by decide)).mono ?_
  rintro e w3 ⟨rfl, hm3, hk3, hz3⟩
  have hlb := hBp.lt
  have hBp3 := hBp.keep hk3 hlb
  have hBk3 := hBk.keep hk3 hBk.lt
  have hkk3 := hkk.trans (hk3.mono fun b hb => by omega)
  clear hBp hBk hkk hk3
  generalize hc : W.heap.size = c at *
  generalize hmm : c + 1 = m at *
  generalize w1.heap.size = pB at *
  generalize hws : w.heap.size = ws at *
  have hz3' : m < w3.heap.size := by omega
  have hpc : pB < c := by omega
  have Hm3 := hid hm3
  have Hkk3 := hid hkk3
  have Hws := hid hws
  have HBp3 := hid hBp3
  have HBk3 := hid hBk3
  clear hm3 hkk3 hws hBp3 hBk3
  clear hc hz3
  go_wp2_with fail
  refine calls_gen (fun W => Blk W w3.heap.size [.pointer (some ⟨m, 0, none⟩)] ∧ Blk W pB plan599 ∧ Blk W ws [.string key] ∧ MemAt W m c ⟨List.replicate 618 0, 0, 0⟩ ∧ Keeps (· < ws) w W) ⟨?_, ?_, ?_, ?_, ?_⟩ ?_
  · exact Blk.new w3 [.pointer (some ⟨m, 0, none⟩)] _
  · exact HBp3.out.alloc _
  · exact HBk3.out.alloc _
  · exact Hm3.out.keep ((Keeps.refl (· < w3.heap.size) w3).alloc (fun b hb => hb) _) Hm3.out.obj.lt Hm3.out.cells.lt
  · exact Hkk3.out.alloc (fun b hb => by omega) _
  clear Hm3 Hkk3 HBp3 HBk3
  rintro W4 ⟨hBm, hBp, hBk, hm4, hkk⟩
  generalize hmB : w3.heap.size = mB at *
  refine (fixed10 W4).mono ?_
  rintro e w5 ⟨rfl, hk5⟩
  have hBm5 := hBm.keep hk5 hBm.lt
  have hBp5 := hBp.keep hk5 hBp.lt
  have hBk5 := hBk.keep hk5 hBk.lt
  have hm5 := hm4.keep hk5 hm4.obj.lt hm4.cells.lt
  have hkk5 := hkk.trans (hk5.mono fun b hb => by have := hBm.lt; omega)
  have hz5 := hk5.size
  have hlm := hBm.lt
  clear hBm hBp hBk hm4 hkk hk5 hmB
  have pm0 := (hBm5).cell 0
  simp only [List.getElem?_cons_zero, List.getElem?_cons_succ] at pm0
  have pk0 := (hBk5).cell 0
  simp only [List.getElem?_cons_zero, List.getElem?_cons_succ] at pk0
  have hz5 : mB < w5.heap.size := by omega
  clear hlm
  have hBp5' := hBp5
  unfold plan599 at hBp5'
  have p0 := (hBp5').cell 0
  have p1 := (hBp5').cell 1
  have p2 := (hBp5').cell 2
  have p3 := (hBp5').cell 3
  have p4 := (hBp5').cell 4
  have p5 := (hBp5').cell 5
  have p6 := (hBp5').cell 6
  have p7 := (hBp5').cell 7
  have p8 := (hBp5').cell 8
  have p9 := (hBp5').cell 9
  have p10 := (hBp5').cell 10
  have p11 := (hBp5').cell 11
  have p12 := (hBp5').cell 12
  have p13 := (hBp5').cell 13
  have p14 := (hBp5').cell 14
  simp only [List.getElem?_cons_zero, List.getElem?_cons_succ] at p0 p1 p2 p3 p4 p5 p6 p7 p8 p9 p10 p11 p12 p13 p14
  have Hm5 := hid hm5
  have Hkk5 := hid hkk5
  have HBm5 := hid hBm5
  have HBp5 := hid hBp5
  have HBk5 := hid hBk5
  clear hm5 hkk5 hBm5 hBp5 hBk5
  clear hBp5'
  have hpB : ws < pB := by omega
  by_cases hsz : 100 < key.size
  · have i1 : (100 : Int) < (key.size : Int) := by omega
    go_wp2_with fail
    refine (fixed10 w5).mono ?_
    rintro e w6 ⟨rfl, hk6⟩
    have hkf := Hkk5.out.trans (hk6.mono fun b hb => by omega)
    have Hkf := hid hkf
    clear hkf
    go_wp2_with fail
    exact hR'.out _ _ ⟨rfl, Hkf.out⟩
  · have i1 : (key.size : Int) ≤ 100 := by omega
    go_wp2_with fail
    refine wp_gen (fun W => Blk W w5.heap.size [.int .i64 602] ∧ DW W m c (w5.heap.size + 1) ⟨List.replicate 618 0, 0, 0⟩ (fun _ => none) 0 ∧ Blk W mB [.pointer (some ⟨m, 0, none⟩)] ∧ Blk W pB plan599 ∧ Blk W ws [.string key] ∧ Keeps (· < ws) w W) ⟨?_, ?_, ?_, ?_, ?_, ?_⟩ ?_
    · have hb := (Blk.new w5 [.int .i64 602] 3).alloc (.cells #[.int .i64 0, .int .i64 0, .int .i64 0, .int .i64 0, .int .i64 0, .int .i64 0] 74)
      exact hb
    · refine ⟨Hm5.out.keep (((Keeps.refl (· < w5.heap.size) w5).alloc (fun b hb => hb) _).alloc (fun b hb => by simp; omega) _) Hm5.out.obj.lt Hm5.out.cells.lt, rep_zeros 618 602 16 3 (by decide) (by decide) (by decide), WF.empty _ _, List.length_replicate .., by decide, ?_⟩
      exact Blk.new' _ [.int .i64 0, .int .i64 0, .int .i64 0, .int .i64 0, .int .i64 0, .int .i64 0] _ (by simp)
    · exact (HBm5.out.alloc _).alloc _
    · exact (HBp5.out.alloc _).alloc _
    · exact (HBk5.out.alloc _).alloc _
    · exact (Hkk5.out.alloc (fun b hb => by omega) _).alloc (fun b hb => by simp; omega) _
    clear pm0 pk0 p0 p1 p2 p3 p4 p5 p6 p7 p8 p9 p10 p11 p12 p13 p14 Hm5 Hkk5 HBm5 HBp5 HBk5
    generalize hsB : w5.heap.size = sB at *
    clear hsB
    rintro W6 ⟨hBs, hD, hBm, hBp, hBk, hkk⟩
    have hB6 : sB + 1 < W6.heap.size := hD.used.lt
    generalize huB : sB + 1 = uB at *
    have hmBm : m < mB := by omega
    have HBs := hid hBs
    have HD := hid hD
    have HBm := hid hBm
    have HBp := hid hBp
    have HBk := hid hBk
    have Hkk := hid hkk
    clear hBs hD hBm hBp hBk hkk
    have hGws : ∀ b, b < ws → b < W6.heap.size ∧ b ≠ m ∧ b ≠ c ∧ b ≠ uB := fun b hb => ⟨by omega, by omega, by omega, by omega⟩
    have hGs : sB < W6.heap.size ∧ sB ≠ m ∧ sB ≠ c ∧ sB ≠ uB := ⟨by omega, by omega, by omega, by omega⟩
    have hGm : mB < W6.heap.size ∧ mB ≠ m ∧ mB ≠ c ∧ mB ≠ uB := ⟨by omega, by omega, by omega, by omega⟩
    have hGp : pB < W6.heap.size ∧ pB ≠ m ∧ pB ≠ c ∧ pB ≠ uB := ⟨by omega, by omega, by omega, by omega⟩
    have hGk : ws < W6.heap.size ∧ ws ≠ m ∧ ws ≠ c ∧ ws ≠ uB := ⟨by omega, by omega, by omega, by omega⟩
    have hum : uB ≠ m ∧ uB ≠ c := ⟨by omega, by omega⟩
    have HGws := hid hGws
    have HGs := hid hGs
    have HGm := hid hGm
    have HGp := hid hGp
    have HGk := hid hGk
    have Hum := hid hum
    clear hGws hGs hGm hGp hGk hum
    have hcm : c < m := by omega
    clear hlb hz1 hmm
    go_loopw [58] (fun i wr => ∃ (k : Nat) (μ : MemS) (T : Tab) (u4 : Nat), i = .int .i64 k ∧ k ≤ ahead.length ∧ DW wr m c uB μ T u4 ∧ Keeps (fun b => b < W6.heap.size ∧ b ≠ m ∧ b ≠ c ∧ b ≠ uB) W6 wr) (fun i _ => ahead.length - (intOf i).toNat)
    case atStart => exact ⟨0, _, _, _, rfl, Nat.zero_le _, HD.out, Keeps.refl _ _⟩
    case round =>
      obtain ⟨k, μ, T, u4, rfl, hk, hD1, hK1⟩ := hrel
      by_cases hlt : k < ahead.length
      · obtain ⟨b, off, cp, e1, hKb, x0⟩ := Hsa.out.get1 k ahead[k] (List.getElem?_eq_getElem hlt)
        injection e1 with e1 _ e2
        subst e1 e2
        have hkw := Hkk.out.trans (hK1.mono HGws.out)
        have y0 := (World.cell?_of_block (a := ⟨b, off + k, none⟩) (hkw.block b hKb)).trans x0
        have hux := Hka.out ahead[k] (List.getElem_mem hlt)
        generalize ahead[k] = x at *
        have Hux := hid hux
        have HD1 := hid hD1
        have HK1 := hid hK1
        clear hux hD1 hK1
        clear x0 hkw
        have hlt' : (k : Int) < (ahead.length : Int) := by omega
        by_cases h20 : k < 20
        · have h20' : (k : Int) < 20 := by omega
          go_wp2_with fail
          refine (add_call HD1.out x Hux.out (HBm.out.keep HK1.out HGm.out) (HBs.out.keep HK1.out HGs.out) (HBp.out.keep HK1.out HGp.out) HGm.out.2 HGs.out.2 HGp.out.2 Hum.out).mono ?_
          rintro e w8 ⟨rfl, μ', T', u4', hD2, _, _, hk8⟩
          have hK2 := HK1.out.trans (hk8.mono fun b hb => ⟨by have := HK1.out.size; omega, hb.2⟩)
          have HD2 := hid hD2
          have HK2 := hid hK2
          clear hD2 hK2
          clear hk8
          go_wp2_with fail
          go_roundw
          case rel => exact ⟨k + 1, _, _, _, by go_num, by omega, HD2.out, HK2.out⟩
          case measure => simp [intOf]; omega
        · have h20' : ¬ (k : Int) < 20 := by omega
          go_wp2_with fail
          go_roundw
          case rel => exact ⟨k + 1, _, _, _, by go_num, by omega, HD1.out, HK1.out⟩
          case measure => simp [intOf]; omega
      · have hkn : k = ahead.length := by omega
        subst hkn
        have hBs7 := HBs.out.keep hK1 HGs.out
        have hBm7 := HBm.out.keep hK1 HGm.out
        have hBk7 := HBk.out.keep hK1 HGk.out
        have hkk7 := Hkk.out.trans (hK1.mono HGws.out)
        have hz7 := hK1.size
        have hBp7 := HBp.out.keep hK1 HGp.out
        have s0 := (hBs7).cell 0
        simp only [List.getElem?_cons_zero, List.getElem?_cons_succ] at s0
        have m0 := (hBm7).cell 0
        simp only [List.getElem?_cons_zero, List.getElem?_cons_succ] at m0
        have k0 := (hBk7).cell 0
        simp only [List.getElem?_cons_zero, List.getElem?_cons_succ] at k0
        clear HD Hka HBp
        have hz7' : uB < wr.heap.size := by omega
        have HD1 := hid hD1
        have HBs7 := hid hBs7
        have HBk7 := hid hBk7
        have HBm7 := hid hBm7
        have HBp7 := hid hBp7
        have Hkk7 := hid hkk7
        clear hD1 hBs7 hBk7 hBm7 hBp7 hkk7
        clear hK1 HGws HBs HBk HBm hz7
        clear HGs HGm HGp HGk Hkk hB6 i1 hk hlt
        go_wp2_with fail
        refine (find10 (K := fun b => b < wr.heap.size ∧ b ≠ m ∧ b ≠ c) HD1.out.mem (fun e => e.2.1 rfl) (fun e => e.2.2 rfl) (fun b hb => hb.1) HD1.out.rep key (by decide) (by decide) (by omega)).mono ?_
        rintro e w8 ⟨rfl, ⟨μ8, hm8, hc8⟩, hk8⟩
        have hD8 : DW w8 m c uB μ8 T u4 := ⟨hm8, by rw [hc8]; exact HD1.out.rep, HD1.out.wf, by rw [hc8]; exact HD1.out.len, HD1.out.le, HD1.out.used.keep hk8 ⟨HD1.out.used.lt, Hum.out.1, Hum.out.2⟩⟩
        obtain ⟨wx, wy, hwas⟩ : ∃ x y, probe T 16 (homeD 16 (bsL key)) (bsL key) 16 0 = (x, y) := ⟨_, _, rfl⟩
        rw [hwas]
        dsimp only
        have hBs8 := HBs7.out.keep hk8 ⟨HBs7.out.lt, by omega, by omega⟩
        have hBm8 := HBm7.out.keep hk8 ⟨HBm7.out.lt, by omega, by omega⟩
        have hBk8 := HBk7.out.keep hk8 ⟨HBk7.out.lt, by omega, by omega⟩
        have hBp8 := HBp7.out.keep hk8 ⟨HBp7.out.lt, by omega, by omega⟩
        have hkk8 := Hkk7.out.trans (hk8.mono fun b hb => ⟨(by have hb' : b < ws := hb; omega), (by have hb' : b < ws := hb; omega), (by have hb' : b < ws := hb; omega)⟩)
        have hz8 : uB < w8.heap.size := by have := hk8.size; omega
        have hzm8 : mB < w8.heap.size := by omega
        clear s0 m0 k0 hk8 hm8 hc8 HD1 HBs7 HBm7 HBk7 HBp7 Hkk7 hz7'
        have m0 := (hBm8).cell 0
        simp only [List.getElem?_cons_zero, List.getElem?_cons_succ] at m0
        have HD8 := hid hD8
        have Hwas := hid hwas
        have HBs8 := hid hBs8
        have HBm8 := hid hBm8
        have HBk8 := hid hBk8
        have HBp8 := hid hBp8
        have Hkk8 := hid hkk8
        clear hD8 hwas hBs8 hBm8 hBk8 hBp8 hkk8
        go_wp2_with fail
        refine calls_gen (fun W => Blk W w8.heap.size [.int .i64 0] ∧ DW W m c uB μ8 T u4 ∧ Blk W sB [.int .i64 602] ∧ Blk W mB [.pointer (some ⟨m, 0, none⟩)] ∧ Blk W ws [.string key] ∧ Blk W pB plan599 ∧ Keeps (· < ws) w W) ⟨?_, ?_, ?_, ?_, ?_, ?_, ?_⟩ ?_
        · exact Blk.new w8 [.int .i64 0] _
        · exact HD8.out.keep ((Keeps.refl (· < w8.heap.size) w8).alloc (fun b hb => hb) _) HD8.out.mem.obj.lt HD8.out.mem.cells.lt HD8.out.used.lt
        · exact HBs8.out.alloc _
        · exact HBm8.out.alloc _
        · exact HBk8.out.alloc _
        · exact HBp8.out.alloc _
        · exact Hkk8.out.alloc (fun b hb => by omega) _
        clear HD8 HBs8 HBm8 HBk8 HBp8 Hkk8 m0
        rintro W8 ⟨hBg, hD, hBs, hBm, hBk, hBp, hkk⟩
        generalize hgB : w8.heap.size = gB at *
        clear hgB
        refine (step_new W8 m).mono ?_
        rintro e w9 ⟨rfl, hr9, hk9, hz9⟩
        have hR9 : RM w9 (fun b => b < W8.heap.size ∧ b ≠ m ∧ b ≠ c) W8.heap.size m c ⟨run0, μ8⟩ := RM.init hD.mem hr9 hk9 (fun b hb => hb)
        have hgl := hBg.lt
        have hBg9 := hBg.keep hk9 hBg.lt
        have hD9 := hD.keep hk9 hD.mem.obj.lt hD.mem.cells.lt hD.used.lt
        have hBs9 := hBs.keep hk9 hBs.lt
        have hBm9 := hBm.keep hk9 hBm.lt
        have hBk9 := hBk.keep hk9 hBk.lt
        have hBp9 := hBp.keep hk9 hBp.lt
        have hkk9 := hkk.trans (hk9.mono fun b hb => by omega)
        clear hBg hD hBs hBm hBk hBp hkk hr9 hz9
        have hz9 := hk9.size
        clear hk9
        generalize W8.heap.size = r at *
        have hK9 : ∀ b, (b < r ∧ b ≠ m ∧ b ≠ c ∧ b ≠ uB ∧ b ≠ gB) → (b < r ∧ b ≠ m ∧ b ≠ c) := fun b hb => ⟨hb.1, hb.2.1, hb.2.2.1⟩
        have hGws : ∀ b, b < ws → b < r ∧ b ≠ m ∧ b ≠ c ∧ b ≠ uB ∧ b ≠ gB := fun b hb => ⟨by omega, by omega, by omega, by omega, by omega⟩
        have hGs : sB < r ∧ sB ≠ m ∧ sB ≠ c ∧ sB ≠ uB ∧ sB ≠ gB := ⟨by omega, by omega, by omega, by omega, by omega⟩
        have hGm : mB < r ∧ mB ≠ m ∧ mB ≠ c ∧ mB ≠ uB ∧ mB ≠ gB := ⟨by omega, by omega, by omega, by omega, by omega⟩
        have hGp : pB < r ∧ pB ≠ m ∧ pB ≠ c ∧ pB ≠ uB ∧ pB ≠ gB := ⟨by omega, by omega, by omega, by omega, by omega⟩
        have hGk : ws < r ∧ ws ≠ m ∧ ws ≠ c ∧ ws ≠ uB ∧ ws ≠ gB := ⟨by omega, by omega, by omega, by omega, by omega⟩
        have hKg : gB < r ∧ gB ≠ m ∧ gB ≠ c := ⟨by omega, by omega, by omega⟩
        have hKu : uB < r ∧ uB ≠ m ∧ uB ≠ c := ⟨by omega, by omega, by omega⟩
        have hug : uB ≠ gB := by omega
        have hW0 := hD9.wf
        have hst := FindAt.start 602 16 (homeD 16 (bsL key)) (bsL key) T (by decide)
        have hwy := way_start (findD 602 16 (homeD 16 (bsL key)) (packC (bsL key)) (bsL key).length 16 0) μ8 false false false 0
        have hF0 : FState (bsL key) T T ⟨run0, μ8⟩ 0 (16 * 27) := Or.inr ⟨rfl, _, hwy, hst⟩
        clear hst hwy
        generalize hT0 : T = T0 at *
        have HR9 := hid hR9
        have HBg9 := hid hBg9
        have HD9 := hid hD9
        have HBs9 := hid hBs9
        have HBm9 := hid hBm9
        have HBk9 := hid hBk9
        have HBp9 := hid hBp9
        have Hkk9 := hid hkk9
        have HK9 := hid hK9
        have HGws := hid hGws
        have HGs := hid hGs
        have HGm := hid hGm
        have HGp := hid hGp
        have HGk := hid hGk
        have HKg := hid hKg
        have HKu := hid hKu
        have Hug := hid hug
        have HW0 := hid hW0
        have HF0 := hid hF0
        clear hR9 hBg9 hD9 hBs9 hBm9 hBk9 hBp9 hkk9 hK9 hGws hGs hGm hGp hGk hKg hKu hug hW0 hF0
        clear hT0 huB hpc hpB hz8 hmBm hz3' hgl hzm8 hcm
        go_wp2_with fail
        go_loopw [82, 23] (fun i lv wr => ∃ (k : Nat) (T : Tab) (u4 : Nat) (S : St) (got : Int) (d : Nat) (lt : Bool), i = .int .i64 k ∧ k ≤ turns.length ∧ lv = .bool lt ∧ RM wr (fun b => b < r ∧ b ≠ m ∧ b ≠ c) r m c S ∧ DW wr m c uB S.m T u4 ∧
          Blk wr gB [.int .i64 got] ∧ T0.le T ∧ FState (bsL key) T0 T S got d ∧ d ≤ 432 ∧ S.r.log.length ≤ k ∧ (∀ j a, T j = some (bsL key, a) → lt = true ∨ T0 j = some (bsL key, a)) ∧
          Keeps (fun b => b < r ∧ b ≠ m ∧ b ≠ c ∧ b ≠ uB ∧ b ≠ gB) w9 wr ∧ k ≤ 101) (fun i _ _ => turns.length - (intOf i).toNat)
        case atStart => exact ⟨0, T0, u4, _, 0, _, false, rfl, Nat.zero_le _, rfl, HR9.out, HD9.out, HBg9.out, Tab.le_refl _, HF0.out, by decide, Nat.zero_le _, fun j a h => Or.inr h, Keeps.refl _ _, by decide⟩
        case round =>
          obtain ⟨k, T, u4, S, got, d, lt, rfl, hk, rfl, hR, hD, hBg, hle, hF, hd, hlog, hlat, hK, hk101⟩ := hrel
          by_cases hlt : k < turns.length
          · obtain ⟨b, off, cp, e1, hKb, x0⟩ := Hsc.out.get1 k turns[k] (List.getElem?_eq_getElem hlt)
            injection e1 with e1 _ e2
            subst e1 e2
            have hkw := Hkk9.out.trans (hK.mono HGws.out)
            have y0 := (World.cell?_of_block (a := ⟨b, off + k, none⟩) (hkw.block b hKb)).trans x0
            have hux := HU.out turns[k] (List.getElem_mem hlt)
            generalize turns[k] = x at *
            obtain ⟨ux0, ux1⟩ := hux
            have hlt' : (k : Int) < (turns.length : Int) := by omega
            have hBs := HBs9.out.keep hK HGs.out
            have hBk := HBk9.out.keep hK HGk.out
            have hBm := HBm9.out.keep hK HGm.out
            have hBp := HBp9.out.keep hK HGp.out
            have HR := hid hR
            have HD := hid hD
            have HBg := hid hBg
            have Hle := hid hle
            have HF := hid hF
            have Hd := hid hd
            have Hlog := hid hlog
            have Hlat := hid hlat
            have HK := hid hK
            have HBs := hid hBs
            have HBk := hid hBk
            have HBm := hid hBm
            have HBp := hid hBp
            have Hkw := hid hkw
            clear hR hD hBg hle hF hd hlog hlat hK hBs hBk hBm hBp hkw
            have hst := du_step HR.out sB ws gB key got (by omega) HBs.out HBk.out HBg.out ⟨HGs.out.1, HGs.out.2.1, HGs.out.2.2.1⟩ ⟨HGk.out.1, HGk.out.2.1, HGk.out.2.2.1⟩ HKg.out HGs.out.2.2.2.2 HGk.out.2.2.2.2 HF.out HD.out.rep HW0.out Hle.out (by have := Hlog.out; omega)
            have HST := hid hst
            clear hst
            clear x0
            by_cases h100 : 100 < k
            · have h100' : (100 : Int) < (k : Int) := by omega
              go_wp2_with fail
              clear HST HBs HBk HBm HBp Hkw y0
              go_loopw [122] (fun i w3 => ∃ (q : Nat) (S3 : St) (got3 : Int) (d3 : Nat), i = .int .i64 q ∧ q ≤ 3000 ∧ RM w3 (fun b => b < r ∧ b ≠ m ∧ b ≠ c) r m c S3 ∧ DW w3 m c uB S3.m T u4 ∧ Blk w3 gB [.int .i64 got3] ∧ FState (bsL key) T0 T S3 got3 d3 ∧
                (S3.r.over = true ∨ d3 + q ≤ 432) ∧ S3.r.log.length ≤ 101 + q ∧ Keeps (fun b => b < r ∧ b ≠ m ∧ b ≠ c ∧ b ≠ uB ∧ b ≠ gB) w9 w3) (fun i _ => 3000 - (intOf i).toNat)
              case atStart => exact ⟨0, S, got, d, rfl, Nat.zero_le _, HR.out, HD.out, HBg.out, HF.out, Or.inr Hd.out, by have := Hlog.out; omega, HK.out⟩
              case round =>
                rename World => w3
                obtain ⟨q, S3, got3, d3, rfl, hq, hR3, hD3, hB3, hF3, hd3, hl3, hK3⟩ := hrel
                have HR3 := hid hR3
                have HD3 := hid hD3
                have HB3 := hid hB3
                have HF3 := hid hF3
                have Hd3 := hid hd3
                have Hl3 := hid hl3
                have HK3 := hid hK3
                clear hR3 hD3 hB3 hF3 hd3 hl3 hK3
                clear HR HD HBg HF Hd Hlog HK
                by_cases hq3 : q < 3000
                · have hq3' : (q : Int) < 3000 := by omega
                  have hst3 := du_step HR3.out sB ws gB key got3 (by omega) (HBs9.out.keep HK3.out HGs.out) (HBk9.out.keep HK3.out HGk.out) HB3.out ⟨HGs.out.1, HGs.out.2.1, HGs.out.2.2.1⟩ ⟨HGk.out.1, HGk.out.2.1, HGk.out.2.2.1⟩ HKg.out HGs.out.2.2.2.2 HGk.out.2.2.2.2 HF3.out HD3.out.rep HW0.out Hle.out (by have := Hl3.out; omega)
                  have Hst3 := hid hst3
                  clear hst3
                  go_wp2_with fail
                  refine Hst3.out.mono ?_
                  rintro e w' ⟨S', o2, d', rfl, hR', hB', hK', hc', hF', hdd, hl', hd', ho'⟩
                  have hD' : DW w' m c uB S'.m T u4 := ⟨hR'.mem, by rw [hc']; exact HD3.out.rep, HD3.out.wf, by rw [hc']; exact HD3.out.len, HD3.out.le, HD3.out.used.keep hK' ⟨HKu.out, Hug.out⟩⟩
                  have hK2 := HK3.out.trans (hK'.mono fun b hb => ⟨HK9.out b hb, hb.2.2.2.2⟩)
                  have hd4 : S'.r.over = true ∨ d' + (q + 1) ≤ 432 := by
                    rcases hdd with h | h
                    · rcases Hd3.out with h2 | h2
                      · exact Or.inl (ho' h2)
                      · exact Or.inr (by omega)
                    · exact Or.inl h
                  have hl4 : S'.r.log.length ≤ 101 + (q + 1) := by have := Hl3.out; omega
                  clear hK' hc' hdd hl' hd' ho' HR3 HD3 HB3 HF3 Hd3 Hl3 HK3 Hst3
                  cases hov : S'.r.over with
                  | true =>
                    have HR3 := hid hR'
                    have HD3 := hid hD'
                    have HB3 := hid hB'
                    have HF3 := hid hF'
                    have HK3 := hid hK2
                    have Hov3 := hid hov
                    clear hR' hD' hB' hF' hK2 hov hd4 hl4
                    generalize w' = w3 at *
                    generalize S' = S3 at *
                    generalize o2 = got3 at *
                    have hBm := HBm9.out.keep HK3.out HGm.out
                    have hBs := HBs9.out.keep HK3.out HGs.out
                    have hBk := HBk9.out.keep HK3.out HGk.out
                    have m0 := (hBm).cell 0
                    simp only [List.getElem?_cons_zero, List.getElem?_cons_succ] at m0
                    have s0 := (hBs).cell 0
                    simp only [List.getElem?_cons_zero, List.getElem?_cons_succ] at s0
                    have k0 := (hBk).cell 0
                    simp only [List.getElem?_cons_zero, List.getElem?_cons_succ] at k0
                    clear hBm hBs hBk
                    go_wp2_with fail
                    refine (find10 (K := fun b => b < w3.heap.size ∧ b ≠ m ∧ b ≠ c) HD3.out.mem (fun e => e.2.1 rfl) (fun e => e.2.2 rfl) (fun b hb => hb.1) HD3.out.rep key (by decide) (by decide) (by omega)).mono ?_
                    rintro e w10 ⟨rfl, _, hk10⟩
                    obtain ⟨g, hrun, hg⟩ := HR3.out.run
                    have hrun10 := hrun.keep hk10 ⟨HR3.out.lts.1, HR3.out.rm, HR3.out.rc⟩ (fun b hb => ⟨own_ne hrun.log b hb, (hg b hb).2.1, (hg b hb).2.2.1⟩)
                    have hBg10 := HB3.out.keep hk10 ⟨HB3.out.lt, HKg.out.2.1, HKg.out.2.2⟩
                    have hkf := Hkk9.out.trans (HK3.out.mono HGws.out) |>.trans (hk10.mono fun b hb => ⟨by have h1 := (HGws.out b hb).1; have := HR3.out.lts.1; omega, (HGws.out b hb).2.1, (HGws.out b hb).2.2.1⟩)
                    have hFin : FinD 16 (bsL key) T0 T got3 := by
                      rcases HF3.out with ⟨_, h⟩ | ⟨h, _⟩
                      · exact h
                      · rw [Hov3.out] at h; cases h
                    obtain ⟨nx, ny, hnow⟩ : ∃ x y, probe T 16 (homeD 16 (bsL key)) (bsL key) 16 0 = (x, y) := ⟨_, _, rfl⟩
                    have hfin := du_final HW0.out HD3.out.wf Hle.out Hwas.out hnow hFin Hlat.out
                    rw [hnow]
                    dsimp only
                    have hover := run_over hrun10
                    rw [Hov3.out] at hover
                    have Hkf := hid hkf
                    have Hover := hid hover
                    clear hkf hover
                    have g0 := (hBg10).cell 0
                    simp only [List.getElem?_cons_zero, List.getElem?_cons_succ] at g0
                    clear m0 s0 k0 hk10 hrun hg hrun10 hBg10 hFin hnow
                    clear HR3 HD3 HB3 HF3 HK3
                    rcases hfin with ⟨h1, h2⟩ | ⟨h1, h2, h3, h4⟩ | ⟨h1, h2, h3⟩
                    · rw [h1]; rw [h2] at g0
                      cases lt with
                      | true =>
                        go_wp2_with fail
                        refine Hover.out.mono ?_
                        rintro e w11 ⟨rfl, rfl⟩
                        go_wp2_with fail
                        exact hR'.out _ _ ⟨rfl, Hkf.out⟩
                      | false =>
                        go_wp2_with fail
                        refine Hover.out.mono ?_
                        rintro e w11 ⟨rfl, rfl⟩
                        go_wp2_with fail
                        exact hR'.out _ _ ⟨rfl, Hkf.out⟩
                    · rw [h1, h3, h4]
                      have hb : (got3 == 0) = false := by simpa using h2
                      go_wp2_with fail
                      refine Hover.out.mono ?_
                      rintro e w11 ⟨rfl, rfl⟩
                      go_wp2_with fail
                      exact hR'.out _ _ ⟨rfl, Hkf.out⟩
                    · rw [h3]; rw [h2] at g0
                      have hb : (wx == 0) = false := by simpa using h1
                      have hb2 : (wx != 0) = true := by simpa using h1
                      go_wp2_with fail
                      refine Hover.out.mono ?_
                      rintro e w11 ⟨rfl, rfl⟩
                      go_wp2_with fail
                      exact hR'.out _ _ ⟨rfl, Hkf.out⟩
                  | false =>
                    have HR' := hid hR'
                    have HD' := hid hD'
                    have HB' := hid hB'
                    have HF' := hid hF'
                    have HK2 := hid hK2
                    have Hd4 := hid hd4
                    have Hl4 := hid hl4
                    clear hR' hD' hB' hF' hK2 hd4 hl4
                    go_wp2_with fail
                    go_roundw
                    case rel => exact ⟨q + 1, S', o2, d', by go_num, by omega, HR'.out, HD'.out, HB'.out, HF'.out, Hd4.out, Hl4.out, HK2.out⟩
                    case measure => simp [intOf]; omega
                · have hq3' : ¬ (q : Int) < 3000 := by omega
                  have hov3 : S3.r.over = true := by
                    rcases Hd3.out with h | h
                    · exact h
                    · omega
                  have Hov3 := hid hov3
                  clear hov3
                  clear Hd3 Hl3
                  have hBm := HBm9.out.keep HK3.out HGm.out
                  have hBs := HBs9.out.keep HK3.out HGs.out
                  have hBk := HBk9.out.keep HK3.out HGk.out
                  have m0 := (hBm).cell 0
                  simp only [List.getElem?_cons_zero, List.getElem?_cons_succ] at m0
                  have s0 := (hBs).cell 0
                  simp only [List.getElem?_cons_zero, List.getElem?_cons_succ] at s0
                  have k0 := (hBk).cell 0
                  simp only [List.getElem?_cons_zero, List.getElem?_cons_succ] at k0
                  clear hBm hBs hBk
                  go_wp2_with fail
                  refine (find10 (K := fun b => b < w3.heap.size ∧ b ≠ m ∧ b ≠ c) HD3.out.mem (fun e => e.2.1 rfl) (fun e => e.2.2 rfl) (fun b hb => hb.1) HD3.out.rep key (by decide) (by decide) (by omega)).mono ?_
                  rintro e w10 ⟨rfl, _, hk10⟩
                  obtain ⟨g, hrun, hg⟩ := HR3.out.run
                  have hrun10 := hrun.keep hk10 ⟨HR3.out.lts.1, HR3.out.rm, HR3.out.rc⟩ (fun b hb => ⟨own_ne hrun.log b hb, (hg b hb).2.1, (hg b hb).2.2.1⟩)
                  have hBg10 := HB3.out.keep hk10 ⟨HB3.out.lt, HKg.out.2.1, HKg.out.2.2⟩
                  have hkf := Hkk9.out.trans (HK3.out.mono HGws.out) |>.trans (hk10.mono fun b hb => ⟨by have h1 := (HGws.out b hb).1; have := HR3.out.lts.1; omega, (HGws.out b hb).2.1, (HGws.out b hb).2.2.1⟩)
                  have hFin : FinD 16 (bsL key) T0 T got3 := by
                    rcases HF3.out with ⟨_, h⟩ | ⟨h, _⟩
                    · exact h
                    · rw [Hov3.out] at h; cases h
                  obtain ⟨nx, ny, hnow⟩ : ∃ x y, probe T 16 (homeD 16 (bsL key)) (bsL key) 16 0 = (x, y) := ⟨_, _, rfl⟩
                  have hfin := du_final HW0.out HD3.out.wf Hle.out Hwas.out hnow hFin Hlat.out
                  rw [hnow]
                  dsimp only
                  have hover := run_over hrun10
                  rw [Hov3.out] at hover
                  have Hkf := hid hkf
                  have Hover := hid hover
                  clear hkf hover
                  have g0 := (hBg10).cell 0
                  simp only [List.getElem?_cons_zero, List.getElem?_cons_succ] at g0
                  clear m0 s0 k0 hk10 hrun hg hrun10 hBg10 hFin hnow
                  clear HR3 HD3 HB3 HF3 HK3
                  rcases hfin with ⟨h1, h2⟩ | ⟨h1, h2, h3, h4⟩ | ⟨h1, h2, h3⟩
                  · rw [h1]; rw [h2] at g0
                    cases lt with
                    | true =>
                      go_wp2_with fail
                      refine Hover.out.mono ?_
                      rintro e w11 ⟨rfl, rfl⟩
                      go_wp2_with fail
                      exact hR'.out _ _ ⟨rfl, Hkf.out⟩
                    | false =>
                      go_wp2_with fail
                      refine Hover.out.mono ?_
                      rintro e w11 ⟨rfl, rfl⟩
                      go_wp2_with fail
                      exact hR'.out _ _ ⟨rfl, Hkf.out⟩
                  · rw [h1, h3, h4]
                    have hb : (got3 == 0) = false := by simpa using h2
                    go_wp2_with fail
                    refine Hover.out.mono ?_
                    rintro e w11 ⟨rfl, rfl⟩
                    go_wp2_with fail
                    exact hR'.out _ _ ⟨rfl, Hkf.out⟩
                  · rw [h3]; rw [h2] at g0
                    have hb : (wx == 0) = false := by simpa using h1
                    have hb2 : (wx != 0) = true := by simpa using h1
                    go_wp2_with fail
                    refine Hover.out.mono ?_
                    rintro e w11 ⟨rfl, rfl⟩
                    go_wp2_with fail
                    exact hR'.out _ _ ⟨rfl, Hkf.out⟩
            · have h100' : (k : Int) ≤ 100 := by omega
              by_cases hev : x % 2 = 0
              · have hbev : (x % 2 == 0) = true := by simpa using hev
                by_cases hkb : k < behind.length
                · have hkb' : (k : Int) < (behind.length : Int) := by omega
                  obtain ⟨g, hrun, _⟩ := HR.out.run
                  go_wp2_with fail
                  refine (run_over hrun).mono ?_
                  rintro e w' ⟨rfl, rfl⟩
                  cases hov : S.r.over with
                  | true =>
                    clear hrun
                    go_wp2_with fail
                    refine HST.out.mono ?_
                    rintro e w' ⟨S', o2, d', rfl, hR', hB', hK', hc', hF', _, hl', hd', _⟩
                    have hD' : DW w' m c uB S'.m T u4 := ⟨hR'.mem, by rw [hc']; exact HD.out.rep, HD.out.wf, by rw [hc']; exact HD.out.len, HD.out.le, HD.out.used.keep hK' ⟨HKu.out, Hug.out⟩⟩
                    have hK2 := HK.out.trans (hK'.mono fun b hb => ⟨HK9.out b hb, hb.2.2.2.2⟩)
                    clear hK' hc'
                    have HR' := hid hR'
                    have HD' := hid hD'
                    have HB' := hid hB'
                    have HF' := hid hF'
                    have HK2 := hid hK2
                    clear hR' hD' hB' hF' hK2
                    go_wp2_with fail
                    go_roundw
                    case rel => exact ⟨k + 1, T, u4, S', o2, d', lt, by go_num, by omega, rfl, HR'.out, HD'.out, HB'.out, Hle.out, HF'.out, by have := Hd.out; omega, by have := Hlog.out; omega, Hlat.out, HK2.out, by omega⟩
                    case measure => simp [intOf]; omega
                  | false =>
                    clear hrun
                    obtain ⟨b2, off2, cp2, e1, hKb2, x0⟩ := Hsb.out.get1 k behind[k] (List.getElem?_eq_getElem hkb)
                    injection e1 with e1 _ e2
                    subst e1 e2
                    have y1 := (World.cell?_of_block (a := ⟨b2, off2 + k, none⟩) (Hkw.out.block b2 hKb2)).trans x0
                    have hsx := Hkb.out behind[k] (List.getElem_mem hkb)
                    generalize behind[k] = xs at *
                    have hk0 := HBk.out
                    have k0 := (hk0).cell 0
                    simp only [List.getElem?_cons_zero, List.getElem?_cons_succ] at k0
                    have Hsx := hid hsx
                    clear hsx
                    clear hk0 x0
                    cases lt with
                    | true =>
                      go_wp2_with fail
                      go_quiet (fail)
                      go_wp2_with fail
                      refine (add_call (HD.out.keep ((Keeps.refl (fun _ => True) _).drewN nq) trivial trivial trivial) xs Hsx.out (HBm.out.drewN nq) (HBs.out.drewN nq) (HBp.out.drewN nq) ⟨HGm.out.2.1, HGm.out.2.2.1, HGm.out.2.2.2.1⟩ ⟨HGs.out.2.1, HGs.out.2.2.1, HGs.out.2.2.2.1⟩ ⟨HGp.out.2.1, HGp.out.2.2.1, HGp.out.2.2.2.1⟩ ⟨HKu.out.2.1, HKu.out.2.2⟩).mono ?_
                      rintro e w' ⟨rfl, μ', T', u4', hD', hle', hnew, hk'⟩
                      have hR' := (HR.out.drewN nq).outside hD'.mem hk' (fun b h1 h2 h3 h4 => ⟨h1, h2, h3, fun e => h4 (e ▸ HKu.out)⟩)
                      have hB' := (HBg.out.drewN nq).keep hk' ⟨(HBg.out.drewN nq).lt, HKg.out.2.1, HKg.out.2.2, fun e => Hug.out e.symm⟩
                      have hK2 := (HK.out.drewN nq).trans (hk'.mono fun b hb => ⟨by have := (HR.out.drewN nq).lts.1; have hb1 := hb.1; omega, hb.2.1, hb.2.2.1, hb.2.2.2.1⟩)
                      have hF' := HF.out.grow hle' μ'
                      have hle2 := Tab.le_trans Hle.out hle'
                      clear hnew hle' hk'
                      have HR' := hid hR'
                      have HD' := hid hD'
                      have HB' := hid hB'
                      have HF' := hid hF'
                      have HK2 := hid hK2
                      have Hle2 := hid hle2
                      clear hR' hD' hB' hF' hK2 hle2
                      go_wp2_with fail
                      go_roundw
                      case rel => exact ⟨k + 1, T', u4', ⟨S.r, μ'⟩, got, d, _, by go_num, by omega, rfl, HR'.out, HD'.out, HB'.out, Hle2.out, HF'.out, Hd.out, by have := Hlog.out; show S.r.log.length ≤ k + 1; omega, fun _ _ _ => Or.inl rfl, HK2.out, by omega⟩
                      case measure => simp [intOf]; omega
                    | false =>
                      go_wp2_with fail
                      go_quiet (fail)
                      go_wp2_with fail
                      refine (add_call (HD.out.keep ((Keeps.refl (fun _ => True) _).drewN nq) trivial trivial trivial) xs Hsx.out (HBm.out.drewN nq) (HBs.out.drewN nq) (HBp.out.drewN nq) ⟨HGm.out.2.1, HGm.out.2.2.1, HGm.out.2.2.2.1⟩ ⟨HGs.out.2.1, HGs.out.2.2.1, HGs.out.2.2.2.1⟩ ⟨HGp.out.2.1, HGp.out.2.2.1, HGp.out.2.2.2.1⟩ ⟨HKu.out.2.1, HKu.out.2.2⟩).mono ?_
                      rintro e w' ⟨rfl, μ', T', u4', hD', hle', hnew, hk'⟩
                      have hR' := (HR.out.drewN nq).outside hD'.mem hk' (fun b h1 h2 h3 h4 => ⟨h1, h2, h3, fun e => h4 (e ▸ HKu.out)⟩)
                      have hB' := (HBg.out.drewN nq).keep hk' ⟨(HBg.out.drewN nq).lt, HKg.out.2.1, HKg.out.2.2, fun e => Hug.out e.symm⟩
                      have hK2 := (HK.out.drewN nq).trans (hk'.mono fun b hb => ⟨by have := (HR.out.drewN nq).lts.1; have hb1 := hb.1; omega, hb.2.1, hb.2.2.1, hb.2.2.2.1⟩)
                      have hF' := HF.out.grow hle' μ'
                      have hle2 := Tab.le_trans Hle.out hle'
                      have hlat' : ∀ j a, T' j = some (bsL key, a) → ((xs.toList == key.toList)) = true ∨ T0 j = some (bsL key, a) := by
                        intro j a h
                        rcases hnew j _ a h with h | h
                        · rcases Hlat.out j a h with h | h
                          · first | (cases h; done) | exact Or.inl h
                          · exact Or.inr h
                        · have := bsL_inj h
                          subst this
                          exact Or.inl (by simp)
                      clear hnew hle' hk'
                      have HR' := hid hR'
                      have HD' := hid hD'
                      have HB' := hid hB'
                      have HF' := hid hF'
                      have HK2 := hid hK2
                      have Hle2 := hid hle2
                      have Hlat' := hid hlat'
                      clear hR' hD' hB' hF' hK2 hle2 hlat'
                      go_wp2_with fail
                      go_roundw
                      case rel => exact ⟨k + 1, T', u4', ⟨S.r, μ'⟩, got, d, _, by go_num, by omega, rfl, HR'.out, HD'.out, HB'.out, Hle2.out, HF'.out, Hd.out, by have := Hlog.out; show S.r.log.length ≤ k + 1; omega, Hlat'.out, HK2.out, by omega⟩
                      case measure => simp [intOf]; omega
                · have hkb' : ¬ (k : Int) < (behind.length : Int) := by omega
                  go_wp2_with fail
                  refine HST.out.mono ?_
                  rintro e w' ⟨S', o2, d', rfl, hR', hB', hK', hc', hF', _, hl', hd', _⟩
                  have hD' : DW w' m c uB S'.m T u4 := ⟨hR'.mem, by rw [hc']; exact HD.out.rep, HD.out.wf, by rw [hc']; exact HD.out.len, HD.out.le, HD.out.used.keep hK' ⟨HKu.out, Hug.out⟩⟩
                  have hK2 := HK.out.trans (hK'.mono fun b hb => ⟨HK9.out b hb, hb.2.2.2.2⟩)
                  clear hK' hc'
                  have HR' := hid hR'
                  have HD' := hid hD'
                  have HB' := hid hB'
                  have HF' := hid hF'
                  have HK2 := hid hK2
                  clear hR' hD' hB' hF' hK2
                  go_wp2_with fail
                  go_roundw
                  case rel => exact ⟨k + 1, T, u4, S', o2, d', lt, by go_num, by omega, rfl, HR'.out, HD'.out, HB'.out, Hle.out, HF'.out, by have := Hd.out; omega, by have := Hlog.out; omega, Hlat.out, HK2.out, by omega⟩
                  case measure => simp [intOf]; omega
              · have hbev : (x % 2 == 0) = false := by simpa using hev
                go_wp2_with fail
                refine HST.out.mono ?_
                rintro e w' ⟨S', o2, d', rfl, hR', hB', hK', hc', hF', _, hl', hd', _⟩
                have hD' : DW w' m c uB S'.m T u4 := ⟨hR'.mem, by rw [hc']; exact HD.out.rep, HD.out.wf, by rw [hc']; exact HD.out.len, HD.out.le, HD.out.used.keep hK' ⟨HKu.out, Hug.out⟩⟩
                have hK2 := HK.out.trans (hK'.mono fun b hb => ⟨HK9.out b hb, hb.2.2.2.2⟩)
                clear hK' hc'
                have HR' := hid hR'
                have HD' := hid hD'
                have HB' := hid hB'
                have HF' := hid hF'
                have HK2 := hid hK2
                clear hR' hD' hB' hF' hK2
                go_wp2_with fail
                go_roundw
                case rel => exact ⟨k + 1, T, u4, S', o2, d', lt, by go_num, by omega, rfl, HR'.out, HD'.out, HB'.out, Hle.out, HF'.out, by have := Hd.out; omega, by have := Hlog.out; omega, Hlat.out, HK2.out, by omega⟩
                case measure => simp [intOf]; omega
          · have hkn : k = turns.length := by omega
            subst hkn
            have HR := hid hR
            have HD := hid hD
            have HBg := hid hBg
            have Hle := hid hle
            have HF := hid hF
            have Hd := hid hd
            have Hlog := hid hlog
            have Hlat := hid hlat
            have HK := hid hK
            clear hR hD hBg hle hF hd hlog hlat hK
            go_wp2_with fail
            go_loopw [122] (fun i w3 => ∃ (q : Nat) (S3 : St) (got3 : Int) (d3 : Nat), i = .int .i64 q ∧ q ≤ 3000 ∧ RM w3 (fun b => b < r ∧ b ≠ m ∧ b ≠ c) r m c S3 ∧ DW w3 m c uB S3.m T u4 ∧ Blk w3 gB [.int .i64 got3] ∧ FState (bsL key) T0 T S3 got3 d3 ∧
              (S3.r.over = true ∨ d3 + q ≤ 432) ∧ S3.r.log.length ≤ 101 + q ∧ Keeps (fun b => b < r ∧ b ≠ m ∧ b ≠ c ∧ b ≠ uB ∧ b ≠ gB) w9 w3) (fun i _ => 3000 - (intOf i).toNat)
            case atStart => exact ⟨0, S, got, d, rfl, Nat.zero_le _, HR.out, HD.out, HBg.out, HF.out, Or.inr Hd.out, by have := Hlog.out; omega, HK.out⟩
            case round =>
              rename World => w3
              obtain ⟨q, S3, got3, d3, rfl, hq, hR3, hD3, hB3, hF3, hd3, hl3, hK3⟩ := hrel
              have HR3 := hid hR3
              have HD3 := hid hD3
              have HB3 := hid hB3
              have HF3 := hid hF3
              have Hd3 := hid hd3
              have Hl3 := hid hl3
              have HK3 := hid hK3
              clear hR3 hD3 hB3 hF3 hd3 hl3 hK3
              clear HR HD HBg HF Hd Hlog HK
              by_cases hq3 : q < 3000
              · have hq3' : (q : Int) < 3000 := by omega
                have hst3 := du_step HR3.out sB ws gB key got3 (by omega) (HBs9.out.keep HK3.out HGs.out) (HBk9.out.keep HK3.out HGk.out) HB3.out ⟨HGs.out.1, HGs.out.2.1, HGs.out.2.2.1⟩ ⟨HGk.out.1, HGk.out.2.1, HGk.out.2.2.1⟩ HKg.out HGs.out.2.2.2.2 HGk.out.2.2.2.2 HF3.out HD3.out.rep HW0.out Hle.out (by have := Hl3.out; omega)
                have Hst3 := hid hst3
                clear hst3
                go_wp2_with fail
                refine Hst3.out.mono ?_
                rintro e w' ⟨S', o2, d', rfl, hR', hB', hK', hc', hF', hdd, hl', hd', ho'⟩
                have hD' : DW w' m c uB S'.m T u4 := ⟨hR'.mem, by rw [hc']; exact HD3.out.rep, HD3.out.wf, by rw [hc']; exact HD3.out.len, HD3.out.le, HD3.out.used.keep hK' ⟨HKu.out, Hug.out⟩⟩
                have hK2 := HK3.out.trans (hK'.mono fun b hb => ⟨HK9.out b hb, hb.2.2.2.2⟩)
                have hd4 : S'.r.over = true ∨ d' + (q + 1) ≤ 432 := by
                  rcases hdd with h | h
                  · rcases Hd3.out with h2 | h2
                    · exact Or.inl (ho' h2)
                    · exact Or.inr (by omega)
                  · exact Or.inl h
                have hl4 : S'.r.log.length ≤ 101 + (q + 1) := by have := Hl3.out; omega
                clear hK' hc' hdd hl' hd' ho' HR3 HD3 HB3 HF3 Hd3 Hl3 HK3 Hst3
                cases hov : S'.r.over with
                | true =>
                  have HR3 := hid hR'
                  have HD3 := hid hD'
                  have HB3 := hid hB'
                  have HF3 := hid hF'
                  have HK3 := hid hK2
                  have Hov3 := hid hov
                  clear hR' hD' hB' hF' hK2 hov hd4 hl4
                  generalize w' = w3 at *
                  generalize S' = S3 at *
                  generalize o2 = got3 at *
                  have hBm := HBm9.out.keep HK3.out HGm.out
                  have hBs := HBs9.out.keep HK3.out HGs.out
                  have hBk := HBk9.out.keep HK3.out HGk.out
                  have m0 := (hBm).cell 0
                  simp only [List.getElem?_cons_zero, List.getElem?_cons_succ] at m0
                  have s0 := (hBs).cell 0
                  simp only [List.getElem?_cons_zero, List.getElem?_cons_succ] at s0
                  have k0 := (hBk).cell 0
                  simp only [List.getElem?_cons_zero, List.getElem?_cons_succ] at k0
                  clear hBm hBs hBk
                  go_wp2_with fail
                  refine (find10 (K := fun b => b < w3.heap.size ∧ b ≠ m ∧ b ≠ c) HD3.out.mem (fun e => e.2.1 rfl) (fun e => e.2.2 rfl) (fun b hb => hb.1) HD3.out.rep key (by decide) (by decide) (by omega)).mono ?_
                  rintro e w10 ⟨rfl, _, hk10⟩
                  obtain ⟨g, hrun, hg⟩ := HR3.out.run
                  have hrun10 := hrun.keep hk10 ⟨HR3.out.lts.1, HR3.out.rm, HR3.out.rc⟩ (fun b hb => ⟨own_ne hrun.log b hb, (hg b hb).2.1, (hg b hb).2.2.1⟩)
                  have hBg10 := HB3.out.keep hk10 ⟨HB3.out.lt, HKg.out.2.1, HKg.out.2.2⟩
                  have hkf := Hkk9.out.trans (HK3.out.mono HGws.out) |>.trans (hk10.mono fun b hb => ⟨by have h1 := (HGws.out b hb).1; have := HR3.out.lts.1; omega, (HGws.out b hb).2.1, (HGws.out b hb).2.2.1⟩)
                  have hFin : FinD 16 (bsL key) T0 T got3 := by
                    rcases HF3.out with ⟨_, h⟩ | ⟨h, _⟩
                    · exact h
                    · rw [Hov3.out] at h; cases h
                  obtain ⟨nx, ny, hnow⟩ : ∃ x y, probe T 16 (homeD 16 (bsL key)) (bsL key) 16 0 = (x, y) := ⟨_, _, rfl⟩
                  have hfin := du_final HW0.out HD3.out.wf Hle.out Hwas.out hnow hFin Hlat.out
                  rw [hnow]
                  dsimp only
                  have hover := run_over hrun10
                  rw [Hov3.out] at hover
                  have Hkf := hid hkf
                  have Hover := hid hover
                  clear hkf hover
                  have g0 := (hBg10).cell 0
                  simp only [List.getElem?_cons_zero, List.getElem?_cons_succ] at g0
                  clear m0 s0 k0 hk10 hrun hg hrun10 hBg10 hFin hnow
                  clear HR3 HD3 HB3 HF3 HK3
                  rcases hfin with ⟨h1, h2⟩ | ⟨h1, h2, h3, h4⟩ | ⟨h1, h2, h3⟩
                  · rw [h1]; rw [h2] at g0
                    cases lt with
                    | true =>
                      go_wp2_with fail
                      refine Hover.out.mono ?_
                      rintro e w11 ⟨rfl, rfl⟩
                      go_wp2_with fail
                      exact hR'.out _ _ ⟨rfl, Hkf.out⟩
                    | false =>
                      go_wp2_with fail
                      refine Hover.out.mono ?_
                      rintro e w11 ⟨rfl, rfl⟩
                      go_wp2_with fail
                      exact hR'.out _ _ ⟨rfl, Hkf.out⟩
                  · rw [h1, h3, h4]
                    have hb : (got3 == 0) = false := by simpa using h2
                    go_wp2_with fail
                    refine Hover.out.mono ?_
                    rintro e w11 ⟨rfl, rfl⟩
                    go_wp2_with fail
                    exact hR'.out _ _ ⟨rfl, Hkf.out⟩
                  · rw [h3]; rw [h2] at g0
                    have hb : (wx == 0) = false := by simpa using h1
                    have hb2 : (wx != 0) = true := by simpa using h1
                    go_wp2_with fail
                    refine Hover.out.mono ?_
                    rintro e w11 ⟨rfl, rfl⟩
                    go_wp2_with fail
                    exact hR'.out _ _ ⟨rfl, Hkf.out⟩
                | false =>
                  have HR' := hid hR'
                  have HD' := hid hD'
                  have HB' := hid hB'
                  have HF' := hid hF'
                  have HK2 := hid hK2
                  have Hd4 := hid hd4
                  have Hl4 := hid hl4
                  clear hR' hD' hB' hF' hK2 hd4 hl4
                  go_wp2_with fail
                  go_roundw
                  case rel => exact ⟨q + 1, S', o2, d', by go_num, by omega, HR'.out, HD'.out, HB'.out, HF'.out, Hd4.out, Hl4.out, HK2.out⟩
                  case measure => simp [intOf]; omega
              · have hq3' : ¬ (q : Int) < 3000 := by omega
                have hov3 : S3.r.over = true := by
                  rcases Hd3.out with h | h
                  · exact h
                  · omega
                have Hov3 := hid hov3
                clear hov3
                clear Hd3 Hl3
                have hBm := HBm9.out.keep HK3.out HGm.out
                have hBs := HBs9.out.keep HK3.out HGs.out
                have hBk := HBk9.out.keep HK3.out HGk.out
                have m0 := (hBm).cell 0
                simp only [List.getElem?_cons_zero, List.getElem?_cons_succ] at m0
                have s0 := (hBs).cell 0
                simp only [List.getElem?_cons_zero, List.getElem?_cons_succ] at s0
                have k0 := (hBk).cell 0
                simp only [List.getElem?_cons_zero, List.getElem?_cons_succ] at k0
                clear hBm hBs hBk
                go_wp2_with fail
                refine (find10 (K := fun b => b < w3.heap.size ∧ b ≠ m ∧ b ≠ c) HD3.out.mem (fun e => e.2.1 rfl) (fun e => e.2.2 rfl) (fun b hb => hb.1) HD3.out.rep key (by decide) (by decide) (by omega)).mono ?_
                rintro e w10 ⟨rfl, _, hk10⟩
                obtain ⟨g, hrun, hg⟩ := HR3.out.run
                have hrun10 := hrun.keep hk10 ⟨HR3.out.lts.1, HR3.out.rm, HR3.out.rc⟩ (fun b hb => ⟨own_ne hrun.log b hb, (hg b hb).2.1, (hg b hb).2.2.1⟩)
                have hBg10 := HB3.out.keep hk10 ⟨HB3.out.lt, HKg.out.2.1, HKg.out.2.2⟩
                have hkf := Hkk9.out.trans (HK3.out.mono HGws.out) |>.trans (hk10.mono fun b hb => ⟨by have h1 := (HGws.out b hb).1; have := HR3.out.lts.1; omega, (HGws.out b hb).2.1, (HGws.out b hb).2.2.1⟩)
                have hFin : FinD 16 (bsL key) T0 T got3 := by
                  rcases HF3.out with ⟨_, h⟩ | ⟨h, _⟩
                  · exact h
                  · rw [Hov3.out] at h; cases h
                obtain ⟨nx, ny, hnow⟩ : ∃ x y, probe T 16 (homeD 16 (bsL key)) (bsL key) 16 0 = (x, y) := ⟨_, _, rfl⟩
                have hfin := du_final HW0.out HD3.out.wf Hle.out Hwas.out hnow hFin Hlat.out
                rw [hnow]
                dsimp only
                have hover := run_over hrun10
                rw [Hov3.out] at hover
                have Hkf := hid hkf
                have Hover := hid hover
                clear hkf hover
                have g0 := (hBg10).cell 0
                simp only [List.getElem?_cons_zero, List.getElem?_cons_succ] at g0
                clear m0 s0 k0 hk10 hrun hg hrun10 hBg10 hFin hnow
                clear HR3 HD3 HB3 HF3 HK3
                rcases hfin with ⟨h1, h2⟩ | ⟨h1, h2, h3, h4⟩ | ⟨h1, h2, h3⟩
                · rw [h1]; rw [h2] at g0
                  cases lt with
                  | true =>
                    go_wp2_with fail
                    refine Hover.out.mono ?_
                    rintro e w11 ⟨rfl, rfl⟩
                    go_wp2_with fail
                    exact hR'.out _ _ ⟨rfl, Hkf.out⟩
                  | false =>
                    go_wp2_with fail
                    refine Hover.out.mono ?_
                    rintro e w11 ⟨rfl, rfl⟩
                    go_wp2_with fail
                    exact hR'.out _ _ ⟨rfl, Hkf.out⟩
                · rw [h1, h3, h4]
                  have hb : (got3 == 0) = false := by simpa using h2
                  go_wp2_with fail
                  refine Hover.out.mono ?_
                  rintro e w11 ⟨rfl, rfl⟩
                  go_wp2_with fail
                  exact hR'.out _ _ ⟨rfl, Hkf.out⟩
                · rw [h3]; rw [h2] at g0
                  have hb : (wx == 0) = false := by simpa using h1
                  have hb2 : (wx != 0) = true := by simpa using h1
                  go_wp2_with fail
                  refine Hover.out.mono ?_
                  rintro e w11 ⟨rfl, rfl⟩
                  go_wp2_with fail
                  exact hR'.out _ _ ⟨rfl, Hkf.out⟩
end Go.Proofs.Ytjnaibmnpajfdaa
