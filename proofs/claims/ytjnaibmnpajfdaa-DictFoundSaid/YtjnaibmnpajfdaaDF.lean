/- DictFound: the walk. -/
import Derived.Test.YtjnaibmnpajfdaaDFP
import Derived.Test.YtjnaibmnpajfdaaLawDR
namespace Go.Proofs.Ytjnaibmnpajfdaa
open Go.RowKit Go.Maps

theorem SlAt.getM {α : Type} {f : α → Value} {w : World} {K : Nat → Prop} {v : Value} {xs : List α} (h : SlAt w K 1 v xs.length (xs.map f)) (i : Nat) (x : α) (hi : xs[i]? = some x) :
    ∃ b off cap, v = .slice (some ⟨b, off, none⟩) xs.length cap ∧ K b ∧ w.cell? ⟨b, off + i, none⟩ = some (f x) := by
  obtain ⟨A, cap, h1, h2, h3, h4, h5⟩ := h
  have hlt := (List.getElem?_eq_some_iff.1 hi).1
  obtain ⟨b, off, e, hb, hc⟩ := h5 (by omega)
  exact ⟨b, off, cap, by rw [h1, e], hb, hc i (f x) (by rw [List.getElem?_map, hi]; rfl)⟩

set_option maxRecDepth 100000 in
set_option maxHeartbeats 16000000 in
theorem df_walk (A : Option Addr) (ca : Nat) (keys : List ByteArray) (other : ByteArray) (w : World) (hka : ∀ x ∈ keys, x.size ≤ 140737488351232)
    (hsa : SlAt w (· < w.heap.size) 1 (.slice A keys.length ca) keys.length (keys.map Value.string)) :
    Calls Try.prog 12 #[.slice A keys.length ca, .string other] w fun e w' => e = .returned (.bool true) ∧ Keeps (· < w.heap.size) w w' := by
  obtain ⟨A0, cap0, he, hca1, hca2⟩ := hsa.form
  injection he with e1 _ e3
  subst e1 e3
  unfold maxLen at hca2
  have Hsa := hid hsa
  have Hka := hid hka
  clear hsa hka
  have hmm := @run_makeMap Try.prog
  refine calls_hide fun R' hR' => ?_
  go_enter Try.func12, Try.ntmps12
  go_wp2_with fail
  refine (plan10 599 (by decide) (by decide) _).mono ?_
  rintro e w1 ⟨rfl, hk1⟩
  unfold planD PlanM.val
  have hz1 := hk1.size
  have Hk1 := hid hk1
  clear hk1
  go_wp2_with fail
  refine calls_gen (fun W => Blk W w1.heap.size plan599 ∧ Keeps (· < w.heap.size) w W) ⟨?_, ?_⟩ ?_
  · exact Blk.new w1 plan599 _
  · exact Hk1.out.alloc (fun b hb => by omega) _
  rintro W ⟨hB, hk⟩
  refine (mem_new W 618 (by decide) (by decide)).mono ?_
  rintro e w3 ⟨rfl, hm3, hk3, hz3⟩
  have hlb := hB.lt
  have hB3 := hB.keep hk3 hlb
  have hkk3 := hk.trans (hk3.mono fun b hb => by omega)
  have hz3' : W.heap.size + 1 < w3.heap.size := by omega
  clear hB hk hk3 Hk1 hz3
  generalize hc : W.heap.size = c at *
  generalize hmm0 : c + 1 = m at *
  generalize w1.heap.size = pB at *
  generalize hws : w.heap.size = ws at *
  have hcm : c < m := by omega
  have Hm3 := hid hm3
  have Hkk3 := hid hkk3
  have HB3 := hid hB3
  have Hws := hid hws
  clear hm3 hkk3 hB3 hws
  clear hc hmm0
  go_wp2_with fail
  refine (fixed10 w3).mono ?_
  rintro e w4 ⟨rfl, hk4⟩
  have hm4 := Hm3.out.keep hk4 Hm3.out.obj.lt Hm3.out.cells.lt
  have hB4 := HB3.out.keep hk4 HB3.out.lt
  have hkk4 := Hkk3.out.trans (hk4.mono fun b hb => by omega)
  have hz4 : m < w4.heap.size := by have := hk4.size; omega
  have hB4' := hB4
  unfold plan599 at hB4'
  clear hk4 Hm3 HB3 Hkk3 hz3'
  have p0 := (hB4').cell 0
  have p1 := (hB4').cell 1
  have p2 := (hB4').cell 2
  have p3 := (hB4').cell 3
  have p4 := (hB4').cell 4
  have p5 := (hB4').cell 5
  have p6 := (hB4').cell 6
  have p7 := (hB4').cell 7
  have p8 := (hB4').cell 8
  have p9 := (hB4').cell 9
  have p10 := (hB4').cell 10
  have p11 := (hB4').cell 11
  have p12 := (hB4').cell 12
  have p13 := (hB4').cell 13
  have p14 := (hB4').cell 14
  simp only [List.getElem?_cons_zero, List.getElem?_cons_succ] at p0 p1 p2 p3 p4 p5 p6 p7 p8 p9 p10 p11 p12 p13 p14
  have Hm4 := hid hm4
  have HB4 := hid hB4
  have Hkk4 := hid hkk4
  clear hm4 hB4 hkk4
  clear hB4'
  by_cases hsz : 100 < other.size
  · have i1 : (100 : Int) < (other.size : Int) := by omega
    go_wp2_with fail
    refine (fixed10 w4).mono ?_
    rintro e w6 ⟨rfl, hk6⟩
    have hkf := Hkk4.out.trans (hk6.mono fun b hb => by omega)
    have Hkf := hid hkf
    clear hkf
    go_wp2_with fail
    exact hR'.out _ _ ⟨rfl, Hkf.out⟩
  · have i1 : (other.size : Int) ≤ 100 := by omega
    go_wp2_with fail
    refine wp_gen (fun W => DW W m c w4.heap.size ⟨List.replicate 618 0, 0, 0⟩ (fun _ => none) 0 ∧ W.ownsMap Try.prog 9 (plainElem Try.prog 3) (w4.heap.size + 1) 0 (.map [] : DataW Unit) ∧ Blk W pB plan599 ∧ Keeps (· < ws) w W) ⟨?_, ?_, ?_, ?_⟩ ?_
    · refine ⟨Hm4.out.keep (((Keeps.refl (· < w4.heap.size) w4).alloc (fun b hb => hb) _).alloc (fun b hb => by simp; omega) _) Hm4.out.obj.lt Hm4.out.cells.lt, rep_zeros 618 602 16 3 (by decide) (by decide) (by decide), WF.empty _ _, List.length_replicate .., by decide, ?_⟩
      exact (Blk.new w4 [.int .i64 0, .int .i64 0, .int .i64 0, .int .i64 0, .int .i64 0, .int .i64 0] _).alloc _
    · have := World.ownsMap_made (H := Unit) (w4.alloc (.cells #[.int .i64 0, .int .i64 0, .int .i64 0, .int .i64 0, .int .i64 0, .int .i64 0] 74)) Try.prog 9 (plainElem Try.prog 3)
      rw [World.size_alloc] at this
      exact this
    · exact (HB4.out.alloc _).alloc _
    · exact (Hkk4.out.alloc (fun b hb => by omega) _).alloc (fun b hb => by simp; omega) _
    clear p0 p1 p2 p3 p4 p5 p6 p7 p8 p9 p10 p11 p12 p13 p14 Hm4 Hkk4 HB4 hmm
    generalize huB : w4.heap.size = uB at *
    clear huB
    rintro W6 ⟨hD, hmp, hBp, hkk⟩
    have hlm := hmp.lt
    generalize hmB : uB + 1 = mB at *
    have hGws : ∀ b, b < ws → b < W6.heap.size ∧ b ≠ m ∧ b ≠ c ∧ b ≠ uB ∧ b ≠ mB := fun b hb => ⟨by omega, by omega, by omega, by omega, by omega⟩
    have hGp : pB < W6.heap.size ∧ pB ≠ m ∧ pB ≠ c ∧ pB ≠ uB ∧ pB ≠ mB := ⟨by omega, by omega, by omega, by omega, by omega⟩
    have hum : uB ≠ m ∧ uB ≠ c ∧ uB ≠ mB := ⟨by omega, by omega, by omega⟩
    have hmc : mB ≠ m ∧ mB ≠ c ∧ mB ≠ uB := ⟨by omega, by omega, by omega⟩
    have hM0 := MapTab.empty
    have HGws := hid hGws
    have HGp := hid hGp
    have Hum := hid hum
    have Hmc := hid hmc
    have HD := hid hD
    have Hmp := hid hmp
    have HBp := hid hBp
    have Hkk := hid hkk
    have HM0 := hid hM0
    clear hGws hGp hum hmc hD hmp hBp hkk hM0
    clear hlb hz1 hcm hmB hz4
    go_loopw [58] (fun i wr => ∃ (k : Nat) (μ : MemS) (T : Tab) (n4 : Nat) (D : DataW Unit), i = .int .i64 k ∧ k ≤ keys.length ∧ DW wr m c uB μ T n4 ∧ wr.ownsMap Try.prog 9 (plainElem Try.prog 3) mB k D ∧ MapTab D T ∧
      Keeps (fun b => b < W6.heap.size ∧ b ≠ m ∧ b ≠ c ∧ b ≠ uB ∧ b ≠ mB) W6 wr) (fun i _ => keys.length - (intOf i).toNat)
    case atStart => exact ⟨0, _, _, _, _, rfl, Nat.zero_le _, HD.out, Hmp.out, HM0.out, Keeps.refl _ _⟩
    case round =>
      obtain ⟨k, μ, T, n4, D, rfl, hk, hD1, hmp1, hM, hK1⟩ := hrel
      have hsz1 := hK1.size
      clear HD Hmp HM0
      by_cases hlt : k < keys.length
      · obtain ⟨b, off, cp, e1, hKb, x0⟩ := Hsa.out.getM k keys[k] (List.getElem?_eq_getElem hlt)
        injection e1 with e1 _ e2
        subst e1 e2
        have hkw := Hkk.out.trans (hK1.mono HGws.out)
        have y0 := (World.cell?_of_block (a := ⟨b, off + k, none⟩) (hkw.block b hKb)).trans x0
        have hux := Hka.out keys[k] (List.getElem_mem hlt)
        generalize keys[k] = x at *
        have Hux := hid hux
        have HD1 := hid hD1
        have HK1 := hid hK1
        have Hmp1 := hid hmp1
        have HM := hid hM
        clear hux hD1 hK1 hmp1 hM
        clear x0 hkw
        have hlt' : (k : Int) < (keys.length : Int) := by omega
        by_cases h30 : 30 < k
        · have h30' : (30 : Int) < (k : Int) := by omega
          clear HBp
          have hmpk := Hmp1.out.mono hk
          have Hmpk := hid hmpk
          clear hmpk
          go_wp2_with (at_range; refine wpList_range_own _ rfl _ 90 rfl 9 3 lawS Try.underlying90 _ mB keys.length D rfl Hmpk.out ?_; intro w0 hrg0 hg0 hs0)
          try go_frame
          have hgk := grown_keeps hg0
          have hm0 := HD1.out.mem.keep hgk ⟨HD1.out.mem.obj.lt, by simp⟩ ⟨HD1.out.mem.cells.lt, by simp⟩
          have hkk0 := (Hkk.out.trans (HK1.out.mono HGws.out)).trans (hgk.mono fun b hb => ⟨by have := (HGws.out b hb).1; omega, by simp⟩)
          have hrl := hrg0.lt
          have hmbl := Hmp1.out.lt
          have hml := HD1.out.mem.obj.lt
          have hcl := HD1.out.mem.cells.lt
          have hwsl : ∀ b, b < ws → b < wr.heap.size := fun b hb => by have := (HGws.out b hb).1; omega
          generalize wr.heap.size = rB at *
          have Hm0 := hid hm0
          have Hrg0 := hid hrg0
          have Hkk0 := hid hkk0
          have Hwsl := hid hwsl
          clear hm0 hrg0 hkk0 hwsl
          clear hg0 hs0 hgk
          go_loopw [19] (fun _ w2 => ∃ (left : Lit → Bool) (cnt : Nat) (μ2 : MemS), w2.ranges Try.prog 9 (plainElem Try.prog 3) mB rB keys.length D left cnt ∧ (∀ kl, left kl = true → Maps.has D kl = true) ∧ MemAt w2 m c μ2 ∧ μ2.cells = μ.cells ∧ Keeps (· < ws) w w2 ∧ rB < w2.heap.size) (fun _ w2 => w2.rangeLeft mB rB)
          case atStart => exact ⟨_, _, μ, Hrg0.out, fun kl h => h, Hm0.out, rfl, Hkk0.out, hrl⟩
          case round =>
            rename World => w2
            obtain ⟨left, cnt, μ2, hrg, hlf, hm2, hc2, hK2, hr2⟩ := hrel
            have hR2 : Rep μ2.cells 602 16 T 3 (3 + n4) := by rw [hc2]; exact HD1.out.rep
            have Hrg := hid hrg
            have Hlf := hid hlf
            have Hm2 := hid hm2
            have Hc2 := hid hc2
            have HK2 := hid hK2
            have HR2 := hid hR2
            clear hrg hlf hm2 hc2 hK2 hR2
            go_wp2_with (at_next; refine wpList_next_ranges _ rfl _ rfl 9 lawS (plainElem Try.prog 3) Value.string (Value.int .i64) (fun key kl h => (keyOf_string_inv Try.underlying9 h).imp fun _ h => h.1) (fun v y h => (plainElem_int_inv Try.underlying3 h).imp fun _ h => h.1) mB rB keys.length D _ _ rfl Hrg.out ?_ ?_)
            · intro hc0 hl0
              go_wp2_with fail
              refine (find10 (K := fun b => b < w2.heap.size ∧ b ≠ m ∧ b ≠ c) Hm2.out (fun e => e.2.1 rfl) (fun e => e.2.2 rfl) (fun b hb => hb.1) HR2.out other (by decide) (by decide) (by omega)).mono ?_
              rintro e w3 ⟨rfl, _, hk3⟩
              have hmp3 := hk3.ownsMap ⟨by omega, Hmc.out.1, Hmc.out.2.1⟩ Hrg.out.owns
              have hkf := HK2.out.trans (hk3.mono fun b hb => ⟨by have := Hwsl.out b hb; omega, (HGws.out b hb).2.1, (HGws.out b hb).2.2.1⟩)
              have hval := HM.out.val other
              unfold tabVal at hval
              have hlo : other.size ≤ maxLen := by unfold maxLen; omega
              generalize (probe T 16 (homeD 16 (bsL other)) (bsL other) 16 0) = pr at *
              obtain ⟨vx, vy⟩ := pr
              dsimp only at hval ⊢
              have Hval := hid hval
              have Hmp3 := hid hmp3
              have Hkf := hid hkf
              have Hlo := hid hlo
              clear hval hmp3 hkf hlo
              clear hk3
              go_wp2_with (at_lookup; refine wpList_lookup_own_int _ rfl _ _ 90 rfl 9 3 .i64 lawS Try.underlying90 Try.underlying3 (zeroI _) mB keys.length D rfl Hmp3.out _ (kLit other) rfl (keyL Try.underlying9 Hlo.out) ?_; intro cv hat hwc; have hat2 := Hval.out.symm.trans hat; unfold dI at hat2; injection hat2 with hat2; injection hat2 with _ hat2; subst hat2; clear hwc)
              exact hR'.out _ _ ⟨rfl, Hkf.out⟩
            · intro x cv kl yd yp w3 cnt3 hkey hlx hvv hat hrg3 hlt3 hg3 hs3 hen
              obtain ⟨x', e1, rfl⟩ := keyOf_string_inv Try.underlying9 hkey
              injection e1 with e1
              subst e1
              obtain ⟨cv', e2, e5, _⟩ := plainElem_int_inv Try.underlying3 hvv
              injection e2 with _ e2
              subst e2
              injection e5 with e5 _
              subst e5
              have hat2 := (HM.out.val x).symm.trans (hat (dI 0))
              unfold dI at hat2
              injection hat2 with hat2
              injection hat2 with _ hat2
              obtain ⟨t', e3, hne⟩ := HM.out.has _ (Hlf.out _ hlx)
              have e3 := kLit_inj e3
              subst e3
              rcases tabVal_cases HD1.out.wf x with ⟨h0, _⟩ | ⟨i, a, hi16, hTi, hapos, hva⟩
              · exact absurd h0 hne
              rw [hva] at hat2 hne
              subst hat2
              have hlies := HR2.out.lies i _ _ hi16 hTi
              rw [bsL_len] at hlies
              have hxs : x.size ≤ 100 := hlies.2.2.1
              have ha5 : a ≤ 65536 := by have := hlies.2.1; have := HD1.out.le; omega
              have hpr : (probe T 16 (homeD 16 (bsL x)) (bsL x) 16 0) = ((a : Int), (i : Int)) := probe_complete HD1.out.wf hi16 hTi
              have hgk := grown_keeps hg3
              have hm3 := Hm2.out.keep hgk ⟨Hm2.out.obj.lt, fun e => by have := Option.some.inj e; omega⟩ ⟨Hm2.out.cells.lt, fun e => by have := Option.some.inj e; omega⟩
              have hK3 := HK2.out.trans (hgk.mono fun b hb => ⟨by have := Hwsl.out b hb; omega, fun e => by have := Option.some.inj e; have := Hwsl.out b hb; omega⟩)
              have hlf3 : ∀ kl, (left kl && !kl.sameKey (kLit x)) = true → Maps.has D kl = true := fun kl h => Hlf.out kl (by simp at h; exact h.1)
              have hrl3 := hrg3.left_eq
              have hrl2 := Hrg.out.left_eq
              have Hm3 := hid hm3
              have HK3 := hid hK3
              have Hlf3 := hid hlf3
              have Hrg3 := hid hrg3
              have Hlt3 := hid hlt3
              have Hpr := hid hpr
              have Hrl3 := hid hrl3
              have Hrl2 := hid hrl2
              have HTi := hid hTi
              clear hm3 hK3 hlf3 hrg3 hlt3 hpr hrl3 hrl2 hTi
              clear hkey hlx hvv hat hgk hg3 hlies hva HK2 Hrg
              go_wp2_with fail
              refine (find10 (K := fun b => b < w3.heap.size ∧ b ≠ m ∧ b ≠ c) Hm3.out (fun e => e.2.1 rfl) (fun e => e.2.2 rfl) (fun b hb => hb.1) HR2.out x (by decide) (by decide) (by omega)).mono ?_
              rintro e w4 ⟨rfl, ⟨μ4, hm4, hc4⟩, hk4⟩
              rw [Hpr.out]
              dsimp only
              have hR4 : Rep μ4.cells 602 16 T 3 (3 + n4) := by rw [hc4]; exact HR2.out
              have hrg4 := hk4.rangesK ⟨by omega, Hmc.out.1, Hmc.out.2.1⟩ ⟨by omega, by omega, by omega⟩ Hrg3.out
              have hK4 := HK3.out.trans (hk4.mono fun b hb => ⟨by have := Hwsl.out b hb; omega, (HGws.out b hb).2.1, (HGws.out b hb).2.2.1⟩)
              have hz4 := hk4.size
              have hc4' := hc4.trans Hc2.out
              have Hm4 := hid hm4
              have HR4 := hid hR4
              have Hrg4 := hid hrg4
              have HK4 := hid hK4
              have Hc4' := hid hc4'
              clear hm4 hR4 hrg4 hK4 hc4'
              clear hk4 hc4 Hm3 HK3 Hrg3
              go_wp2_with fail
              refine (read10 (K := fun b => b < w4.heap.size ∧ b ≠ m ∧ b ≠ c) Hm4.out (fun e => e.2.1 rfl) (fun e => e.2.2 rfl) (fun b hb => hb.1) HR4.out hi16 HTi.out (by omega)).mono ?_
              rintro e w5 ⟨rfl, ⟨μ5, hm5, hc5⟩, hk5⟩
              have hrg5 := hk5.rangesK ⟨by omega, Hmc.out.1, Hmc.out.2.1⟩ ⟨by omega, by omega, by omega⟩ Hrg4.out
              have hK5 := HK4.out.trans (hk5.mono fun b hb => ⟨by have := Hwsl.out b hb; omega, (HGws.out b hb).2.1, (HGws.out b hb).2.2.1⟩)
              have hz5 := hk5.size
              have hc5' := hc5.trans Hc4'.out
              have hrl5 := hrg5.left_eq
              have hb2 : ((a : Int) != 0) = true := by simp; omega
              have Hm5 := hid hm5
              have Hrg5 := hid hrg5
              have HK5 := hid hK5
              have Hc5' := hid hc5'
              have Hrl5 := hid hrl5
              clear hm5 hrg5 hK5 hc5' hrl5
              clear hk5 hc5 Hm4 HK4 Hrg4
              by_cases h17 : x.size ≤ 17
              · have h17' : (x.size : Int) ≤ 17 := by omega
                rw [if_pos h17]
                go_wp2_with fail
                go_roundw
                case rel => exact ⟨_, cnt3, μ5, Hrg5.out, Hlf3.out, Hm5.out, Hc5'.out, HK5.out, by omega⟩
                case measure => have := Hrl5.out; have := Hrl2.out; have := Hlt3.out; omega
              · have h17' : (17 : Int) < (x.size : Int) := by omega
                rw [if_neg h17]
                go_wp2_with fail
                go_roundw
                case rel => exact ⟨_, cnt3, μ5, Hrg5.out, Hlf3.out, Hm5.out, Hc5'.out, HK5.out, by omega⟩
                case measure => have := Hrl5.out; have := Hrl2.out; have := Hlt3.out; omega
        · have h30' : (k : Int) ≤ 30 := by omega
          by_cases hx100 : 100 < x.size
          · have hx' : (100 : Int) < (x.size : Int) := by omega
            clear HBp
            have hmpk := Hmp1.out.mono hk
            have Hmpk := hid hmpk
            clear hmpk
            go_wp2_with (at_range; refine wpList_range_own _ rfl _ 90 rfl 9 3 lawS Try.underlying90 _ mB keys.length D rfl Hmpk.out ?_; intro w0 hrg0 hg0 hs0)
            try go_frame
            have hgk := grown_keeps hg0
            have hm0 := HD1.out.mem.keep hgk ⟨HD1.out.mem.obj.lt, by simp⟩ ⟨HD1.out.mem.cells.lt, by simp⟩
            have hkk0 := (Hkk.out.trans (HK1.out.mono HGws.out)).trans (hgk.mono fun b hb => ⟨by have := (HGws.out b hb).1; omega, by simp⟩)
            have hrl := hrg0.lt
            have hmbl := Hmp1.out.lt
            have hml := HD1.out.mem.obj.lt
            have hcl := HD1.out.mem.cells.lt
            have hwsl : ∀ b, b < ws → b < wr.heap.size := fun b hb => by have := (HGws.out b hb).1; omega
            generalize wr.heap.size = rB at *
            have Hm0 := hid hm0
            have Hrg0 := hid hrg0
            have Hkk0 := hid hkk0
            have Hwsl := hid hwsl
            clear hm0 hrg0 hkk0 hwsl
            clear hg0 hs0 hgk
            go_loopw [19] (fun _ w2 => ∃ (left : Lit → Bool) (cnt : Nat) (μ2 : MemS), w2.ranges Try.prog 9 (plainElem Try.prog 3) mB rB keys.length D left cnt ∧ (∀ kl, left kl = true → Maps.has D kl = true) ∧ MemAt w2 m c μ2 ∧ μ2.cells = μ.cells ∧ Keeps (· < ws) w w2 ∧ rB < w2.heap.size) (fun _ w2 => w2.rangeLeft mB rB)
            case atStart => exact ⟨_, _, μ, Hrg0.out, fun kl h => h, Hm0.out, rfl, Hkk0.out, hrl⟩
            case round =>
              rename World => w2
              obtain ⟨left, cnt, μ2, hrg, hlf, hm2, hc2, hK2, hr2⟩ := hrel
              have hR2 : Rep μ2.cells 602 16 T 3 (3 + n4) := by rw [hc2]; exact HD1.out.rep
              have Hrg := hid hrg
              have Hlf := hid hlf
              have Hm2 := hid hm2
              have Hc2 := hid hc2
              have HK2 := hid hK2
              have HR2 := hid hR2
              clear hrg hlf hm2 hc2 hK2 hR2
              go_wp2_with (at_next; refine wpList_next_ranges _ rfl _ rfl 9 lawS (plainElem Try.prog 3) Value.string (Value.int .i64) (fun key kl h => (keyOf_string_inv Try.underlying9 h).imp fun _ h => h.1) (fun v y h => (plainElem_int_inv Try.underlying3 h).imp fun _ h => h.1) mB rB keys.length D _ _ rfl Hrg.out ?_ ?_)
              · intro hc0 hl0
                go_wp2_with fail
                refine (find10 (K := fun b => b < w2.heap.size ∧ b ≠ m ∧ b ≠ c) Hm2.out (fun e => e.2.1 rfl) (fun e => e.2.2 rfl) (fun b hb => hb.1) HR2.out other (by decide) (by decide) (by omega)).mono ?_
                rintro e w3 ⟨rfl, _, hk3⟩
                have hmp3 := hk3.ownsMap ⟨by omega, Hmc.out.1, Hmc.out.2.1⟩ Hrg.out.owns
                have hkf := HK2.out.trans (hk3.mono fun b hb => ⟨by have := Hwsl.out b hb; omega, (HGws.out b hb).2.1, (HGws.out b hb).2.2.1⟩)
                have hval := HM.out.val other
                unfold tabVal at hval
                have hlo : other.size ≤ maxLen := by unfold maxLen; omega
                generalize (probe T 16 (homeD 16 (bsL other)) (bsL other) 16 0) = pr at *
                obtain ⟨vx, vy⟩ := pr
                dsimp only at hval ⊢
                have Hval := hid hval
                have Hmp3 := hid hmp3
                have Hkf := hid hkf
                have Hlo := hid hlo
                clear hval hmp3 hkf hlo
                clear hk3
                go_wp2_with (at_lookup; refine wpList_lookup_own_int _ rfl _ _ 90 rfl 9 3 .i64 lawS Try.underlying90 Try.underlying3 (zeroI _) mB keys.length D rfl Hmp3.out _ (kLit other) rfl (keyL Try.underlying9 Hlo.out) ?_; intro cv hat hwc; have hat2 := Hval.out.symm.trans hat; unfold dI at hat2; injection hat2 with hat2; injection hat2 with _ hat2; subst hat2; clear hwc)
                exact hR'.out _ _ ⟨rfl, Hkf.out⟩
              · intro x cv kl yd yp w3 cnt3 hkey hlx hvv hat hrg3 hlt3 hg3 hs3 hen
                obtain ⟨x', e1, rfl⟩ := keyOf_string_inv Try.underlying9 hkey
                injection e1 with e1
                subst e1
                obtain ⟨cv', e2, e5, _⟩ := plainElem_int_inv Try.underlying3 hvv
                injection e2 with _ e2
                subst e2
                injection e5 with e5 _
                subst e5
                have hat2 := (HM.out.val x).symm.trans (hat (dI 0))
                unfold dI at hat2
                injection hat2 with hat2
                injection hat2 with _ hat2
                obtain ⟨t', e3, hne⟩ := HM.out.has _ (Hlf.out _ hlx)
                have e3 := kLit_inj e3
                subst e3
                rcases tabVal_cases HD1.out.wf x with ⟨h0, _⟩ | ⟨i, a, hi16, hTi, hapos, hva⟩
                · exact absurd h0 hne
                rw [hva] at hat2 hne
                subst hat2
                have hlies := HR2.out.lies i _ _ hi16 hTi
                rw [bsL_len] at hlies
                have hxs : x.size ≤ 100 := hlies.2.2.1
                have ha5 : a ≤ 65536 := by have := hlies.2.1; have := HD1.out.le; omega
                have hpr : (probe T 16 (homeD 16 (bsL x)) (bsL x) 16 0) = ((a : Int), (i : Int)) := probe_complete HD1.out.wf hi16 hTi
                have hgk := grown_keeps hg3
                have hm3 := Hm2.out.keep hgk ⟨Hm2.out.obj.lt, fun e => by have := Option.some.inj e; omega⟩ ⟨Hm2.out.cells.lt, fun e => by have := Option.some.inj e; omega⟩
                have hK3 := HK2.out.trans (hgk.mono fun b hb => ⟨by have := Hwsl.out b hb; omega, fun e => by have := Option.some.inj e; have := Hwsl.out b hb; omega⟩)
                have hlf3 : ∀ kl, (left kl && !kl.sameKey (kLit x)) = true → Maps.has D kl = true := fun kl h => Hlf.out kl (by simp at h; exact h.1)
                have hrl3 := hrg3.left_eq
                have hrl2 := Hrg.out.left_eq
                have Hm3 := hid hm3
                have HK3 := hid hK3
                have Hlf3 := hid hlf3
                have Hrg3 := hid hrg3
                have Hlt3 := hid hlt3
                have Hpr := hid hpr
                have Hrl3 := hid hrl3
                have Hrl2 := hid hrl2
                have HTi := hid hTi
                clear hm3 hK3 hlf3 hrg3 hlt3 hpr hrl3 hrl2 hTi
                clear hkey hlx hvv hat hgk hg3 hlies hva HK2 Hrg
                go_wp2_with fail
                refine (find10 (K := fun b => b < w3.heap.size ∧ b ≠ m ∧ b ≠ c) Hm3.out (fun e => e.2.1 rfl) (fun e => e.2.2 rfl) (fun b hb => hb.1) HR2.out x (by decide) (by decide) (by omega)).mono ?_
                rintro e w4 ⟨rfl, ⟨μ4, hm4, hc4⟩, hk4⟩
                rw [Hpr.out]
                dsimp only
                have hR4 : Rep μ4.cells 602 16 T 3 (3 + n4) := by rw [hc4]; exact HR2.out
                have hrg4 := hk4.rangesK ⟨by omega, Hmc.out.1, Hmc.out.2.1⟩ ⟨by omega, by omega, by omega⟩ Hrg3.out
                have hK4 := HK3.out.trans (hk4.mono fun b hb => ⟨by have := Hwsl.out b hb; omega, (HGws.out b hb).2.1, (HGws.out b hb).2.2.1⟩)
                have hz4 := hk4.size
                have hc4' := hc4.trans Hc2.out
                have Hm4 := hid hm4
                have HR4 := hid hR4
                have Hrg4 := hid hrg4
                have HK4 := hid hK4
                have Hc4' := hid hc4'
                clear hm4 hR4 hrg4 hK4 hc4'
                clear hk4 hc4 Hm3 HK3 Hrg3
                go_wp2_with fail
                refine (read10 (K := fun b => b < w4.heap.size ∧ b ≠ m ∧ b ≠ c) Hm4.out (fun e => e.2.1 rfl) (fun e => e.2.2 rfl) (fun b hb => hb.1) HR4.out hi16 HTi.out (by omega)).mono ?_
                rintro e w5 ⟨rfl, ⟨μ5, hm5, hc5⟩, hk5⟩
                have hrg5 := hk5.rangesK ⟨by omega, Hmc.out.1, Hmc.out.2.1⟩ ⟨by omega, by omega, by omega⟩ Hrg4.out
                have hK5 := HK4.out.trans (hk5.mono fun b hb => ⟨by have := Hwsl.out b hb; omega, (HGws.out b hb).2.1, (HGws.out b hb).2.2.1⟩)
                have hz5 := hk5.size
                have hc5' := hc5.trans Hc4'.out
                have hrl5 := hrg5.left_eq
                have hb2 : ((a : Int) != 0) = true := by simp; omega
                have Hm5 := hid hm5
                have Hrg5 := hid hrg5
                have HK5 := hid hK5
                have Hc5' := hid hc5'
                have Hrl5 := hid hrl5
                clear hm5 hrg5 hK5 hc5' hrl5
                clear hk5 hc5 Hm4 HK4 Hrg4
                by_cases h17 : x.size ≤ 17
                · have h17' : (x.size : Int) ≤ 17 := by omega
                  rw [if_pos h17]
                  go_wp2_with fail
                  go_roundw
                  case rel => exact ⟨_, cnt3, μ5, Hrg5.out, Hlf3.out, Hm5.out, Hc5'.out, HK5.out, by omega⟩
                  case measure => have := Hrl5.out; have := Hrl2.out; have := Hlt3.out; omega
                · have h17' : (17 : Int) < (x.size : Int) := by omega
                  rw [if_neg h17]
                  go_wp2_with fail
                  go_roundw
                  case rel => exact ⟨_, cnt3, μ5, Hrg5.out, Hlf3.out, Hm5.out, Hc5'.out, HK5.out, by omega⟩
                  case measure => have := Hrl5.out; have := Hrl2.out; have := Hlt3.out; omega
          · have hx' : (x.size : Int) ≤ 100 := by omega
            clear hlt hsz
            go_wp2_with fail
            refine (find10 (K := fun b => b < wr.heap.size ∧ b ≠ m ∧ b ≠ c) HD1.out.mem (fun e => e.2.1 rfl) (fun e => e.2.2 rfl) (fun b hb => hb.1) HD1.out.rep x (by decide) (by decide) Hux.out).mono ?_
            rintro e w2 ⟨rfl, ⟨μ2, hm2, hc2⟩, hk2⟩
            have hD2 : DW w2 m c uB μ2 T n4 := ⟨hm2, by rw [hc2]; exact HD1.out.rep, HD1.out.wf, by rw [hc2]; exact HD1.out.len, HD1.out.le, HD1.out.used.keep hk2 ⟨HD1.out.used.lt, Hum.out.1, Hum.out.2.1⟩⟩
            have hmp2 := hk2.ownsMap ⟨Hmp1.out.lt, Hmc.out.1, Hmc.out.2.1⟩ Hmp1.out
            have hK2 := HK1.out.trans (hk2.mono fun b hb => ⟨by omega, hb.2.1, hb.2.2.1⟩)
            have hsz2 := hK2.size
            have hval := HM.out.val x
            unfold tabVal at hval
            have hlsz : x.size ≤ maxLen := by unfold maxLen; omega
            have HD2 := hid hD2
            have Hmp2 := hid hmp2
            have HK2 := hid hK2
            have Hlsz := hid hlsz
            clear hD2 hmp2 hK2 hlsz
            clear hk2 hm2 hc2 HD1 Hmp1 HK1 y0
            rcases probe_cases T 16 (homeD 16 (bsL x)) (bsL x) 16 0 with ⟨j, _, hj, _, hp⟩ | ⟨_, hp⟩
            rcases hp with ⟨htn, hp⟩ | ⟨a, hta, hp⟩
            · rw [hp] at hval ⊢
              dsimp only at hval ⊢
              have Hval := hid hval
              clear hval
              generalize hsl : (homeD 16 (bsL x) + j) % 16 = sl at *
              have hsl16 : sl < 16 := by omega
              have i0 : (0 : Int) ≤ (sl : Int) := by omega
              have d1 := HBp.out.keep HK2.out HGp.out
              unfold plan599 at d1
              have p0 := (d1).cell 0
              have p1 := (d1).cell 1
              have p2 := (d1).cell 2
              have p3 := (d1).cell 3
              have p4 := (d1).cell 4
              have p5 := (d1).cell 5
              have p6 := (d1).cell 6
              have p7 := (d1).cell 7
              have p8 := (d1).cell 8
              have p9 := (d1).cell 9
              have p10 := (d1).cell 10
              have p11 := (d1).cell 11
              have p12 := (d1).cell 12
              have p13 := (d1).cell 13
              have p14 := (d1).cell 14
              simp only [List.getElem?_cons_zero, List.getElem?_cons_succ] at p0 p1 p2 p3 p4 p5 p6 p7 p8 p9 p10 p11 p12 p13 p14
              have d2 := HD2.out.used
              have q0 := (d2).cell 0
              have q1 := (d2).cell 1
              have q2 := (d2).cell 2
              have q3 := (d2).cell 3
              have q4 := (d2).cell 4
              have q5 := (d2).cell 5
              simp only [List.getElem?_cons_zero, List.getElem?_cons_succ] at q0 q1 q2 q3 q4 q5
              clear d1 d2 hj
              have Hp := hid hp
              have Htn := hid htn
              have Hsl := hid hsl
              clear hp htn hsl
              go_wp2_with (at_lookup; refine wpList_lookup_own_int _ rfl _ _ 90 rfl 9 3 .i64 lawS Try.underlying90 Try.underlying3 (zeroI _) mB k D rfl Hmp2.out _ (kLit x) rfl (keyL Try.underlying9 Hlsz.out) ?_; intro cv hat hwc; have hat2 := Hval.out.symm.trans hat; unfold dI at hat2; injection hat2 with hat2; injection hat2 with _ hat2; subst hat2; clear hwc)
              clear hat
              by_cases hrm : n4 + (2 + (x.size + 3) / 4) ≤ 599
              · have Hrm := hid hrm
                clear hrm
                refine (put10_ok (K := fun b => b < w2.heap.size ∧ b ≠ m ∧ b ≠ c) HD2.out.mem (fun e => e.2.1 rfl) (fun e => e.2.2 rfl) (fun b hb => hb.1) (planD 599) ⟨0, 0, 0, 0, n4, 0⟩ 602 sl x (by omega)
                  (by show (0 : Int) ≤ (n4 : Int); omega) (by decide) (by omega) (by decide) (by have := Hrm.out; simp only [planD]; omega) (a := 3 + n4) (by simp only [planD]; omega) (by decide) (by rw [packC_len, bsL_len, HD2.out.len]; have := Hrm.out; omega) (by rw [HD2.out.len]; omega)).mono ?_
                rintro e w3 ⟨rfl, ⟨μ3, hm3, hc3⟩, hk3⟩
                dsimp only
                rw [show (n4 : Int) + (2 + ((x.size : Int) + 3) / 4) = ((n4 + (2 + (x.size + 3) / 4) : Nat) : Int) by omega]
                generalize hv4 : n4 + (2 + (x.size + 3) / 4) = v4 at *
                have hput := WF.put HD2.out.wf (by decide) Hp.out (3 + n4) (by omega)
                have hlen := bsL_len x
                have hRp := Rep.put HD2.out.rep hsl16 hput.2.1 (by omega) rfl (by rw [packC_len, hlen]; have := Hrm.out; omega) (by rw [hlen]; omega) (fun y hy => bsL_range x y hy)
                rw [hlen, packC_len, hlen, ← hc3, show 3 + n4 + 2 + (x.size + 3) / 4 = 3 + v4 by omega] at hRp
                have hl3 : μ3.cells.length = 618 := by rw [hc3, putC_len]; exact HD2.out.len
                have hMp := HM.out.put HD2.out.wf hsl16 hput.2.1 hput.2.2 (by omega : 0 < 3 + n4)
                have hbu3 := HD2.out.used.keep hk3 ⟨HD2.out.used.lt, Hum.out.1, Hum.out.2.1⟩
                have hmp3 := hk3.ownsMap ⟨Hmp2.out.lt, Hmc.out.1, Hmc.out.2.1⟩ Hmp2.out
                have hkk3 := HK2.out.trans (hk3.mono fun b hb => ⟨by have := HK2.out.size; omega, hb.2.1, hb.2.2.1⟩)
                have hz3 := hk3.size
                have hz3b := HK2.out.size
                have hkey : ∀ W : World, Keeps (fun b => b < w3.heap.size ∧ b ≠ uB) w3 W → Blk W uB [.int .i64 0, .int .i64 0, .int .i64 0, .int .i64 0, .int .i64 v4, .int .i64 0] → (W.ownsMap Try.prog 9 (plainElem Try.prog 3) mB k D ∧ MemAt W m c μ3 ∧ Blk W uB [.int .i64 0, .int .i64 0, .int .i64 0, .int .i64 0, .int .i64 v4, .int .i64 0] ∧ Keeps (fun b => b < W6.heap.size ∧ b ≠ m ∧ b ≠ c ∧ b ≠ uB ∧ b ≠ mB) W6 W) := fun W k1 k2 =>
                  ⟨k1.ownsMap ⟨hmp3.lt, Hmc.out.2.2⟩ hmp3, hm3.keep k1 ⟨hm3.obj.lt, fun e => Hum.out.1 e.symm⟩ ⟨hm3.cells.lt, fun e => Hum.out.2.1 e.symm⟩, k2, hkk3.trans (k1.mono fun b hb => ⟨by omega, hb.2.2.2.1⟩)⟩
                have hbu3f := hbu3.free
                have hul := hbu3.lt
                have hne : w3.heap.size ≠ uB := by omega
                have hbu4 := hbu3
                clear p0 p1 p2 p3 p4 p5 p6 p7 p8 p9 p10 p11 p12 p13 p14 q0 q1 q2 q3 q4 q5 hk3 hc3 hm3 hmp3 hkk3 hlen
                have q0 := (hbu4).cell 0
                have q1 := (hbu4).cell 1
                have q2 := (hbu4).cell 2
                have q3 := (hbu4).cell 3
                have q4 := (hbu4).cell 4
                have q5 := (hbu4).cell 5
                simp only [List.getElem?_cons_zero, List.getElem?_cons_succ] at q0 q1 q2 q3 q4 q5
                clear hbu4
                have hv599 : v4 ≤ 599 := by have := Hrm.out; omega
                have hwf : (Lit.int .i64 (3 + (n4 : Int))).wf = true := WalkArith.wf_i64 (by omega)
                have Hput := hid hput
                have HRp := hid hRp
                have Hl3 := hid hl3
                have HMp := hid hMp
                have Hkey := hid hkey
                have Hbu3 := hid hbu3
                have Hwf := hid hwf
                clear hput hRp hl3 hMp hkey hbu3 hwf
                clear HD2 Hmp2 HK2 HM Hp Htn Hsl Hval hv4
                have hpost : ∀ W w5 : World, W.grownBy w5 (some mB) → Keeps (fun b => b < w3.heap.size ∧ b ≠ uB) w3 W → Blk W uB [.int .i64 0, .int .i64 0, .int .i64 0, .int .i64 0, .int .i64 v4, .int .i64 0] → MemAt w5 m c μ3 ∧ Blk w5 uB [.int .i64 0, .int .i64 0, .int .i64 0, .int .i64 0, .int .i64 v4, .int .i64 0] ∧ Keeps (fun b => b < W6.heap.size ∧ b ≠ m ∧ b ≠ c ∧ b ≠ uB ∧ b ≠ mB) W6 w5 := fun W w5 hg k1 k2 => by
                  obtain ⟨hW1, hW2, hW3, hW4⟩ := Hkey.out W k1 k2
                  have hgk := grown_keeps hg
                  exact ⟨hW2.keep hgk ⟨hW2.obj.lt, fun e => Hmc.out.1 (Option.some.inj e).symm⟩ ⟨hW2.cells.lt, fun e => Hmc.out.2.1 (Option.some.inj e).symm⟩, hW3.keep hgk ⟨hW3.lt, fun e => Hmc.out.2.2 (Option.some.inj e).symm⟩,
                    hW4.trans (hgk.mono fun b hb => ⟨by have := hW4.size; omega, fun e => hb.2.2.2.2 (Option.some.inj e)⟩)⟩
                have Hpost := hid hpost
                clear hpost
                go_wp2_with (at_mapUpdate; refine wpList_mapUpdate_own _ (by rfl) _ _ _ 90 (by rfl) 9 3 lawS Try.underlying90 (plainElem Try.prog 3) mB k D ?z9 ?z10 ?z11 (.string x) (.int .i64 (3 + (n4 : Int))) (kLit x) ?z15 ?z16 ?z17 (.lit (.int .i64 (3 + (n4 : Int)))) [] ?z20 ?z21)
                case z9 => rfl
                case z10 =>
                  refine (Hkey.out _ ?_ ?_).1
                  · repeat (first | with_reducible exact Keeps.refl _ _ | with_reducible refine Keeps.setCell ?_ ?_ _ | with_reducible refine Keeps.alloc ?_ ?_ _)
                    all_goals (first | (simp; done) | (intro b hb; have hb1 := hb.1; simp only [World.size_alloc, World.size_setCell]; exact hb1))
                  · have hbu5 := Hbu3.out
                    repeat (first | with_reducible assumption | with_reducible exact Blk.new _ _ _ | with_reducible refine Blk.drew ?_ | with_reducible refine Blk.drewN ?_ _ | with_reducible refine BlkN.set1 ?_ _ | with_reducible refine BlkN.set6 ?_ _ _ _ _ _ _ | with_reducible exact BlkN.of1 (by with_reducible assumption) | with_reducible exact BlkN.of6 (by with_reducible assumption) | with_reducible refine BlkN.drew ?_ | with_reducible refine BlkN.drewN ?_ _ | with_reducible refine BlkN.set_ne ?_ _ ?_ | with_reducible refine BlkN.alloc ?_ _ | with_reducible refine Blk.set_ne ?_ _ ?_ | (with_reducible refine Blk.new' _ _ _ ?_; focus (simp; done)) | with_reducible refine Blk.alloc ?_ _)
                    all_goals (first | assumption | (simp; done) | (simp; omega))
                case z11 => unfold maxLen; omega
                case z15 => rfl
                case z16 => rfl
                case z17 => exact keyL Try.underlying9 Hlsz.out
                case z20 => exact plainElem_int Try.underlying3 Hwf.out
                intro w5 hown5 hg5
                obtain ⟨hP1, hP2, hP3⟩ : MemAt w5 m c μ3 ∧ Blk w5 uB [.int .i64 0, .int .i64 0, .int .i64 0, .int .i64 0, .int .i64 v4, .int .i64 0] ∧ Keeps (fun b => b < W6.heap.size ∧ b ≠ m ∧ b ≠ c ∧ b ≠ uB ∧ b ≠ mB) W6 w5 := by
                  refine Hpost.out _ w5 hg5 ?_ ?_
                  · repeat (first | with_reducible exact Keeps.refl _ _ | with_reducible refine Keeps.setCell ?_ ?_ _ | with_reducible refine Keeps.alloc ?_ ?_ _)
                    all_goals (first | (simp; done) | (intro b hb; have hb1 := hb.1; simp only [World.size_alloc, World.size_setCell]; exact hb1))
                  · have hbu5 := Hbu3.out
                    repeat (first | with_reducible assumption | with_reducible exact Blk.new _ _ _ | with_reducible refine Blk.drew ?_ | with_reducible refine Blk.drewN ?_ _ | with_reducible refine BlkN.set1 ?_ _ | with_reducible refine BlkN.set6 ?_ _ _ _ _ _ _ | with_reducible exact BlkN.of1 (by with_reducible assumption) | with_reducible exact BlkN.of6 (by with_reducible assumption) | with_reducible refine BlkN.drew ?_ | with_reducible refine BlkN.drewN ?_ _ | with_reducible refine BlkN.set_ne ?_ _ ?_ | with_reducible refine BlkN.alloc ?_ _ | with_reducible refine Blk.set_ne ?_ _ ?_ | (with_reducible refine Blk.new' _ _ _ ?_; focus (simp; done)) | with_reducible refine Blk.alloc ?_ _)
                    all_goals (first | assumption | (simp; done) | (simp; omega))
                have hDf : DW w5 m c uB μ3 (T.put sl (bsL x, 3 + n4)) v4 := ⟨hP1, HRp.out, Hput.out.2.2, Hl3.out, hv599, hP2⟩
                have hKf : Keeps (fun b => b < W6.heap.size ∧ b ≠ m ∧ b ≠ c ∧ b ≠ uB ∧ b ≠ mB) W6 w5 := hP3
                have hMf : MapTab (D.put (kLit x) (.lit (.int .i64 (3 + (n4 : Int))))) (T.put sl (bsL x, 3 + n4)) := by
                  have := HMp.out
                  rw [show (((3 + n4 : Nat)) : Int) = 3 + (n4 : Int) by omega] at this
                  exact this
                have HDf := hid hDf
                have HKf := hid hKf
                have HMf := hid hMf
                have Hown5 := hid hown5
                clear hDf hKf hMf hown5
                clear hP1 hP2 hP3 hg5 q0 q1 q2 q3 q4 q5 hbu3f
                go_wp2_with fail
                go_roundw
                case rel => exact ⟨k + 1, μ3, _, v4, _, by go_num, by omega, HDf.out, Hown5.out, HMf.out, HKf.out⟩
                case measure => simp [intOf]; omega
              · have Hrm := hid hrm
                clear hrm
                refine (put10_full (K := fun b => b < w2.heap.size ∧ b ≠ m ∧ b ≠ c) HD2.out.mem (fun e => e.2.1 rfl) (fun e => e.2.2 rfl) (fun b hb => hb.1) (planD 599) ⟨0, 0, 0, 0, n4, 0⟩ 602 sl x (by omega)
                  (by show (0 : Int) ≤ (n4 : Int); omega) (by decide) (by omega) (by decide) (by have := HD2.out.le; simp only [planD]; omega) (by have := Hrm.out; simp only [planD]; omega)).mono ?_
                rintro e w3 ⟨rfl, ⟨μ3, hm3, hc3⟩, hk3⟩
                dsimp only
                have hD3 : DW w3 m c uB μ3 T n4 := ⟨hm3, by rw [hc3]; exact HD2.out.rep, HD2.out.wf, by rw [hc3]; exact HD2.out.len, HD2.out.le, HD2.out.used.keep hk3 ⟨HD2.out.used.lt, Hum.out.1, Hum.out.2.1⟩⟩
                have hmp3 := hk3.ownsMap ⟨Hmp2.out.lt, Hmc.out.1, Hmc.out.2.1⟩ Hmp2.out
                have hkk3 := HK2.out.trans (hk3.mono fun b hb => ⟨by have := HK2.out.size; omega, hb.2.1, hb.2.2.1⟩)
                have hz3b := hkk3.size
                clear p0 p1 p2 p3 p4 p5 p6 p7 p8 p9 p10 p11 p12 p13 p14 q0 q1 q2 q3 q4 q5 hk3 hc3 hm3
                have HD3 := hid hD3
                have Hmp3 := hid hmp3
                have Hkk3 := hid hkk3
                clear hD3 hmp3 hkk3
                clear HD2 Hmp2 HK2
                go_wp2_with fail
                go_roundw
                case rel =>
                  have hka : Keeps (· < w3.heap.size) w3 (w3.alloc (.cells #[.int .i64 0, .int .i64 0, .int .i64 0, .int .i64 0, .int .i64 0, .int .i64 0] 74)) := (Keeps.refl _ _).alloc (fun b hb => hb) _
                  exact ⟨k + 1, μ3, T, n4, D, by go_num, by omega, HD3.out.keep hka HD3.out.mem.obj.lt HD3.out.mem.cells.lt HD3.out.used.lt, (hka.ownsMap Hmp3.out.lt Hmp3.out).mono (Nat.le_succ _), HM.out, Hkk3.out.trans (hka.mono fun b hb => by have hb1 := hb.1; omega)⟩
                case measure => simp [intOf]; omega
            · have hpos := HD2.out.wf.pos _ _ _ (Nat.mod_lt _ (by decide)) hta
              rw [hp] at hval ⊢
              dsimp only at hval ⊢
              generalize (homeD 16 (bsL x) + j) % 16 = sl at *
              have hb : ((a : Int) == 0) = false := by simp; omega
              have hb2 : ((a : Int) != 0) = true := by simp; omega
              have Hval := hid hval
              clear hval
              clear hta hpos hp
              go_wp2_with (at_lookup; refine wpList_lookup_own_int _ rfl _ _ 90 rfl 9 3 .i64 lawS Try.underlying90 Try.underlying3 (zeroI _) mB k D rfl Hmp2.out _ (kLit x) rfl (keyL Try.underlying9 Hlsz.out) ?_; intro cv hat hwc; have hat2 := Hval.out.symm.trans hat; unfold dI at hat2; injection hat2 with hat2; injection hat2 with _ hat2; subst hat2; clear hwc)
              clear hat
              go_roundw
              case rel => exact ⟨k + 1, μ2, T, n4, D, by go_num, by omega, HD2.out, Hmp2.out.mono (Nat.le_succ _), HM.out, HK2.out⟩
              case measure => simp [intOf]; omega
            · rw [hp] at hval ⊢
              dsimp only at hval ⊢
              have Hval := hid hval
              clear hval
              clear hp
              go_wp2_with (at_lookup; refine wpList_lookup_own_int _ rfl _ _ 90 rfl 9 3 .i64 lawS Try.underlying90 Try.underlying3 (zeroI _) mB k D rfl Hmp2.out _ (kLit x) rfl (keyL Try.underlying9 Hlsz.out) ?_; intro cv hat hwc; have hat2 := Hval.out.symm.trans hat; unfold dI at hat2; injection hat2 with hat2; injection hat2 with _ hat2; subst hat2; clear hwc)
              clear hat
              go_roundw
              case rel => exact ⟨k + 1, μ2, T, n4, D, by go_num, by omega, HD2.out, Hmp2.out.mono (Nat.le_succ _), HM.out, HK2.out⟩
              case measure => simp [intOf]; omega
      · have hkn : k = keys.length := by omega
        subst hkn
        have HD1 := hid hD1
        have HK1 := hid hK1
        have Hmp1 := hid hmp1
        have HM := hid hM
        clear hD1 hK1 hmp1 hM
        clear HBp
        have hmpk := Hmp1.out.mono hk
        have Hmpk := hid hmpk
        clear hmpk
        go_wp2_with (at_range; refine wpList_range_own _ rfl _ 90 rfl 9 3 lawS Try.underlying90 _ mB keys.length D rfl Hmpk.out ?_; intro w0 hrg0 hg0 hs0)
        try go_frame
        have hgk := grown_keeps hg0
        have hm0 := HD1.out.mem.keep hgk ⟨HD1.out.mem.obj.lt, by simp⟩ ⟨HD1.out.mem.cells.lt, by simp⟩
        have hkk0 := (Hkk.out.trans (HK1.out.mono HGws.out)).trans (hgk.mono fun b hb => ⟨by have := (HGws.out b hb).1; omega, by simp⟩)
        have hrl := hrg0.lt
        have hmbl := Hmp1.out.lt
        have hml := HD1.out.mem.obj.lt
        have hcl := HD1.out.mem.cells.lt
        have hwsl : ∀ b, b < ws → b < wr.heap.size := fun b hb => by have := (HGws.out b hb).1; omega
        generalize wr.heap.size = rB at *
        have Hm0 := hid hm0
        have Hrg0 := hid hrg0
        have Hkk0 := hid hkk0
        have Hwsl := hid hwsl
        clear hm0 hrg0 hkk0 hwsl
        clear hg0 hs0 hgk
        go_loopw [19] (fun _ w2 => ∃ (left : Lit → Bool) (cnt : Nat) (μ2 : MemS), w2.ranges Try.prog 9 (plainElem Try.prog 3) mB rB keys.length D left cnt ∧ (∀ kl, left kl = true → Maps.has D kl = true) ∧ MemAt w2 m c μ2 ∧ μ2.cells = μ.cells ∧ Keeps (· < ws) w w2 ∧ rB < w2.heap.size) (fun _ w2 => w2.rangeLeft mB rB)
        case atStart => exact ⟨_, _, μ, Hrg0.out, fun kl h => h, Hm0.out, rfl, Hkk0.out, hrl⟩
        case round =>
          rename World => w2
          obtain ⟨left, cnt, μ2, hrg, hlf, hm2, hc2, hK2, hr2⟩ := hrel
          have hR2 : Rep μ2.cells 602 16 T 3 (3 + n4) := by rw [hc2]; exact HD1.out.rep
          have Hrg := hid hrg
          have Hlf := hid hlf
          have Hm2 := hid hm2
          have Hc2 := hid hc2
          have HK2 := hid hK2
          have HR2 := hid hR2
          clear hrg hlf hm2 hc2 hK2 hR2
          go_wp2_with (at_next; refine wpList_next_ranges _ rfl _ rfl 9 lawS (plainElem Try.prog 3) Value.string (Value.int .i64) (fun key kl h => (keyOf_string_inv Try.underlying9 h).imp fun _ h => h.1) (fun v y h => (plainElem_int_inv Try.underlying3 h).imp fun _ h => h.1) mB rB keys.length D _ _ rfl Hrg.out ?_ ?_)
          · intro hc0 hl0
            go_wp2_with fail
            refine (find10 (K := fun b => b < w2.heap.size ∧ b ≠ m ∧ b ≠ c) Hm2.out (fun e => e.2.1 rfl) (fun e => e.2.2 rfl) (fun b hb => hb.1) HR2.out other (by decide) (by decide) (by omega)).mono ?_
            rintro e w3 ⟨rfl, _, hk3⟩
            have hmp3 := hk3.ownsMap ⟨by omega, Hmc.out.1, Hmc.out.2.1⟩ Hrg.out.owns
            have hkf := HK2.out.trans (hk3.mono fun b hb => ⟨by have := Hwsl.out b hb; omega, (HGws.out b hb).2.1, (HGws.out b hb).2.2.1⟩)
            have hval := HM.out.val other
            unfold tabVal at hval
            have hlo : other.size ≤ maxLen := by unfold maxLen; omega
            generalize (probe T 16 (homeD 16 (bsL other)) (bsL other) 16 0) = pr at *
            obtain ⟨vx, vy⟩ := pr
            dsimp only at hval ⊢
            have Hval := hid hval
            have Hmp3 := hid hmp3
            have Hkf := hid hkf
            have Hlo := hid hlo
            clear hval hmp3 hkf hlo
            clear hk3
            go_wp2_with (at_lookup; refine wpList_lookup_own_int _ rfl _ _ 90 rfl 9 3 .i64 lawS Try.underlying90 Try.underlying3 (zeroI _) mB keys.length D rfl Hmp3.out _ (kLit other) rfl (keyL Try.underlying9 Hlo.out) ?_; intro cv hat hwc; have hat2 := Hval.out.symm.trans hat; unfold dI at hat2; injection hat2 with hat2; injection hat2 with _ hat2; subst hat2; clear hwc)
            exact hR'.out _ _ ⟨rfl, Hkf.out⟩
          · intro x cv kl yd yp w3 cnt3 hkey hlx hvv hat hrg3 hlt3 hg3 hs3 hen
            obtain ⟨x', e1, rfl⟩ := keyOf_string_inv Try.underlying9 hkey
            injection e1 with e1
            subst e1
            obtain ⟨cv', e2, e5, _⟩ := plainElem_int_inv Try.underlying3 hvv
            injection e2 with _ e2
            subst e2
            injection e5 with e5 _
            subst e5
            have hat2 := (HM.out.val x).symm.trans (hat (dI 0))
            unfold dI at hat2
            injection hat2 with hat2
            injection hat2 with _ hat2
            obtain ⟨t', e3, hne⟩ := HM.out.has _ (Hlf.out _ hlx)
            have e3 := kLit_inj e3
            subst e3
            rcases tabVal_cases HD1.out.wf x with ⟨h0, _⟩ | ⟨i, a, hi16, hTi, hapos, hva⟩
            · exact absurd h0 hne
            rw [hva] at hat2 hne
            subst hat2
            have hlies := HR2.out.lies i _ _ hi16 hTi
            rw [bsL_len] at hlies
            have hxs : x.size ≤ 100 := hlies.2.2.1
            have ha5 : a ≤ 65536 := by have := hlies.2.1; have := HD1.out.le; omega
            have hpr : (probe T 16 (homeD 16 (bsL x)) (bsL x) 16 0) = ((a : Int), (i : Int)) := probe_complete HD1.out.wf hi16 hTi
            have hgk := grown_keeps hg3
            have hm3 := Hm2.out.keep hgk ⟨Hm2.out.obj.lt, fun e => by have := Option.some.inj e; omega⟩ ⟨Hm2.out.cells.lt, fun e => by have := Option.some.inj e; omega⟩
            have hK3 := HK2.out.trans (hgk.mono fun b hb => ⟨by have := Hwsl.out b hb; omega, fun e => by have := Option.some.inj e; have := Hwsl.out b hb; omega⟩)
            have hlf3 : ∀ kl, (left kl && !kl.sameKey (kLit x)) = true → Maps.has D kl = true := fun kl h => Hlf.out kl (by simp at h; exact h.1)
            have hrl3 := hrg3.left_eq
            have hrl2 := Hrg.out.left_eq
            have Hm3 := hid hm3
            have HK3 := hid hK3
            have Hlf3 := hid hlf3
            have Hrg3 := hid hrg3
            have Hlt3 := hid hlt3
            have Hpr := hid hpr
            have Hrl3 := hid hrl3
            have Hrl2 := hid hrl2
            have HTi := hid hTi
            clear hm3 hK3 hlf3 hrg3 hlt3 hpr hrl3 hrl2 hTi
            clear hkey hlx hvv hat hgk hg3 hlies hva HK2 Hrg
            go_wp2_with fail
            refine (find10 (K := fun b => b < w3.heap.size ∧ b ≠ m ∧ b ≠ c) Hm3.out (fun e => e.2.1 rfl) (fun e => e.2.2 rfl) (fun b hb => hb.1) HR2.out x (by decide) (by decide) (by omega)).mono ?_
            rintro e w4 ⟨rfl, ⟨μ4, hm4, hc4⟩, hk4⟩
            rw [Hpr.out]
            dsimp only
            have hR4 : Rep μ4.cells 602 16 T 3 (3 + n4) := by rw [hc4]; exact HR2.out
            have hrg4 := hk4.rangesK ⟨by omega, Hmc.out.1, Hmc.out.2.1⟩ ⟨by omega, by omega, by omega⟩ Hrg3.out
            have hK4 := HK3.out.trans (hk4.mono fun b hb => ⟨by have := Hwsl.out b hb; omega, (HGws.out b hb).2.1, (HGws.out b hb).2.2.1⟩)
            have hz4 := hk4.size
            have hc4' := hc4.trans Hc2.out
            have Hm4 := hid hm4
            have HR4 := hid hR4
            have Hrg4 := hid hrg4
            have HK4 := hid hK4
            have Hc4' := hid hc4'
            clear hm4 hR4 hrg4 hK4 hc4'
            clear hk4 hc4 Hm3 HK3 Hrg3
            go_wp2_with fail
            refine (read10 (K := fun b => b < w4.heap.size ∧ b ≠ m ∧ b ≠ c) Hm4.out (fun e => e.2.1 rfl) (fun e => e.2.2 rfl) (fun b hb => hb.1) HR4.out hi16 HTi.out (by omega)).mono ?_
            rintro e w5 ⟨rfl, ⟨μ5, hm5, hc5⟩, hk5⟩
            have hrg5 := hk5.rangesK ⟨by omega, Hmc.out.1, Hmc.out.2.1⟩ ⟨by omega, by omega, by omega⟩ Hrg4.out
            have hK5 := HK4.out.trans (hk5.mono fun b hb => ⟨by have := Hwsl.out b hb; omega, (HGws.out b hb).2.1, (HGws.out b hb).2.2.1⟩)
            have hz5 := hk5.size
            have hc5' := hc5.trans Hc4'.out
            have hrl5 := hrg5.left_eq
            have hb2 : ((a : Int) != 0) = true := by simp; omega
            have Hm5 := hid hm5
            have Hrg5 := hid hrg5
            have HK5 := hid hK5
            have Hc5' := hid hc5'
            have Hrl5 := hid hrl5
            clear hm5 hrg5 hK5 hc5' hrl5
            clear hk5 hc5 Hm4 HK4 Hrg4
            by_cases h17 : x.size ≤ 17
            · have h17' : (x.size : Int) ≤ 17 := by omega
              rw [if_pos h17]
              go_wp2_with fail
              go_roundw
              case rel => exact ⟨_, cnt3, μ5, Hrg5.out, Hlf3.out, Hm5.out, Hc5'.out, HK5.out, by omega⟩
              case measure => have := Hrl5.out; have := Hrl2.out; have := Hlt3.out; omega
            · have h17' : (17 : Int) < (x.size : Int) := by omega
              rw [if_neg h17]
              go_wp2_with fail
              go_roundw
              case rel => exact ⟨_, cnt3, μ5, Hrg5.out, Hlf3.out, Hm5.out, Hc5'.out, HK5.out, by omega⟩
              case measure => have := Hrl5.out; have := Hrl2.out; have := Hlt3.out; omega
end Go.Proofs.Ytjnaibmnpajfdaa
