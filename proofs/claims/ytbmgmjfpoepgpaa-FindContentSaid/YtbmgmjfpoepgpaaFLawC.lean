/- Layer 15's statements: the example 'fixed'. -/
import Derived.Test.YtbmgmjfpoepgpaaFLawB
namespace Go.Proofs.Ytbmgmjfpoepgpaa
open Go.RowKit

def keyF : ByteArray := ⟨#[0, 102, 111, 120]⟩
def keyD : ByteArray := ⟨#[0, 100, 111, 103]⟩
def lstF : LstM := ⟨keyF, 0, [⟨0, [1]⟩]⟩
theorem encB_F : encB [⟨0, [1]⟩] 1 0 = [0, 1, 1] := by
  simp [encB, entryB, gapB, posB, vlq_small]
theorem cellsF : cellsR [lstF] ++ makeL (cellsR [lstF]).length 1 [1, 7, 2, 0] (outP [lstF] [lstF].length) = [0, 0, 4, 2020566528, 2, 1, 1, 7, 2, 0, 1, 12, 1, 0, 65792] := by
  have e1 : encL [⟨0, [1]⟩] = [1, 0, 65792] := by
    unfold encL
    rw [show ([⟨0, [1]⟩] : List EntM).length = 1 from rfl, encB_F]
    rfl
  have e2 : cellsR [lstF] = [0, 0, 4, 2020566528] := by rfl
  have e3 : outP [lstF] [lstF].length = [⟨keyF, 1, [⟨0, [1]⟩]⟩] := by rfl
  rw [e2, e3]
  unfold makeL bodyL
  simp [tabL, tabE, baseL, bodyL, e1, List.range_succ]
theorem posOk1 : posOk [1] := by
  intro k x h
  rcases k with _ | k
  · simp at h; subst h
    exact ⟨by decide, by decide, fun y h => by omega⟩
  · simp at h
theorem mayF : MayL 1 (outP [lstF] 1) := by
  have e3 : outP [lstF] 1 = [⟨keyF, 1, [⟨0, [1]⟩]⟩] := by rfl
  rw [e3]
  refine ⟨by decide, by decide, fun i l h => ?_⟩
  rcases i with _ | i
  · simp at h; subst h
    refine ⟨fun p h => by omega, by decide, by decide, by decide, ⟨by decide, fun i e h => ?_⟩, fun k e h => ?_⟩
    · rcases i with _ | i
      · simp at h; subst h
        exact ⟨by decide, by decide, fun d h => by omega, by decide, by decide, posOk1⟩
      · simp at h
    · rcases k with _ | k
      · simp at h; subst h; decide
      · simp at h
  · simp at h
abbrev csF : List Int := [0, 0, 4, 2020566528, 2, 1, 1, 7, 2, 0, 1, 12, 1, 0, 65792]
theorem recF : (readD 1).ReadsN csF 6 fun x => x = keyF := by
  have := reads_recN (cs := csF) (a := 1) (t := keyF) (by decide) rfl (fun j c h => by
    have e : packC (bsL keyF) = [2020566528] := by rfl
    rw [e] at h
    rcases j with _ | j
    · simp at h; subst h; rfl
    · simp at h)
  exact this
theorem keysF (i : Nat) (k : ByteArray) (h : [keyF][i]? = some k) : (readD ((fun _ => 1 : Nat → Int) i)).ReadsN csF 6 fun x => x = k := by
  rcases i with _ | i
  · simp at h; subst h; exact recF
  · simp at h
theorem termF : (termT 4 keyF).ReadsN csF 10 fun v => v = 12 :=
  reads_term (cs := csF) (a := 4) (docs := 1) (ks := [keyF]) (recs := fun _ => 1) (vals := fun _ => 12) rfl rfl (by decide) (by decide) (fun i a b h1 h2 => by simp at h2) (fun i hi => by have : i = 0 := (by simpa using hi); subst this; rfl) (fun i hi => by have : i = 0 := (by simpa using hi); subst this; rfl) keysF 0 keyF rfl
theorem termD : (termT 4 keyD).ReadsN csF 10 fun v => v = 0 :=
  reads_term_none (cs := csF) (a := 4) (docs := 1) (ks := [keyF]) (recs := fun _ => 1) (vals := fun _ => 12) rfl rfl (by decide) (by decide) (fun i hi => by have : i = 0 := (by simpa using hi); subst this; rfl) (fun i hi => by have : i = 0 := (by simpa using hi); subst this; rfl) keysF keyD (fun k hk => by
    rcases List.mem_singleton.1 hk with rfl
    rw [ByteArray.toList_eq, ByteArray.toList_eq]
    decide)
theorem listF : (listT 12 1).ReadsN csF 10 fun v => v = [⟨0, [1]⟩] := ⟨[⟨0, [1]⟩], 3, by kernel_rfl, by decide, rfl⟩

theorem SlAt.of_blkS {w : World} {K : Nat → Prop} {b n sz : Nat} {xs : List Value} (h : Blk w b xs) (hK : K b) (hl : xs.length = n * sz) (hn : n ≤ maxLen) : SlAt w K sz (.slice (some ⟨b, 0, none⟩) n n) n xs :=
  ⟨_, _, rfl, Nat.le_refl _, hn, hl, fun _ => ⟨b, 0, rfl, hK, fun j u hu => by rw [Nat.zero_add, h.cell]; exact hu⟩⟩
theorem entV_one {w : World} {K : Nat → Prop} {b p : Nat} (h : Blk w b [.int .i64 0, .slice (some ⟨p, 0, none⟩) 1 1]) (hp : Blk w p [.int .i64 1]) (hb : K b) (hpK : K p) : EntV w K (.slice (some ⟨b, 0, none⟩) 1 1) [⟨0, [1]⟩] :=
  ⟨_, SlAt.of_blkS h hb rfl (by decide), .slice (some ⟨p, 0, none⟩) 1 1, [], rfl, SlAt.of_blkS hp hpK rfl (by decide), rfl⟩

set_option maxRecDepth 100000 in
set_option maxHeartbeats 4000000 in
theorem fixed15 (w : World) : Calls Try.prog 15 #[] w fun e w' => e = .returned (.bool true) ∧ Keeps (· < w.heap.size) w w' := by
  refine calls_hide fun R' hR' => ?_
  go_enter Try.func15, Try.ntmps15
  go_wp2_with fail
  generalize hw0 : w.heap.size = b0 at *
  have h4 : Keeps (· < b0) w ((((w.alloc (.cells #[.int .u32 1, .int .u32 7, .int .u32 2, .int .u32 0] 73)).alloc (.cells #[.int .i64 1] 3)).alloc (.cells #[.int .i64 0, .slice (some ⟨b0 + 1, 0, none⟩) 1 1] 71)).alloc (.cells #[.string ⟨#[0, 102, 111, 120]⟩, .int .i64 0, .slice (some ⟨b0 + 1 + 1, 0, none⟩) 1 1] 42)) :=
    ((((Keeps.refl _ _).alloc (fun b hb => by omega) _).alloc (fun b hb => by simp; omega) _).alloc (fun b hb => by simp; omega) _).alloc (fun b hb => by simp; omega) _
  refine calls_gen (fun W => Blk W b0 [.int .u32 1, .int .u32 7, .int .u32 2, .int .u32 0] ∧ Blk W (b0 + 1) [.int .i64 1] ∧ Blk W (b0 + 1 + 1) [.int .i64 0, .slice (some ⟨b0 + 1, 0, none⟩) 1 1] ∧ Blk W (b0 + 1 + 1 + 1) [.string ⟨#[0, 102, 111, 120]⟩, .int .i64 0, .slice (some ⟨b0 + 1 + 1, 0, none⟩) 1 1] ∧ b0 + 4 = W.heap.size ∧ Keeps (· < b0) w W) ⟨?_, ?_, ?_, ?_, ?_, h4⟩ ?_
  · refine Blk.alloc (Blk.alloc (Blk.alloc ?_ _) _) _
    exact Blk.new' _ _ _ hw0.symm
  · refine Blk.alloc (Blk.alloc ?_ _) _
    exact Blk.new' _ _ _ (by simp [hw0])
  · refine Blk.alloc ?_ _
    exact Blk.new' _ _ _ (by simp [hw0])
  · exact Blk.new' _ _ _ (by simp [hw0])
  · simp [hw0]
  rintro W ⟨hB0, hB1, hB2, hB3, hsW, hkW⟩
  have hE := entV_one (K := (· < W.heap.size)) hB2 hB1 (by omega) (by omega)
  have hLs : ListsV W (· < W.heap.size) (.slice (some ⟨b0 + 1 + 1 + 1, 0, none⟩) [lstF].length 1) [lstF] := ⟨_, SlAt.of_blkS hB3 (by omega) rfl (by decide), _, [], rfl, hE, rfl⟩
  have hRw : SlAt W (· < W.heap.size) 4 (.slice (some ⟨b0, 0, none⟩) 1 1) 1 (([1, 7, 2, 0] : List Int).map (Value.int .u32)) := SlAt.of_blkS hB0 (by omega) rfl (by decide)
  have hH := ref15_hold (some ⟨b0, 0, none⟩) 1 1 [1, 7, 2, 0] (some ⟨b0 + 1 + 1 + 1, 0, none⟩) 1 [lstF] (fun l hl => by rcases List.mem_singleton.1 hl with rfl; decide) (by decide) W hRw hLs
  have HkW := hid hkW
  clear hkW
  clear hRw hLs hE hB0 hB1 hB2 hB3 h4
  refine hH.mono ?_
  rintro e w1 (⟨g, c1, ov, rfl, _, hN1, hL1⟩ | ⟨_, hno, _⟩)
  case inr => exact absurd mayF hno
  rw [cellsF] at hN1 ⊢
  rw [show ((cellsR [lstF]).length : Int) = 4 from rfl]
  obtain ⟨oA, oc, rfl, -, -⟩ := hL1.form
  have hk1 := HkW.out.trans (hN1.2.mono fun b hb => by omega)
  have hsl : SlAt w1 (· < w1.heap.size) 1 (.slice (some ⟨g, 0, none⟩) 15 c1) 15 (csF.map (Value.int .u32)) := (ownB_slAt hN1.1).mono (fun b hb => hb.2)
  have hs1 := hN1.2.size
  have hgl := (ownB_lt hN1.1 (b := g) rfl).2
  have Hk1 := hid hk1
  have Hsl := hid hsl
  clear hk1 hsl
  clear hL1 hN1 HkW hH
  generalize hnn : (outP [lstF] [lstF].length).length = nn
  clear hnn
  go_wp2_with fail
  refine calls_gen (fun W2 => Blk W2 w1.heap.size [.int .i64 4] ∧ Keeps (· < b0) w W2 ∧ SlAt W2 (· < W2.heap.size) 1 (.slice (some ⟨g, 0, none⟩) 15 c1) 15 (csF.map (Value.int .u32)) ∧ b0 ≤ w1.heap.size) ⟨Blk.new _ _ _, Hk1.out.alloc (fun b hb => by omega) _, ?_, by omega⟩ ?_
  · exact (Hsl.out.keep ((Keeps.refl _ _).alloc (fun b hb => hb) _) (fun b hb => hb)).mono (fun b hb => by simp; omega)
  rintro W2 ⟨hA, hkA, hslA, hb1⟩
  generalize w1.heap.size = ba at *
  have hlt2 := hA.lt
  clear Hk1 Hsl hsW hs1 hgl
  have HkA := hid hkA
  clear hkA
  refine (of15 (some ⟨g, 0, none⟩) 15 c1 csF rfl (by decide) (by decide) (by intro x hx; simp at hx; rcases hx with rfl | rfl | rfl | rfl | rfl | rfl | rfl | rfl | rfl | rfl | rfl | rfl | rfl | rfl <;> exact ⟨by decide, by decide⟩) W2 hslA).mono ?_
  rintro e w3 ⟨rfl, ⟨μ3, hm3, hc3⟩, hk3⟩
  have hA3 := hA.keep hk3 hlt2
  have hk30 := HkA.out.trans (hk3.mono fun b hb => by omega)
  have hs3 := hk3.size
  generalize hcc : W2.heap.size = c at *
  generalize hmm : c + 1 = m at *
  have hcm : c < m := by omega
  have hm3l := hm3.obj.lt
  have hc3l := hm3.cells.lt
  have Hm3 := hid hm3
  have Hc3 := hid hc3
  have HA3 := hid hA3
  have Hk30 := hid hk30
  have Hcc := hid hcc
  have Hmm := hid hmm
  clear hm3 hc3 hA3 hk30 hcc hmm
  clear hA hslA HkA hk3
  go_wp2_with fail
  refine calls_gen (fun W4 => Blk W4 w3.heap.size [.int .i64 0] ∧ Blk W4 (w3.heap.size + 1) [.int .i64 9] ∧ Blk W4 ba [.int .i64 4] ∧ MemAt W4 m c μ3 ∧ Keeps (· < b0) w W4 ∧ w3.heap.size + 1 < W4.heap.size) ⟨(Blk.new _ _ _).alloc _, Blk.new' _ _ _ (by simp), (HA3.out.alloc _).alloc _, ?_, (Hk30.out.alloc (fun b hb => by omega) _).alloc (fun b hb => by simp; omega) _, by simp⟩ ?_
  · exact Hm3.out.keep (((Keeps.refl (· < w3.heap.size) _).alloc (fun b hb => hb) _).alloc (fun b hb => by simp; omega) _) hm3l hc3l
  rintro W4 ⟨hB6, hB7, hA4, hm4, hk4, hs4⟩
  generalize hb6 : w3.heap.size = b6 at *
  generalize hb7 : b6 + 1 = b7 at *
  have hn67 : b6 < b7 := by omega
  have Hk4 := hid hk4
  have Hb6 := hid hb6
  have Hb7 := hid hb7
  clear hk4 hb6 hb7
  clear Hm3 HA3 Hk30
  have hr1 := termF
  rw [← Hc3.out] at hr1
  refine (whole_term (f := 36) (fun _ _ => by rfl) fixed_clo1 hm4 (fun b => b ≠ m ∧ b ≠ c ∧ b < W4.heap.size) (fun h => h.1 rfl) (fun h => h.2.1 rfl) (fun b h => h.2.2) ba b6 4 (.int .i64 0) hA4 hB6 ⟨by omega, by omega, by omega⟩ ⟨by omega, by omega, by omega⟩ (by omega) (by decide) 200 hr1 (by decide) (by decide) (by decide)).mono ?_
  rintro e w5 ⟨rfl, ⟨μ5, hm5, hc5⟩, hk5, hB65⟩
  have hA5 := hA4.keep hk5 ⟨⟨by omega, by omega, by omega⟩, by omega⟩
  have hB75 := hB7.keep hk5 ⟨⟨by omega, by omega, by omega⟩, by omega⟩
  have hk50 := Hk4.out.trans (hk5.mono fun b hb => ⟨⟨by omega, by omega, by omega⟩, by omega⟩)
  have hs5 := hk5.size
  have hr2 := termD
  rw [← Hc3.out, ← hc5] at hr2
  have hr3 := listF
  rw [← Hc3.out, ← hc5] at hr3
  have Hm5 := hid hm5
  have Hc5 := hid hc5
  have HA5 := hid hA5
  have HB65 := hid hB65
  have HB75 := hid hB75
  have Hk50 := hid hk50
  have Hr2 := hid hr2
  have Hr3 := hid hr3
  clear hm5 hc5 hA5 hB65 hB75 hk50 hr2 hr3
  clear hm4 hA4 hB6 hB7 Hk4 hk5 hr1 Hc3
  go_wp2_with fail
  refine (whole_term (f := 37) (fun _ _ => by rfl) fixed_clo2 Hm5.out (fun b => b ≠ m ∧ b ≠ c ∧ b < w5.heap.size) (fun h => h.1 rfl) (fun h => h.2.1 rfl) (fun b h => h.2.2) ba b7 4 (.int .i64 9) HA5.out HB75.out ⟨by omega, by omega, by omega⟩ ⟨by omega, by omega, by omega⟩ (by omega) (by decide) 200 Hr2.out (by decide) (by decide) (by decide)).mono ?_
  rintro e w6 ⟨rfl, ⟨μ6, hm6, hc6⟩, hk6, hB76⟩
  have hA6 := HA5.out.keep hk6 ⟨⟨by omega, by omega, by omega⟩, by omega⟩
  have hB66 := HB65.out.keep hk6 ⟨⟨by omega, by omega, by omega⟩, by omega⟩
  have hk60 := Hk50.out.trans (hk6.mono fun b hb => ⟨⟨by omega, by omega, by omega⟩, by omega⟩)
  have hs6 := hk6.size
  have hr3 := Hr3.out
  rw [← hc6] at hr3
  have hm6l := hm6.obj.lt
  have hc6l := hm6.cells.lt
  have Hm6 := hid hm6
  have Hc6 := hid hc6
  have HA6 := hid hA6
  have HB66 := hid hB66
  have HB76 := hid hB76
  have Hk60 := hid hk60
  have HR3 := hid hr3
  clear hm6 hc6 hA6 hB66 hB76 hk60 hr3
  clear Hm5 Hc5 HA5 HB65 HB75 Hk50 Hr2 Hr3 hk6
  go_wp2_with fail
  refine calls_gen (fun W7 => Blk W7 w6.heap.size [.slice none 0 0] ∧ Blk W7 b6 [.int .i64 12] ∧ Blk W7 b7 [.int .i64 0] ∧ Blk W7 ba [.int .i64 4] ∧ MemAt W7 m c μ6 ∧ Keeps (· < b0) w W7 ∧ w6.heap.size < W7.heap.size) ⟨Blk.new _ _ _, HB66.out.alloc _, HB76.out.alloc _, HA6.out.alloc _, ?_, Hk60.out.alloc (fun b hb => by omega) _, by simp⟩ ?_
  · exact Hm6.out.keep ((Keeps.refl (· < w6.heap.size) _).alloc (fun b hb => hb) _) hm6l hc6l
  rintro W7 ⟨hB8, hB67, hB77, hA7, hm7, hk7, hs7⟩
  generalize hb8 : w6.heap.size = b8 at *
  have hb8b : b7 < b8 := by omega
  have hb8m : m < b8 := by omega
  have Hk7 := hid hk7
  have Hb8 := hid hb8
  clear hk7 hb8
  clear Hm6 HB66 HB76 HA6 Hk60
  refine (whole_list (f := 38) (fun _ _ => by rfl) fixed_clo3 hm7 (fun b => b ≠ m ∧ b ≠ c ∧ b < W7.heap.size) (fun h => h.1 rfl) (fun h => h.2.1 rfl) (fun b h => h.2.2) b6 b8 12 (.slice none 0 0) hB67 hB8 ⟨by omega, by omega, by omega⟩ ⟨by omega, by omega, by omega⟩ (by omega) (by decide) 200 HR3.out (by decide) (by decide) (by decide)).mono ?_
  rintro e w9 ⟨rfl, _, hk9, gl, hB89, hE9⟩
  have hA9 := hA7.keep hk9 ⟨⟨by omega, by omega, by omega⟩, by omega⟩
  have hB69 := hB67.keep hk9 ⟨⟨by omega, by omega, by omega⟩, by omega⟩
  have hB79 := hB77.keep hk9 ⟨⟨by omega, by omega, by omega⟩, by omega⟩
  have hk90 := Hk7.out.trans (hk9.mono fun b hb => ⟨⟨by omega, by omega, by omega⟩, by omega⟩)
  have hs9 := hk9.size
  obtain ⟨gA, gc, rfl, -, -⟩ := hE9.form
  have hEv := hE9.up (L := (· < w9.heap.size)) (fun b hb => hb.2.2.2)
  have x0 := (hA9).cell 0
  simp only [List.getElem?_cons_zero] at x0
  have y0 := (hB69).cell 0
  simp only [List.getElem?_cons_zero] at y0
  have z0 := (hB79).cell 0
  simp only [List.getElem?_cons_zero] at z0
  have u0 := (hB89).cell 0
  simp only [List.getElem?_cons_zero] at u0
  clear hB8 hB67 hB77 hA7 hm7 hk9 hE9 hA9 hB69 hB79 hB89 Hk7 HR3
  have HEv := hid hEv
  have Hk90 := hid hk90
  clear hEv hk90
  go_wp2_with fail
  refine calls_gen (fun W => EntV W (· < W.heap.size) (.slice gA 1 gc) [⟨0, [1]⟩] ∧ EntV W (· < W.heap.size) (.slice (some ⟨w9.heap.size + 1, 0, none⟩) 1 1) [⟨0, [1]⟩] ∧ Keeps (· < b0) w W) ⟨?_, ?_, (Hk90.out.alloc (fun b hb => by omega) _).alloc (fun b hb => by simp; omega) _⟩ ?_
  · exact (HEv.out.keep (((Keeps.refl (· < w9.heap.size) _).alloc (fun b hb => hb) _).alloc (fun b hb => by simp; omega) _) (fun b hb => hb)).up (fun b hb => by simp; omega)
  · exact entV_one (Blk.new' _ _ _ (by simp)) ((Blk.new _ _ _).alloc _) (by simp) (by simp; omega)
  rintro W ⟨he1, he2, hkW⟩
  have HS := hid (same13 _ _ _ _ _ W he1 he2)
  have HkW := hid hkW
  clear hkW
  clear he1 he2 HEv Hk90
  refine HS.out.mono ?_
  rintro e w11 ⟨rfl, n, rfl⟩
  go_wp2_with fail
  exact hR'.out _ _ ⟨rfl, HkW.out.drewN n⟩
end Go.Proofs.Ytbmgmjfpoepgpaa
