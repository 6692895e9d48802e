/- Layer 11's statements: the example 'fixed', walked. -/
import Derived.Test.YtjnaibmnpajfdaaLawTC
namespace Go.Proofs.Ytjnaibmnpajfdaa
open Go.RowKit

theorem seenOwn_keep {w w' : World} {K L : Nat → Prop} {v : Value} {l : List SeenM} (h : SeenOwn w K v l) (k : Keeps L w w') (hL : ∀ b, v.ownBlock = some b → L b) : SeenOwn w' K v l :=
  ⟨own_of_keep h.1 k hL, h.2⟩

set_option maxRecDepth 100000 in
set_option maxHeartbeats 2000000 in
theorem fixed11 (w : World) : Calls Try.prog 29 #[] w fun e w' => e = .returned (.bool true) ∧ Keeps (· < w.heap.size) w w' := by
  refine calls_hide fun R' hR' => ?_
  go_enter Try.func29, Try.ntmps29
  go_wp2_with fail
  refine (mem_new w 12 (by omega) (by omega)).mono ?_
  rintro e w1 ⟨rfl, hm1, hk1, hz1⟩
  have HM1 := hid hm1
  have HK1 := hid hk1
  have HZ1 := hid hz1
  clear hm1 hk1 hz1
  go_wp2_with fail
  refine (whole11_plain (K := (· < w.heap.size)) HM1.out (by omega) (by omega) (fun b hb => by have := HZ1.out; omega) _ #[] enters_fx1 fxT fxT_ideal (by omega) ?_).mono ?_
  · intro w2 r s1 _ hR
    exact fx1_call hR
  rintro e w2 ⟨rfl, ⟨μ2, hm2, hc2⟩, hk2⟩
  have HM2 := hid hm2
  have HC2 := hid hc2
  have HK2 := hid (HK1.out.trans hk2)
  clear hm2 hc2 hk2
  generalize hmm : w.heap.size + 1 = m at *
  have Hmm := hid hmm
  clear hmm
  go_wp2_with fail
  refine (seen_any (K := (· < w.heap.size)) HM2.out (by have := Hmm.out; omega) (by omega) (fun b hb => by have := HK2.out.size; omega) 2 1 2 (by unfold Small; omega) (by omega) (by unfold U32; omega)
    (l := [⟨0, 7, 3⟩]) (cs' := fxC) (cnt := 5) (by rw [HC2.out]; rfl) (by omega)).mono ?_
  rintro e w3 ⟨va, rfl, ⟨μ3, hm3, hc3⟩, ho3, hv3, hv3', hk3⟩
  obtain ⟨Aa, ca, rfl⟩ := seen_own_slice ho3
  have HM3 := hid hm3
  have HC3 := hid hc3
  have HO3 := hid ho3
  have HV3 := hid (And.intro hv3 hv3')
  have HK3 := hid (HK2.out.trans hk3)
  clear hm3 hc3 ho3 hk3 hv3 hv3'
  go_wp2_with fail
  have hm0 := Hmm.out
  have hz1 := HK2.out.size
  refine (seen_any (K := fun b => b < w.heap.size ∨ (Value.slice Aa 1 ca).ownBlock = some b) HM3.out (by rintro (h | h); omega; exact HV3.out.1 h) (by rintro (h | h); omega; exact HV3.out.2 h)
    (by rintro b (h | h); have := HK3.out.size; omega; exact (HO3.out.1.lt b h).2) 2 2 2 (by unfold Small; omega) (by omega) (by unfold U32; omega)
    (l := [⟨0, 7, 3⟩, ⟨1, 8, 2⟩]) (cs' := fxC) (cnt := 8) (by rw [HC3.out]; rfl) (by omega)).mono ?_
  rintro e w4 ⟨vb, rfl, ⟨μ4, hm4, hc4⟩, ho4, hv4, hv4', hk4⟩
  obtain ⟨Ab, cb, rfl⟩ := seen_own_slice ho4
  have HM4 := hid hm4
  have HC4 := hid hc4
  have HOa4 := hid (seenOwn_keep HO3.out hk4 (fun b hb => Or.inr hb))
  have HK4 := hid (HK3.out.trans (hk4.mono fun b hb => Or.inl hb))
  clear hm4 hc4 ho4 hk4 hv4 hv4'
  go_wp2_with fail
  refine (seen_any (K := fun b => b < w.heap.size ∨ (Value.slice Aa 1 ca).ownBlock = some b) HM4.out (by rintro (h | h); omega; exact HV3.out.1 h) (by rintro (h | h); omega; exact HV3.out.2 h)
    (by rintro b (h | h); have := HK4.out.size; omega; exact (HOa4.out.1.lt b h).2) 2 3 2 (by unfold Small; omega) (by omega) (by unfold U32; omega)
    (l := [⟨1, 8, 2⟩]) (cs' := fxC) (cnt := 6) (by rw [HC4.out]; rfl) (by omega)).mono ?_
  rintro e w5 ⟨vc, rfl, ⟨μ5, hm5, hc5⟩, ho5, hv5, hv5', hk5⟩
  obtain ⟨Ac, cc, rfl⟩ := seen_own_slice ho5
  have HM5 := hid hm5
  have HC5 := hid hc5
  have HOa5 := hid (seenOwn_keep HOa4.out hk5 (fun b hb => Or.inr hb))
  have HOc5 := hid ho5
  have HVc := hid (And.intro hv5 hv5')
  have HK5 := hid (HK4.out.trans (hk5.mono fun b hb => Or.inl hb))
  clear hm5 hc5 ho5 hk5 hv5 hv5'
  go_wp2_with fail
  have hl5 : ∀ b, ((b < w.heap.size ∨ (Value.slice Aa 1 ca).ownBlock = some b) ∨ (Value.slice Ac 1 cc).ownBlock = some b) → b < w5.heap.size := by
    rintro b ((h | h) | h)
    · have := HK5.out.size; omega
    · exact (HOa5.out.1.lt b h).2
    · exact (HOc5.out.1.lt b h).2
  have HL5 := hid hl5
  have k56 : Keeps (· < w5.heap.size) w5 (w5.alloc (.cells #[.int .i64 (-1)] 3)) := (Keeps.refl _ _).alloc (fun b hb => hb) _
  have hm6 := HM5.out.keep k56 HM5.out.obj.lt HM5.out.cells.lt
  have hb6 := Blk.new w5 [.int .i64 (-1)] 3
  have hoa6 := seenOwn_keep HOa5.out k56 (fun b hb => HL5.out b (Or.inl (Or.inr hb)))
  have hoc6 := seenOwn_keep HOc5.out k56 (fun b hb => HL5.out b (Or.inr hb))
  have hk6 := HK5.out.trans (k56.mono fun b hb => HL5.out b (Or.inl (Or.inl hb)))
  have hz6 : (w5.alloc (.cells #[.int .i64 (-1)] 3)).heap.size = w5.heap.size + 1 := by simp
  generalize hw6 : w5.alloc (.cells #[.int .i64 (-1)] 3) = w6 at *
  have HW6 := hid hw6
  generalize hpd : w5.heap.size = pd at *
  have HPd := hid hpd
  have HM6 := hid hm6
  have HB6 := hid hb6
  have HOa6 := hid hoa6
  have HOc6 := hid hoc6
  have HK6 := hid hk6
  have HZ6 := hid hz6
  have hmpd : m < pd := HPd.out ▸ HM5.out.obj.lt
  have hcpd : w.heap.size < pd := HPd.out ▸ HM5.out.cells.lt
  clear hl5 k56 hm6 hb6 hoa6 hoc6 hk6 hz6 hw6 hpd
  refine (whole11 (K := fun b => ((b < w.heap.size ∨ (Value.slice Aa 1 ca).ownBlock = some b) ∨ (Value.slice Ac 1 cc).ownBlock = some b) ∨ b = pd) HM6.out (by rintro (((h | h) | h) | h); omega; exact HV3.out.1 h; exact HVc.out.1 h; omega)
    (by rintro (((h | h) | h) | h); omega; exact HV3.out.2 h; exact HVc.out.2 h; omega) (by rintro b (h | h); have := HL5.out b h; have := HZ6.out; omega; have := HZ6.out; omega) _ #[.pointer (some ⟨pd, 0, none⟩)] enters_fx2 (findT 2 8 2 0)
    (x := 1) (cs' := fxC) (n := 2) (by rw [HC5.out]; rfl) (by omega)
    (fun w1 => Keeps (fun b => (b < w.heap.size ∨ (Value.slice Aa 1 ca).ownBlock = some b) ∨ (Value.slice Ac 1 cc).ownBlock = some b) w6 w1 ∧ ∃ old, Blk w1 pd [old])
    (fun _ y w1 => Blk w1 pd [.int .i64 y]) ⟨Keeps.refl _ _, _, HB6.out⟩ (by rintro w1 w2 ⟨h1, old, h2⟩ k; exact ⟨h1.trans (k.mono fun b hb => Or.inl hb), old, h2.keep k (Or.inr rfl)⟩)
    (by intro r y w1 w2 hr h k; exact h.keep k (fun e => hr (Or.inr e.symm))) ?_).mono ?_
  · rintro w1 r s1 ⟨h1, old, h2⟩ hR
    refine (fx2_call hR pd old h2 (Or.inr rfl)).mono ?_
    rintro e w2 ⟨rfl, g1, g2, g3⟩
    exact ⟨rfl, g1, ⟨h1.trans (g2.mono fun b hb => ⟨Or.inl hb, fun e => by have := HL5.out b hb; omega⟩), _, g3⟩, g3⟩
  rintro e w7 ⟨rfl, _, ⟨hk7, _⟩, ⟨r7, _, hb7⟩, _⟩
  have cd := hb7.cell 0
  simp only [List.getElem?_cons_zero] at cd
  have HOa7 := hid (seenOwn_keep HOa6.out hk7 (fun b hb => Or.inl (Or.inr hb)))
  have HOc7 := hid (seenOwn_keep HOc6.out hk7 (fun b hb => Or.inr hb))
  have HB7 := hid hb7
  have HK7 := hid (HK6.out.trans (hk7.mono fun b hb => Or.inl (Or.inl hb)))
  have hlt7 : pd < w7.heap.size := hb7.lt
  clear hk7 hb7
  go_wp2_with fail
  have hsa := HOa7.out.sl
  have k78 : Keeps (· < w7.heap.size) w7 (w7.alloc (.cells #[.int .i64 0, .int .u32 7, .int .i64 3] 105)) := (Keeps.refl _ _).alloc (fun b hb => hb) _
  have hsa8 := (hsa.keep (k78.mono fun b hb => (HOa7.out.1.lt b hb).2) fun b hb => hb)
  have hsl8 := SlAt.new w7 [.int .i64 0, .int .u32 7, .int .i64 3] 105 3 1 rfl (by unfold maxLen; omega) (fun _ => True) trivial
  have hoc8 := seenOwn_keep HOc7.out k78 (fun b hb => (HOc7.out.1.lt b hb).2)
  have hb8 := HB7.out.keep k78 HB7.out.lt
  have hk8 := HK7.out.trans (k78.mono fun b hb => by have := HK7.out.size; omega)
  have cd8 := hb8.cell 0
  simp only [List.getElem?_cons_zero] at cd8
  generalize hw8 : w7.alloc (.cells #[.int .i64 0, .int .u32 7, .int .i64 3] 105) = w8 at *
  have HW8 := hid hw8
  have HSA := hid hsa8
  have HSL : Hid (SlAt w8 (fun _ => True) 3 (.slice (some ⟨w7.heap.size, 0, none⟩) 1 1) 1 ([(⟨0, 7, 3⟩ : SeenM)].flatMap SeenM.cells)) := hsl8
  have HOc8 := hid hoc8
  have HB8 := hid hb8
  have HK8 := hid hk8
  clear hsa k78 hsa8 hsl8 hoc8 hb8 hk8 hw8 cd
  refine (same11_eq (l := [⟨0, 7, 3⟩]) HSA.out HSL.out).mono ?_
  rintro e w9 ⟨rfl, n9, rfl⟩
  have hoc9 := seenOwn_keep HOc8.out ((Keeps.refl (fun _ => True) w8).drewN n9) (fun _ _ => trivial)
  have hb9 := HB8.out.keep ((Keeps.refl (fun _ => True) w8).drewN n9) trivial
  have hk9 := HK8.out.drewN n9
  generalize hw9 : w8.drewN n9 = w9 at *
  have HW9 := hid hw9
  have HOc9 := hid hoc9
  have HB9 := hid hb9
  have HK9 := hid hk9
  clear hoc9 hb9 hk9 hw9 cd8
  go_wp2_with fail
  have hsc := HOc9.out.sl
  have k90 : Keeps (· < w9.heap.size) w9 (w9.alloc (.cells #[.int .i64 1, .int .u32 8, .int .i64 2] 105)) := (Keeps.refl _ _).alloc (fun b hb => hb) _
  have hsc0 := (hsc.keep (k90.mono fun b hb => (HOc9.out.1.lt b hb).2) fun b hb => hb)
  have hsl0 := SlAt.new w9 [.int .i64 1, .int .u32 8, .int .i64 2] 105 3 1 rfl (by unfold maxLen; omega) (fun _ => True) trivial
  have hb0 := HB9.out.keep k90 HB9.out.lt
  have hk0 := HK9.out.trans (k90.mono fun b hb => by have := HK9.out.size; omega)
  have HSC := hid hsc0
  have HSL0 : Hid (SlAt (w9.alloc (.cells #[.int .i64 1, .int .u32 8, .int .i64 2] 105)) (fun _ => True) 3 (.slice (some ⟨w9.heap.size, 0, none⟩) 1 1) 1 ([(⟨1, 8, 2⟩ : SeenM)].flatMap SeenM.cells)) := hsl0
  have HB0 := hid hb0
  have HK0 := hid hk0
  clear hsc k90 hsc0 hsl0 hb0 hk0
  refine (same11_eq (l := [⟨1, 8, 2⟩]) HSC.out HSL0.out).mono ?_
  rintro e w10 ⟨rfl, n10, rfl⟩
  have hb10 := HB0.out.keep ((Keeps.refl (fun _ => True) _).drewN n10) trivial
  have cd := hb10.cell 0
  simp only [List.getElem?_cons_zero] at cd
  have HK10 := hid (HK0.out.drewN n10)
  clear hb10
  go_wp2_with fail
  exact hR'.out _ _ ⟨rfl, HK10.out⟩
end Go.Proofs.Ytjnaibmnpajfdaa
