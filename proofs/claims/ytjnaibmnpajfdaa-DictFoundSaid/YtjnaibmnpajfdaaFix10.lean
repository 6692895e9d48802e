/- Layer 10's statements: the example 'fixed'. -/
import Derived.Test.YtjnaibmnpajfdaaLawDE
namespace Go.Proofs.Ytjnaibmnpajfdaa
open Go.RowKit

theorem Rep.empty {cs : List Int} {s n lo : Nat} (hl : s + n ≤ cs.length) (hlo : lo ≤ s) (h1 : 1 ≤ lo) (hz : ∀ i, i < n → cs[s + i]? = some 0) : Rep cs s n (fun _ => none) lo lo :=
  ⟨hl, hlo, h1, fun i hi _ => hz i hi, fun _ _ _ _ e => (by cases e), fun _ _ _ _ e => (by cases e), fun _ _ _ _ e => (by cases e), fun _ _ _ _ e => (by cases e)⟩
theorem probe_void {n h : Nat} {key : List Int} (hn : 0 < n) : probe (fun _ => none) n h key n 0 = (0, ((h % n : Nat) : Int)) := by
  obtain ⟨f, rfl⟩ : ∃ f, n = f + 1 := ⟨n - 1, by omega⟩
  exact probe_none rfl
theorem rep_zeros (n : Nat) (s k lo : Nat) (h : s + k ≤ n) (hlo : lo ≤ s) (h1 : 1 ≤ lo) : Rep (List.replicate n (0 : Int)) s k (fun _ => none) lo lo :=
  Rep.empty (by simpa using h) hlo h1 (fun i hi => by rw [List.getElem?_replicate, if_pos (by omega)])

set_option maxRecDepth 100000 in
set_option maxHeartbeats 2000000 in
theorem fixed10 (w : World) : Calls Try.prog 40 #[] w fun e w' => e = .returned (.bool true) ∧ Keeps (· < w.heap.size) w w' := by
  refine calls_hide fun R' hR' => ?_
  go_enter Try.func40, Try.ntmps40
  go_wp2_with fail
  refine (plan10 40 (by decide) (by decide) _).mono ?_
  rintro e w1 ⟨rfl, hk1⟩
  unfold planD PlanM.val
  have hz1 := hk1.size
  have Hk1 := hid hk1
  clear hk1
  go_wp2_with fail
  refine calls_gen (fun W => Blk W w1.heap.size [.int .i64 3, .int .i64 3, .int .i64 3, .int .i64 3, .int .i64 3, .int .i64 43, .int .i64 0, .int .i64 0, .int .i64 0, .int .i64 0, .int .i64 40, .int .i64 16, .int .i64 59, .int .i64 128, .int .i64 133] ∧ Keeps (· < w.heap.size) w W) ⟨?_, ?_⟩ ?_
  · repeat (first | with_reducible assumption | with_reducible exact Blk.new _ _ _ | with_reducible refine Blk.drew ?_ | with_reducible refine Blk.drewN ?_ _ | with_reducible refine Blk.set_ne ?_ _ ?_ | (with_reducible refine Blk.new' _ _ _ ?_; focus (simp; done)) | with_reducible refine Blk.alloc ?_ _)
    all_goals (first | assumption | (simp; done) | (simp; omega))
  · exact Hk1.out.alloc (fun b hb => by omega) _
  rintro W ⟨hB, hk⟩
  refine (mem_new W 59 (by decide) (by decide)).mono ?_
  rintro e w3 ⟨rfl, hm3, hk3, hz3⟩
  have hlb := hB.lt
  have hB3 := hB.keep hk3 hlb
  have hkk3 := hk.trans (hk3.mono fun b hb => by omega)
  clear hB hk hk3 Hk1
  generalize hc : W.heap.size = c at *
  generalize hmm : c + 1 = m at *
  generalize w1.heap.size = bp at *
  generalize hws : w.heap.size = ws at *
  have Hc := hid hc
  have Hmm := hid hmm
  have Hm3 := hid hm3
  have Hkk3 := hid hkk3
  have Hws := hid hws
  have Hlb := hid hlb
  have Hz1 := hid hz1
  have Hz3 := hid hz3
  clear hc hmm hm3 hkk3 hws hlb hz1 hz3
  have p0 := (hB3).cell 0
  have p1 := (hB3).cell 1
  have p2 := (hB3).cell 2
  have p3 := (hB3).cell 3
  have p4 := (hB3).cell 4
  have p5 := (hB3).cell 5
  have p6 := (hB3).cell 6
  have p7 := (hB3).cell 7
  have p8 := (hB3).cell 8
  have p9 := (hB3).cell 9
  have p10 := (hB3).cell 10
  have p11 := (hB3).cell 11
  have p12 := (hB3).cell 12
  have p13 := (hB3).cell 13
  have p14 := (hB3).cell 14
  simp only [List.getElem?_cons_zero, List.getElem?_cons_succ] at p0 p1 p2 p3 p4 p5 p6 p7 p8 p9 p10 p11 p12 p13 p14
  have HB3 := hid hB3
  clear hB3
  go_wp2_with fail
  refine (pack_key 0 ⟨#[102, 111, 120]⟩ (by decide) (by decide) _).mono ?_
  rintro e w4 ⟨key, rfl, hkey, hk4⟩
  replace hkey : bsL key = [0, 102, 111, 120] := by rw [hkey]; rfl
  have hks : key.size = 4 := by rw [← bsL_len, hkey]; rfl
  have hm4 := Hm3.out.keep hk4 Hm3.out.obj.lt Hm3.out.cells.lt
  have hB4 := HB3.out.keep hk4 HB3.out.lt
  have hkk4 := Hkk3.out.trans (hk4.mono fun b hb => by have := Hkk3.out.size; have := Hws.out; omega)
  clear p0 p1 p2 p3 p4 p5 p6 p7 p8 p9 p10 p11 p12 p13 p14 hk4
  have p0 := (hB4).cell 0
  have p1 := (hB4).cell 1
  have p2 := (hB4).cell 2
  have p3 := (hB4).cell 3
  have p4 := (hB4).cell 4
  have p5 := (hB4).cell 5
  have p6 := (hB4).cell 6
  have p7 := (hB4).cell 7
  have p8 := (hB4).cell 8
  have p9 := (hB4).cell 9
  have p10 := (hB4).cell 10
  have p11 := (hB4).cell 11
  have p12 := (hB4).cell 12
  have p13 := (hB4).cell 13
  have p14 := (hB4).cell 14
  simp only [List.getElem?_cons_zero, List.getElem?_cons_succ] at p0 p1 p2 p3 p4 p5 p6 p7 p8 p9 p10 p11 p12 p13 p14
  obtain ⟨sl, hsl⟩ : ∃ sl, sl = homeD 4 (bsL key) % 4 := ⟨_, rfl⟩
  have hsl4 : sl < 4 := by rw [hsl]; exact Nat.mod_lt _ (by decide)
  have hpv := probe_void (n := 4) (h := homeD 4 (bsL key)) (key := bsL key) (by decide)
  rw [← hsl] at hpv
  have Hkey := hid hkey
  have Hks := hid hks
  have Hm4 := hid hm4
  have HB4 := hid hB4
  have Hkk4 := hid hkk4
  have Hsl := hid hsl
  have Hsl4 := hid hsl4
  have Hpv := hid hpv
  clear hkey hks hm4 hB4 hkk4 hsl hsl4 hpv
  go_wp2_with fail
  refine (find10 (K := fun b => b ≤ bp) Hm4.out (by have := Hlb.out; have := Hmm.out; omega) (by have := Hlb.out; omega) (fun b hb => by have := HB4.out.lt; omega) (rep_zeros 59 43 4 3 (by decide) (by decide) (by decide)) key (by decide) (by decide) (by rw [Hks.out]; decide)).mono ?_
  rintro e w5 ⟨rfl, ⟨μ5, hm5, hc5⟩, hk5⟩
  rw [Hpv.out]
  dsimp only
  have hB5 := HB4.out.keep hk5 (Nat.le_refl _)
  have hkk5 := Hkk4.out.trans (hk5.mono fun b hb => by have := Hws.out; have := Hz1.out; omega)
  clear p0 p1 p2 p3 p4 p5 p6 p7 p8 p9 p10 p11 p12 p13 p14 hk5
  have p0 := (hB5).cell 0
  have p1 := (hB5).cell 1
  have p2 := (hB5).cell 2
  have p3 := (hB5).cell 3
  have p4 := (hB5).cell 4
  have p5 := (hB5).cell 5
  have p6 := (hB5).cell 6
  have p7 := (hB5).cell 7
  have p8 := (hB5).cell 8
  have p9 := (hB5).cell 9
  have p10 := (hB5).cell 10
  have p11 := (hB5).cell 11
  have p12 := (hB5).cell 12
  have p13 := (hB5).cell 13
  have p14 := (hB5).cell 14
  simp only [List.getElem?_cons_zero, List.getElem?_cons_succ] at p0 p1 p2 p3 p4 p5 p6 p7 p8 p9 p10 p11 p12 p13 p14
  have hRp := rep_zeros 59 43 4 3 (by decide) (by decide) (by decide)
  replace hc5 : μ5.cells = List.replicate 59 0 := hc5
  rw [← hc5] at hRp
  have hl5 : μ5.cells.length = 59 := by rw [hc5, List.length_replicate]
  have hlen := bsL_len key
  have hpl : (packC (bsL key)).length = 1 := by rw [packC_len, hlen, Hks.out]
  have hps : probe (fun _ => none) 4 (homeD 4 (bsL key)) (bsL key) 4 0 = (0, ((sl : Nat) : Int)) := Hpv.out
  obtain ⟨w1', w2', w3'⟩ := (WF.empty 4 (homeD 4)).put (by decide) hps 3 (by decide)
  have hR2 := Rep.put hRp w1' w2' (Nat.le_refl _) rfl (by rw [hpl]; decide) (by rw [hlen, Hks.out]; decide) (fun x hx => bsL_range key x hx)
  have hpc := probe_complete w3' w1' (Tab.put_self _ _ _)
  have hk0 : (packC (bsL key))[0]? = some 2020566528 := by rw [Hkey.out]; decide
  have hx5 := hR2.key sl (bsL key) 3 w1' (Tab.put_self _ _ _) 0 _ hk0
  rw [hlen] at hR2 hx5
  have HR2 := hid hR2
  have Hpc := hid hpc
  have Hx5 := hid hx5
  have Hl5 := hid hl5
  have Hpl := hid hpl
  have Hm5 := hid hm5
  have HB5 := hid hB5
  have Hkk5 := hid hkk5
  clear hR2 hpc hx5 hl5 hpl hm5 hB5 hkk5
  clear hRp hps w2' w3' hk0 hlen hc5
  go_wp2_with fail
  refine (put10_ok (K := fun b => b ≤ bp) Hm5.out (by have := Hlb.out; have := Hmm.out; omega) (by have := Hlb.out; omega) (fun b hb => by have := HB5.out.lt; omega) (planD 40) ⟨0, 0, 0, 0, 0, 0⟩ 43 sl key (by rw [Hks.out]; decide)
    (by decide) (by decide) (by omega) (by decide) (by rw [Hks.out]; decide) (a := 3) (by decide) (by decide) (by rw [Hpl.out, Hl5.out]; decide) (by rw [Hl5.out]; omega)).mono ?_
  rintro e w6 ⟨rfl, ⟨μ6, hm6, hc6⟩, hk6⟩
  dsimp only
  generalize (0 : Int) + (2 + ((key.size : Int) + 3) / 4) = us
  have hB6 := HB5.out.keep hk6 (Nat.le_refl _)
  have hkk6 := Hkk5.out.trans (hk6.mono fun b hb => by have := Hws.out; have := Hz1.out; omega)
  have hz6 := hk6.size
  clear p0 p1 p2 p3 p4 p5 p6 p7 p8 p9 p10 p11 p12 p13 p14 hk6
  have hR3 := HR2.out
  rw [← hc6] at hR3
  have hx6 := Hx5.out
  rw [← hc6] at hx6
  have hl6 : μ6.cells.length = 59 := by rw [hc6, putC_len]; exact Hl5.out
  have hm6l := hm6.obj.lt
  have hc6l := hm6.cells.lt
  clear hc6
  have HR3 := hid hR3
  have Hx6 := hid hx6
  have Hm6 := hid hm6
  have HB6 := hid hB6
  have Hkk6 := hid hkk6
  have Hl6 := hid hl6
  have Hm6l := hid hm6l
  have Hc6l := hid hc6l
  clear hR3 hx6 hm6 hB6 hkk6 hl6 hm6l hc6l
  go_wp2_with fail
  refine calls_gen (fun W => Blk W bp [.int .i64 3, .int .i64 3, .int .i64 3, .int .i64 3, .int .i64 3, .int .i64 43, .int .i64 0, .int .i64 0, .int .i64 0, .int .i64 0, .int .i64 40, .int .i64 16, .int .i64 59, .int .i64 128, .int .i64 133] ∧ MemAt W m c μ6 ∧ Keeps (· < ws) w W) ⟨?_, ?_, ?_⟩ ?_
  · exact HB6.out.alloc _
  · exact Hm6.out.keep ((Keeps.refl (· < w6.heap.size) w6).alloc (fun b hb => hb) _) Hm6l.out Hc6l.out
  · exact Hkk6.out.alloc (fun b hb => by have := Hkk6.out.size; have := Hws.out; omega) _
  clear HB6 Hkk6 Hm6l Hc6l Hm6
  rintro W7 ⟨hB7, hm7, hkk7⟩
  have Hm7 := hid hm7
  have HB7 := hid hB7
  have Hkk7 := hid hkk7
  clear hm7 hB7 hkk7
  refine (find10 (K := fun b => b ≤ bp) Hm7.out (by have := Hlb.out; have := Hmm.out; omega) (by have := Hlb.out; omega) (fun b hb => by have := HB7.out.lt; omega) HR3.out key (by decide) (by decide) (by rw [Hks.out]; decide)).mono ?_
  rintro e w8 ⟨rfl, ⟨μ8, hm8, hc8⟩, hk8⟩
  rw [Hpc.out]
  dsimp only
  have hB8 := HB7.out.keep hk8 (Nat.le_refl _)
  have hkk8 := Hkk7.out.trans (hk8.mono fun b hb => by have := Hws.out; have := Hz1.out; omega)
  have hx8 := Hx6.out
  rw [← hc8] at hx8
  have hl8 := Hl6.out
  rw [← hc8] at hl8
  clear hk8 hc8
  have Hm8 := hid hm8
  have HB8 := hid hB8
  have Hkk8 := hid hkk8
  have Hx8 := hid hx8
  have Hl8 := hid hl8
  clear hm8 hB8 hkk8 hx8 hl8
  go_wp2_with fail
  refine (mem_load Hm8.out 5).mono ?_
  rintro e w9 ⟨rfl, hm9, hk9⟩
  have hin : μ8.inb 5 = true := (inb_iff _ _).2 ⟨by decide, by rw [Hl8.out]; decide⟩
  have hat : μ8.at 5 = 2020566528 := by
    unfold MemS.at
    exact (getD_of Hx8.out).2
  rw [hin, hat]
  have hB9 := HB8.out.keep hk9 (by have := Hlb.out; have := Hmm.out; omega)
  have hkk9 := Hkk8.out.trans (hk9.mono fun b hb => by have := Hws.out; have := Hz1.out; have := Hlb.out; have := Hmm.out; omega)
  clear hk9 hm9
  have p0 := (hB9).cell 0
  have p1 := (hB9).cell 1
  have p2 := (hB9).cell 2
  have p3 := (hB9).cell 3
  have p4 := (hB9).cell 4
  have p5 := (hB9).cell 5
  have p6 := (hB9).cell 6
  have p7 := (hB9).cell 7
  have p8 := (hB9).cell 8
  have p9 := (hB9).cell 9
  have p10 := (hB9).cell 10
  have p11 := (hB9).cell 11
  have p12 := (hB9).cell 12
  have p13 := (hB9).cell 13
  have p14 := (hB9).cell 14
  simp only [List.getElem?_cons_zero, List.getElem?_cons_succ] at p0 p1 p2 p3 p4 p5 p6 p7 p8 p9 p10 p11 p12 p13 p14
  have Hkk9 := hid hkk9
  clear hkk9
  have hrem : hashL (bsL key) % 4 = (sl : Int) := by
    have hr := hash_range (bsL key)
    rw [Hsl.out]; unfold homeD
    rw [Nat.mod_mod, Int.natCast_emod, Int.toNat_of_nonneg hr.1]; rfl
  have hr := hash_range (bsL key)
  obtain ⟨hr0, hr1⟩ := hr
  go_wp2_with fail
  refine (hash7 key (by rw [Hks.out]; decide) _).mono ?_
  rintro e w10 ⟨rfl, rfl⟩
  have hw1 : wrap64 (hashL (bsL key) % 4) = (sl : Int) := by rw [hrem]; unfold wrap64; omega
  go_wp2_with fail
  exact hR'.out _ _ ⟨rfl, Hkk9.out⟩
end Go.Proofs.Ytjnaibmnpajfdaa
