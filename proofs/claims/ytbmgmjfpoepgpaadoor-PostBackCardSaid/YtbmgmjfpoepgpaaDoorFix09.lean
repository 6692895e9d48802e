/- Layer 9's statements: the example 'fixed'. -/
import Derived.Test.YtbmgmjfpoepgpaaDoorPlan09
import Derived.Test.YtbmgmjfpoepgpaaDoorNeed
import Derived.Test.YtbmgmjfpoepgpaaDoorMemB
import Derived.Test.YtbmgmjfpoepgpaaDoorEq6
namespace Go.Proofs.YtbmgmjfpoepgpaaDoor
open Go.RowKit

def CF (k b : Value) : ConfM := ⟨1, 64, 1, 1, 0, 0, 0, 0, k, b⟩
def PF : PlanM := ⟨⟨3, 7, 23, 23, 23, 23⟩, ⟨4, 16, 0, 0, 0, 0⟩, 23, 128, 133⟩
def tailF : Nat → Int
  | 0 => 0
  | 1 => 4
  | 2 => 5
  | 3 => 6
  | _ => 8
def usedF : Nat → V6
  | 0 => ⟨0, 0, 0, 0, 0, 0⟩
  | 1 => ⟨4, 0, 0, 0, 0, 0⟩
  | 2 => ⟨4, 0, 0, 0, 0, 0⟩
  | 3 => ⟨4, 0, 0, 0, 0, 0⟩
  | _ => ⟨4, 16, 0, 0, 0, 0⟩
def cellsF : Nat → List Int
  | 0 => List.replicate 23 0
  | 1 => (List.replicate 23 0).set 4 5
  | 2 => ((List.replicate 23 0).set 4 5).set 5 6
  | 3 => (((List.replicate 23 0).set 4 5).set 5 6).set 6 7
  | _ => (((((List.replicate 23 0).set 4 5).set 5 6).set 6 7).set 7 6).set 8 8
theorem PF_wf : PF.Wf := by
  constructor
  · intro k
    match k with
    | 0 => exact ⟨by decide, by decide⟩
    | 1 => exact ⟨by decide, by decide⟩
    | 2 => exact ⟨by decide, by decide⟩
    | _ + 3 => exact ⟨by show (0:Int) ≤ 23; decide, by show (23:Int) ≤ 65536; decide⟩
  · intro k
    match k with
    | 0 => exact ⟨by decide, by decide⟩
    | 1 => exact ⟨by decide, by decide⟩
    | 2 => exact ⟨by decide, by decide⟩
    | _ + 3 => exact ⟨by show (0:Int) ≤ 0; decide, by show (0:Int) ≤ 65536; decide⟩
theorem CF_ok (k b : Value) : (CF k b).ok := by constructor <;> simp [CF]
theorem CF_plan (k b : Value) : (CF k b).plan = PF := rfl
set_option maxRecDepth 100000 in
theorem putF {w : World} {K : Nat → Prop} {m c : Nat} {μ : MemS} (i : Nat) (hi : i < 4) (hm : MemAt w m c μ) (hc : μ.cells = cellsF i) (hKm : ¬ K m) (hKc : ¬ K c) (hlt : ∀ b, K b → b < w.heap.size) (hK0 : K 0) (hT : Tab w) :
    Calls Tryd.prog 12 #[.pointer (some ⟨m, 0, none⟩), PF.val, (usedF i).val, .int .i64 (tailF i), .int .u32 (5 + (i : Int))] w fun e w' =>
      e = .returned (.tuple #[.int .i64 (tailF (i + 1)), (usedF (i + 1)).val, .int .i64 0]) ∧ (∃ μ', MemAt w' m c μ' ∧ μ'.cells = cellsF (i + 1)) ∧ Keeps K w w' := by
  have hcases : i = 0 ∨ i = 1 ∨ i = 2 ∨ i = 3 := by omega
  rcases hcases with rfl | rfl | rfl | rfl
  · have hok : PutOk PF (usedF 0) (tailF 0) 5 (putNew 0 3 5) 4 (usedF 1) 0 := by
      intro w K r m c s hR hK0 hT
      exact put_new hR hK0 hT PF PF_wf (usedF 0) 0 5 0 (by decide) (by decide) ⟨by decide, by decide⟩ (by decide) (by decide) (by decide)
    exact put09 hm hKm hKc hlt hK0 hT PF _ _ _ _ _ 0 _ hok (cs' := cellsF 1) (n := 1) (by rw [hc]; rfl) (by decide)
  · have hok : PutOk PF (usedF 1) (tailF 1) 6 (putIn 4 6) 5 (usedF 2) 0 := by
      intro w K r m c s hR hK0 hT
      exact put_in hR hK0 hT PF PF_wf (usedF 1) 4 6 (by decide) ⟨by decide, by decide⟩ (by decide)
    exact put09 hm hKm hKc hlt hK0 hT PF _ _ _ _ _ 0 _ hok (cs' := cellsF 2) (n := 1) (by rw [hc]; rfl) (by decide)
  · have hok : PutOk PF (usedF 2) (tailF 2) 7 (putIn 5 7) 6 (usedF 3) 0 := by
      intro w K r m c s hR hK0 hT
      exact put_in hR hK0 hT PF PF_wf (usedF 2) 5 7 (by decide) ⟨by decide, by decide⟩ (by decide)
    exact put09 hm hKm hKc hlt hK0 hT PF _ _ _ _ _ 0 _ hok (cs' := cellsF 3) (n := 1) (by rw [hc]; rfl) (by decide)
  · have hok : PutOk PF (usedF 3) (tailF 3) 8 (putNew 6 7 8) 8 (usedF 4) 0 := by
      intro w K r m c s hR hK0 hT
      exact put_new hR hK0 hT PF PF_wf (usedF 3) 6 8 1 (by decide) (by decide) ⟨by decide, by decide⟩ (by decide) (by decide) (by decide)
    exact put09 hm hKm hKc hlt hK0 hT PF _ _ _ _ _ 0 _ hok (cs' := cellsF 4) (n := 2) (by rw [hc]; rfl) (by decide)
theorem SlAt.alloc {w : World} {K : Nat → Prop} {n : Nat} {v : Value} {xs : List Value} (h : SlAt w K 1 v n xs) (o : Obj) : SlAt (w.alloc o) K 1 v n xs := by
  obtain ⟨A, cap, h1, h2, h3, h4, h5⟩ := h
  refine ⟨A, cap, h1, h2, h3, h4, fun hn => ?_⟩
  obtain ⟨b, off, e, hb, hc⟩ := h5 hn
  refine ⟨b, off, e, hb, fun j u hu => ?_⟩
  have hlt := World.block_lt_of_cell? w _ (hc j u hu)
  exact (World.cell?_of_block (((Keeps.refl (fun b => b < w.heap.size) w).alloc (fun b hb => hb) o).block b hlt)).trans (hc j u hu)
def PFL : List Value := [.int .i64 3, .int .i64 7, .int .i64 23, .int .i64 23, .int .i64 23, .int .i64 23, .int .i64 4, .int .i64 16, .int .i64 0, .int .i64 0, .int .i64 0, .int .i64 0, .int .i64 23, .int .i64 128, .int .i64 133]

set_option maxRecDepth 100000 in
set_option maxHeartbeats 4000000 in
theorem fixed09 (w : World) (hT : Tab w) : Calls Tryd.prog 10 #[] w fun e w' => e = .returned (.bool true) ∧ Keeps (· < w.heap.size) w w' := by
  have HT := hid hT
  clear hT
  refine calls_hide fun R' hR' => ?_
  go_enter Tryd.func10, Tryd.ntmps10
  go_wp2_with fail
  refine (lay_yes (CF _ _) (CF_ok _ _) (by show ((23:Int) ≤ 65536); decide) _).mono ?_
  rintro e w1 ⟨rfl, hk1⟩
  rw [CF_plan]
  unfold PF PlanM.val
  have hz1 := hk1.size
  have Hk1 := hid hk1
  clear hk1
  go_wp2_with fail
  refine calls_gen (fun W => Blk W w1.heap.size [.int .i64 3, .int .i64 7, .int .i64 23, .int .i64 23, .int .i64 23, .int .i64 23, .int .i64 4, .int .i64 16, .int .i64 0, .int .i64 0, .int .i64 0, .int .i64 0, .int .i64 23, .int .i64 128, .int .i64 133] ∧ Keeps (· < w.heap.size) w W) ⟨?_, ?_⟩ ?_
  · repeat (first | with_reducible assumption | with_reducible exact Blk.new _ _ _ | with_reducible refine Blk.drew ?_ | with_reducible refine Blk.drewN ?_ _ | with_reducible refine Blk.set_ne ?_ _ ?_ | (with_reducible refine Blk.new' _ _ _ ?_; focus (simp; done)) | with_reducible refine Blk.alloc ?_ _)
    all_goals (first | assumption | (simp; done) | (simp; omega))
  · exact Hk1.out.alloc (fun b hb => by omega) _
  rintro W ⟨hB, hk⟩
  refine (mem_new W 23 (by decide) (by decide)).mono ?_
  rintro e w3 ⟨rfl, hm3, hk3, hz3⟩
  have hlb := hB.lt
  have hB3 := hB.keep hk3 hlb
  have hkk3 := hk.trans (hk3.mono fun b hb => by omega)
  clear hB hk hk3 Hk1
  generalize hc : W.heap.size = c at *
  generalize hmm : c + 1 = m at *
  generalize w1.heap.size = bp at *
  generalize hws : w.heap.size = ws at *
  have h0 := HT.out.2.2.2.2
  have Hc := hid hc
  have Hmm := hid hmm
  have Hm3 := hid hm3
  have Hkk3 := hid hkk3
  have Hws := hid hws
  have Hlb := hid hlb
  have Hz1 := hid hz1
  have Hz3 := hid hz3
  have H0 := hid h0
  clear hc hmm hm3 hkk3 hws hlb hz1 hz3 h0
  have HB3 := hid hB3
  clear hB3
  go_wp2_with fail
  refine wp_gen (fun W => Blk W w3.heap.size [.int .i64 0, .int .i64 0, .int .i64 0, .int .i64 0, .int .i64 0, .int .i64 0] ∧ Blk W bp PFL ∧ MemAt W m c ⟨List.replicate 23 0, 0, 0⟩ ∧ Keeps (· < ws) w W) ⟨?_, ?_, ?_, ?_⟩ ?_
  · repeat (first | with_reducible assumption | with_reducible exact Blk.new _ _ _ | with_reducible refine Blk.drew ?_ | with_reducible refine Blk.drewN ?_ _ | with_reducible refine BlkN.set1 ?_ _ | with_reducible refine BlkN.set6 ?_ _ _ _ _ _ _ | with_reducible exact BlkN.of1 (by with_reducible assumption) | with_reducible exact BlkN.of6 (by with_reducible assumption) | with_reducible refine BlkN.drew ?_ | with_reducible refine BlkN.drewN ?_ _ | with_reducible refine BlkN.set_ne ?_ _ ?_ | with_reducible refine BlkN.alloc ?_ _ | with_reducible refine Blk.set_ne ?_ _ ?_ | (with_reducible refine Blk.new' _ _ _ ?_; focus (simp; done)) | with_reducible refine Blk.alloc ?_ _)
    all_goals (first | assumption | (simp; done) | (simp; omega))
  · repeat (first | with_reducible assumption | with_reducible exact Blk.new _ _ _ | with_reducible refine Blk.drew ?_ | with_reducible refine Blk.drewN ?_ _ | with_reducible refine BlkN.set1 ?_ _ | with_reducible refine BlkN.set6 ?_ _ _ _ _ _ _ | with_reducible exact BlkN.of1 (by with_reducible assumption) | with_reducible exact BlkN.of6 (by with_reducible assumption) | with_reducible refine BlkN.drew ?_ | with_reducible refine BlkN.drewN ?_ _ | with_reducible refine BlkN.set_ne ?_ _ ?_ | with_reducible refine BlkN.alloc ?_ _ | with_reducible refine Blk.set_ne ?_ _ ?_ | (with_reducible refine Blk.new' _ _ _ ?_; focus (simp; done)) | with_reducible refine Blk.alloc ?_ _)
    all_goals (first | assumption | (simp; done) | (simp; omega))
  · exact Hm3.out.keep ((Keeps.refl (· < w3.heap.size) w3).alloc (fun b hb => hb) _) Hm3.out.obj.lt Hm3.out.cells.lt
  · exact Hkk3.out.alloc (fun b hb => by have := Hkk3.out.size; have := Hws.out; omega) _
  have hbu : bp < w3.heap.size := HB3.out.lt
  have hmu : m < w3.heap.size ∧ c < w3.heap.size := ⟨Hm3.out.obj.lt, Hm3.out.cells.lt⟩
  generalize w3.heap.size = bu at *
  have Hbu := hid hbu
  have Hmu := hid hmu
  clear hbu hmu
  clear Hm3 Hkk3 HB3
  rintro W4 ⟨hU, hB, hM, hK⟩
  go_loopw [5, 7, 26] (fun vt ve vi wr => ∃ (i : Nat) (t : Int), vi = .int .i64 (i : Int) ∧ i ≤ 4 ∧ vt = .int .i64 t ∧ ve = .int .i64 0 ∧ Hid (t = tailF i ∧ (∃ μ, MemAt wr m c μ ∧ μ.cells = cellsF i) ∧ Blk wr bp PFL ∧ Blk wr bu (usedF i).list ∧ Keeps (· < ws) w wr)) (fun _ _ i _ => 4 - (intOf i).toNat)
  case atStart => exact ⟨0, 0, rfl, by omega, rfl, rfl, hid ⟨rfl, ⟨_, hM, rfl⟩, hB, hU, hK⟩⟩
  case round =>
    clear hU hB hM hK
    obtain ⟨i, t, rfl, hi, rfl, rfl, HH⟩ := hrel
    obtain ⟨ht, ⟨μ, hM, hc⟩, hB, hU, hK⟩ := HH.out
    clear HH
    by_cases hlt : i < 4
    · have gi1 : IntKind.i64.wrap (5 + (i : Int)) = 5 + (i : Int) := IntWalk.i64_in _ (by omega)
      have gi2 : IntKind.u32.wrap (5 + (i : Int)) = 5 + (i : Int) := IntWalk.u32_in _ (by omega)
      have hTr : Tab wr := HT.out.keep hK (show 0 < ws by have := H0.out; have := Hws.out; omega)
      have hput := putF (K := fun b => b ≠ m ∧ b ≠ c ∧ b ≤ bu) i hlt hM hc (fun e => e.1 rfl) (fun e => e.2.1 rfl) (fun b hb => by have := hU.lt; omega) (by have := Hc.out; have := Hlb.out; have := Hmm.out; have := Hz1.out; have := H0.out; have := Hws.out; omega) hTr
      rw [← ht] at hput
      unfold PF PlanM.val V6.val at hput
      simp only at hput
      unfold PFL at hB
      have hBf := hB
      unfold V6.list at hU
      have p0 := (hBf).cell 0
      have p1 := (hBf).cell 1
      have p2 := (hBf).cell 2
      have p3 := (hBf).cell 3
      have p4 := (hBf).cell 4
      have p5 := (hBf).cell 5
      have p6 := (hBf).cell 6
      have p7 := (hBf).cell 7
      have p8 := (hBf).cell 8
      have p9 := (hBf).cell 9
      have p10 := (hBf).cell 10
      have p11 := (hBf).cell 11
      have p12 := (hBf).cell 12
      have p13 := (hBf).cell 13
      have p14 := (hBf).cell 14
      simp only [List.getElem?_cons_zero, List.getElem?_cons_succ] at p0 p1 p2 p3 p4 p5 p6 p7 p8 p9 p10 p11 p12 p13 p14
      have u0 := (hU).cell 0
      have u1 := (hU).cell 1
      have u2 := (hU).cell 2
      have u3 := (hU).cell 3
      have u4 := (hU).cell 4
      have u5 := (hU).cell 5
      simp only [List.getElem?_cons_zero, List.getElem?_cons_succ] at u0 u1 u2 u3 u4 u5
      have HLT := hid hlt
      have glt : (i : Int) < 4 := by omega
      have Hput := hid hput
      have HM := hid hM
      have HB := hid hB
      have HK := hid hK
      have HU := hid hU
      clear hput hM hB hK hU
      clear hBf hTr ht hc hlt
      go_wp2_with fail
      refine Hput.out.mono ?_
      rintro e w5 ⟨rfl, ⟨μ5, hM5, hc5⟩, hk5⟩
      have hne : bp ≠ m ∧ bp ≠ c ∧ bp ≤ bu ∧ bu ≠ m ∧ bu ≠ c := by have := Hlb.out; have := Hmm.out; have := Hbu.out; have := Hmu.out; omega
      have hB5 := HB.out.keep hk5 ⟨hne.1, hne.2.1, hne.2.2.1⟩
      have hU5 := HU.out.keep hk5 ⟨hne.2.2.2.1, hne.2.2.2.2, Nat.le_refl _⟩
      have hK5 := HK.out.trans (hk5.mono fun b hb => by have := Hlb.out; have := Hmm.out; have := Hbu.out; have := Hz1.out; have := Hws.out; omega)
      clear p0 p1 p2 p3 p4 p5 p6 p7 p8 p9 p10 p11 p12 p13 p14 u0 u1 u2 u3 u4 u5 hk5 HM HB HU HK
      have d0 := (hU5).cell 0
      have d1 := (hU5).cell 1
      have d2 := (hU5).cell 2
      have d3 := (hU5).cell 3
      have d4 := (hU5).cell 4
      have d5 := (hU5).cell 5
      simp only [List.getElem?_cons_zero, List.getElem?_cons_succ] at d0 d1 d2 d3 d4 d5
      have fu := hU5.free
      have HM5 := hid hM5
      have Hc5 := hid hc5
      have HB5 := hid hB5
      have HK5 := hid hK5
      have Hne := hid hne
      clear hM5 hc5 hB5 hK5 hne
      have hS := hU5
      go_wp2_with fail
      go_roundw
      case rel =>
        refine ⟨i + 1, tailF (i + 1), by first | rfl | go_num, by have := HLT.out; omega, by first | rfl | go_num, by first | rfl | go_num, hid ⟨rfl, ⟨μ5, ?_, Hc5.out⟩, ?_, ?_, ?_⟩⟩
        · refine HM5.out.keep (K := fun b => b ≠ bu) ?_ Hne.out.2.2.2.1.symm Hne.out.2.2.2.2.symm
          repeat (first | with_reducible exact Keeps.refl _ _ | with_reducible refine Keeps.drew ?_ | with_reducible refine Keeps.setCell ?_ ?_ _)
          all_goals simp
        · refine HB5.out.keep (K := fun b => b ≠ bu) ?_ (by have := Hlb.out; have := Hmm.out; have := Hmu.out; omega)
          repeat (first | with_reducible exact Keeps.refl _ _ | with_reducible refine Keeps.drew ?_ | with_reducible refine Keeps.setCell ?_ ?_ _)
          all_goals simp
        · unfold V6.list
          first | with_reducible exact Blk.set6 hS _ _ _ _ _ _ (by simp) | with_reducible exact (Blk.set6 hS _ _ _ _ _ _ (by simp)).drew
        · refine HK5.out.trans ((show Keeps (fun b => b ≠ bu) w5 _ from ?_).mono fun b hb => by have := Hbu.out; have := Hlb.out; have := Hmm.out; have := Hz1.out; have := Hws.out; omega)
          repeat (first | with_reducible exact Keeps.refl _ _ | with_reducible refine Keeps.drew ?_ | with_reducible refine Keeps.setCell ?_ ?_ _)
          all_goals simp
      case measure => have := HLT.out; simp [intOf]; omega
    · obtain rfl : i = 4 := by omega
      obtain rfl : t = 8 := ht
      have hne : bp ≠ m ∧ bp ≠ c ∧ bp ≤ bu ∧ bu ≠ m ∧ bu ≠ c := by have := Hlb.out; have := Hmm.out; have := Hbu.out; have := Hmu.out; omega
      have hcb : c < wr.heap.size ∧ m < wr.heap.size := ⟨hM.cells.lt, hM.obj.lt⟩
      have HM := hid hM
      have HB := hid hB
      have HU := hid hU
      have HK := hid hK
      have Hne := hid hne
      have Hcb := hid hcb
      clear hM hB hU hK hne hcb
      have HCC := hid hc
      clear hc hi hlt
      go_wp2_with fail
      refine (mem_load HM.out 7).mono ?_
      rintro e w5 ⟨rfl, hM5, hk5⟩
      have hin : μ.inb 7 = true := (inb_iff _ _).2 ⟨by decide, by rw [HCC.out]; decide⟩
      have hat : μ.at 7 = 6 := by unfold MemS.at; rw [HCC.out]; rfl
      rw [hin, hat]
      simp only [if_true]
      have hB5 : Blk w5 bp [.int .i64 3, .int .i64 7, .int .i64 23, .int .i64 23, .int .i64 23, .int .i64 23, .int .i64 4, .int .i64 16, .int .i64 0, .int .i64 0, .int .i64 0, .int .i64 0, .int .i64 23, .int .i64 128, .int .i64 133] := HB.out.keep hk5 Hne.out.1
      have hU5 : Blk w5 bu [.int .i64 4, .int .i64 16, .int .i64 0, .int .i64 0, .int .i64 0, .int .i64 0] := HU.out.keep hk5 Hne.out.2.2.2.1
      have hK5 := HK.out.trans (hk5.mono fun b hb => by have := Hlb.out; have := Hmm.out; have := Hz1.out; have := Hws.out; omega)
      have hT5 : Tab w5 := HT.out.keep hK5 (show 0 < ws by have := H0.out; have := Hws.out; omega)
      have hcc5 : (μ.load 7).cells = cellsF 4 := by unfold MemS.load; split <;> exact HCC.out
      have hlt5 := hB5.lt
      have hltu5 := hU5.lt
      clear HM HB HU HK hk5 hin hat
      have p0 := (hB5).cell 0
      have p1 := (hB5).cell 1
      have p2 := (hB5).cell 2
      have p3 := (hB5).cell 3
      have p4 := (hB5).cell 4
      have p5 := (hB5).cell 5
      have p6 := (hB5).cell 6
      have p7 := (hB5).cell 7
      have p8 := (hB5).cell 8
      have p9 := (hB5).cell 9
      have p10 := (hB5).cell 10
      have p11 := (hB5).cell 11
      have p12 := (hB5).cell 12
      have p13 := (hB5).cell 13
      have p14 := (hB5).cell 14
      simp only [List.getElem?_cons_zero, List.getElem?_cons_succ] at p0 p1 p2 p3 p4 p5 p6 p7 p8 p9 p10 p11 p12 p13 p14
      have u0 := (hU5).cell 0
      have u1 := (hU5).cell 1
      have u2 := (hU5).cell 2
      have u3 := (hU5).cell 3
      have u4 := (hU5).cell 4
      have u5 := (hU5).cell 5
      simp only [List.getElem?_cons_zero, List.getElem?_cons_succ] at u0 u1 u2 u3 u4 u5
      have HM5 := hid hM5
      have HB5 := hid hB5
      have HU5 := hid hU5
      have HK5 := hid hK5
      have HT5 := hid hT5
      have Hcc5 := hid hcc5
      have Hlt5 := hid hlt5
      have Hltu5 := hid hltu5
      clear hM5 hB5 hU5 hK5 hT5 hcc5 hlt5 hltu5
      have heq := eq6 ⟨4, 16, 0, 0, 0, 0⟩ w5
      unfold V6.val at heq
      simp only at heq
      go_wp2_with fail
      refine (walk09 (K := fun b => b ≠ m ∧ b ≠ c ∧ b ≤ bu) HM5.out (fun e => e.1 rfl) (fun e => e.2.1 rfl) (fun b hb => by have := Hltu5.out; omega) (by have := Hc.out; have := Hlb.out; have := Hmm.out; have := Hz1.out; have := H0.out; have := Hws.out; omega) HT5.out PF PF_wf 8 (by omega) 23 rfl (by omega)
        (ws := [8, 7, 6, 5]) (cs' := cellsF 4) (n := 6) (by rw [Hcc5.out]; rfl) (by omega)).mono ?_
      rintro e w6 ⟨g, rfl, hS, ⟨μ6, hM6, hc6⟩, hk6⟩
      obtain ⟨gA, gc, rfl, -, -⟩ := hS.form
      have hB6 := HB5.out.keep hk6 ⟨Hne.out.1, Hne.out.2.1, Hne.out.2.2.1⟩
      have hK6 := HK5.out.trans (hk6.mono fun b hb => by have := Hlb.out; have := Hmm.out; have := Hbu.out; have := Hz1.out; have := Hws.out; omega)
      clear p0 p1 p2 p3 p4 p5 p6 p7 p8 p9 p10 p11 p12 p13 p14 u0 u1 u2 u3 u4 u5 heq hk6 hM6 hc6 HM5 HU5
      have hlt6 := hB6.lt
      have HS := hid hS
      have HB6 := hid hB6
      have HK6 := hid hK6
      have Hlt6 := hid hlt6
      clear hS hB6 hK6 hlt6
      go_wp2_with fail
      refine calls_gen (fun W => SlAt W (fun _ => True) 1 (.slice gA 4 gc) 4 ([8, 7, 6, 5].map (Value.int .u32)) ∧ SlAt W (fun _ => True) 1 (.slice (some ⟨w6.heap.size, 0, none⟩) 4 4) 4 ([8, 7, 6, 5].map (Value.int .u32)) ∧ Blk W bp [.int .i64 3, .int .i64 7, .int .i64 23, .int .i64 23, .int .i64 23, .int .i64 23, .int .i64 4, .int .i64 16, .int .i64 0, .int .i64 0, .int .i64 0, .int .i64 0, .int .i64 23, .int .i64 128, .int .i64 133] ∧ Keeps (· < ws) w W) ⟨?_, ?_, ?_, ?_⟩ ?_
      · exact SlAt.alloc HS.out _
      · exact SlAt.of_blk (Blk.new w6 _ _) trivial (by decide)
      · exact HB6.out.alloc _
      · exact HK6.out.alloc (fun b hb => by have := HK6.out.size; have := Hws.out; omega) _
      clear HB6 HK6 HS
      rintro W7 ⟨hS1, hS2, hB7, hK7⟩
      refine (same_any (xs := [8, 7, 6, 5]) (ys := [8, 7, 6, 5]) hS1 hS2).mono ?_
      rintro e w8 ⟨rfl, n8, hw8⟩
      rw [decide_eq_true rfl]
      have hB8 : Blk w8 bp [.int .i64 3, .int .i64 7, .int .i64 23, .int .i64 23, .int .i64 23, .int .i64 23, .int .i64 4, .int .i64 16, .int .i64 0, .int .i64 0, .int .i64 0, .int .i64 0, .int .i64 23, .int .i64 128, .int .i64 133] := by rw [← hw8]; exact hB7.drewN n8
      have hK8 : Keeps (· < ws) w w8 := by rw [← hw8]; exact hK7.drewN n8
      clear hS1 hS2 hB7 hK7 hw8
      have hT8 : Tab w8 := HT.out.keep hK8 (show 0 < ws by have := H0.out; have := Hws.out; omega)
      have p0 := (hB8).cell 0
      have p1 := (hB8).cell 1
      have p2 := (hB8).cell 2
      have p3 := (hB8).cell 3
      have p4 := (hB8).cell 4
      have p5 := (hB8).cell 5
      have p6 := (hB8).cell 6
      have p7 := (hB8).cell 7
      have p8 := (hB8).cell 8
      have p9 := (hB8).cell 9
      have p10 := (hB8).cell 10
      have p11 := (hB8).cell 11
      have p12 := (hB8).cell 12
      have p13 := (hB8).cell 13
      have p14 := (hB8).cell 14
      simp only [List.getElem?_cons_zero, List.getElem?_cons_succ] at p0 p1 p2 p3 p4 p5 p6 p7 p8 p9 p10 p11 p12 p13 p14
      clear hB8
      have HK8 := hid hK8
      have HT8 := hid hT8
      clear hK8 hT8
      go_wp2_with fail
      refine (need_call PF 6 1 w8 PF_wf HT8.out (by omega) (by omega)).mono ?_
      rintro e w9 ⟨rfl, hk9⟩
      rw [show PF.need 6 1 = ⟨0, 16, 0, 0, 0, 0⟩ from rfl]
      have hK9 := HK8.out.trans (hk9.mono fun b hb => by have := HK8.out.size; have := Hws.out; omega)
      have heq := eq6 ⟨0, 16, 0, 0, 0, 0⟩ w9
      unfold V6.val at heq ⊢
      simp only at heq ⊢
      clear p0 p1 p2 p3 p4 p5 p6 p7 p8 p9 p10 p11 p12 p13 p14
      have HK9 := hid hK9
      clear hK9
      go_wp2_with fail
      exact hR'.out _ _ ⟨rfl, HK9.out⟩
end Go.Proofs.YtbmgmjfpoepgpaaDoor
