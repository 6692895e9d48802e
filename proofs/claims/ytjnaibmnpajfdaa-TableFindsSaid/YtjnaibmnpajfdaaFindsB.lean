/- TableFinds: the walk. -/
import Derived.Test.YtjnaibmnpajfdaaFindsA
import Derived.Test.YtjnaibmnpajfdaaLawTD
namespace Go.Proofs.Ytjnaibmnpajfdaa
open Go.RowKit

set_option maxRecDepth 100000 in
set_option maxHeartbeats 4000000 in
theorem tableFinds_call (A : Option Addr) (cap : Nat) (ids : List Int) (hU : ∀ x ∈ ids, U32 x) (id : Int) (hidU : U32 id) (bh : Nat) (hbh : bh ≤ 255) (w : World)
    (hsl : SlAt w (· < w.heap.size) 1 (.slice A ids.length cap) ids.length (ids.map (Value.int .u32))) :
    Calls Try.prog 8 #[.slice A ids.length cap, .int .u32 id, .int .u8 bh] w fun e w' =>
      e = .returned (.bool true) ∧ Keeps (· < w.heap.size) w w' := by
  obtain ⟨A0, cap0, he, hc1, hc2⟩ := hsl.form
  injection he with e1 _ e3
  subst e1 e3
  unfold maxLen at hc2
  have HS := hid hsl
  have HU := hid hU
  have HIU := hid hidU
  clear hsl hU hidU
  refine calls_hide fun R' hR' => ?_
  go_enter Try.func8, Try.ntmps8
  go_wp2_with fail
  have b0 := (Blk.new w [.slice A ids.length cap] 45).alloc (.cells #[.int .u32 id] 36)
  have b1 := Blk.new (w.alloc (.cells #[.slice A ids.length cap] 45)) [.int .u32 id] 36
  have k0 : Keeps (· < w.heap.size) w ((w.alloc (.cells #[.slice A ids.length cap] 45)).alloc (.cells #[.int .u32 id] 36)) := ((Keeps.refl _ w).alloc (fun b hb => hb) _).alloc (fun b hb => by simp; omega) _
  have z0 : ((w.alloc (.cells #[.slice A ids.length cap] 45)).alloc (.cells #[.int .u32 id] 36)).heap.size = w.heap.size + 2 := by simp
  simp only [World.size_alloc] at b1
  generalize hw0 : (w.alloc (.cells #[.slice A ids.length cap] 45)).alloc (.cells #[.int .u32 id] 36) = w0 at *
  have HW0 := hid hw0
  have B0 := hid b0
  have B1 := hid b1
  have K0 := hid k0
  have Z0 := hid z0
  clear hw0 b0 b1 k0 z0
  generalize hws : w.heap.size = ws at *
  have HWS := hid hws
  clear hws
  refine (mem_new w0 200 (by omega) (by omega)).mono ?_
  rintro e w1 ⟨rfl, hm1, hk1, hz1⟩
  have HM1 := hid hm1
  have hz0 := Z0.out
  have c0 := ((B0.out.keep hk1 B0.out.lt)).cell 0
  have HB0 := hid (B0.out.keep hk1 B0.out.lt)
  have HB1 := hid (B1.out.keep hk1 B1.out.lt)
  have HK1 := hid (K0.out.trans (hk1.mono fun b hb => by omega))
  have HZ1 := hid hz1
  simp only [List.getElem?_cons_zero] at c0
  clear hm1 hk1 hz1
  generalize hc : w0.heap.size = c at *
  generalize hmm : c + 1 = m at *
  have Hmm := hid hmm
  clear hc hmm
  go_wp2_with fail
  refine (fixed11 w1).mono ?_
  rintro e w2 ⟨rfl, hk2⟩
  have hzz := HZ1.out
  have hmmm := Hmm.out
  have HM2 := hid (HM1.out.keep hk2 (show m < w1.heap.size by omega) (show c < w1.heap.size by omega))
  have HB02 := hid (HB0.out.keep hk2 HB0.out.lt)
  have HB12 := hid (HB1.out.keep hk2 HB1.out.lt)
  have HK2 := hid (HK1.out.trans (hk2.mono fun b hb => by omega))
  have c02 := HB02.out.cell 0
  simp only [List.getElem?_cons_zero] at c02
  clear hk2 c0 hzz
  by_cases hlen : 40 < ids.length
  · go_wp2_with fail
    refine (fixed11 w2).mono ?_
    rintro e w3 ⟨rfl, hk3⟩
    have HK3 := hid (HK2.out.trans (hk3.mono fun b hb => by have := HK2.out.size; have := HWS.out; omega))
    clear hk3
    go_wp2_with fail
    exact hR'.out _ _ ⟨rfl, HK3.out⟩
  · go_wp2_with fail
    have hL0 : LaidUp (List.replicate 200 0) ids 0 := ⟨List.length_replicate, by omega, fun d hd => absurd hd (by omega)⟩
    have HL0 := hid hL0
    clear hL0
    go_loopw [9, 36] (fun want i wr => ∃ (k : Nat) (cs : List Int) (μ : MemS), i = .int .i64 k ∧ k ≤ ids.length ∧ want = .int .i64 (firstM (ids.take k) id 0) ∧ LaidUp cs ids k ∧ MemAt wr m c μ ∧ μ.cells = cs ∧
      Blk wr ws [.slice A ids.length cap] ∧ Blk wr (ws + 1) [.int .u32 id] ∧ Keeps (· < ws) w wr) (fun _ i _ => ids.length - (intOf i).toNat)
    case atStart => exact ⟨0, _, _, rfl, Nat.zero_le _, rfl, HL0.out, HM2.out, rfl, HB02.out, HB12.out, HK2.out⟩
    case round =>
      obtain ⟨k, cs, μ, rfl, hk, rfl, hL, hM, hcs, hb0, hb1, hK⟩ := hrel
      have HL := hid hL
      have HM := hid hM
      have HCS := hid hcs
      have HB0' := hid hb0
      have HB1' := hid hb1
      have HK := hid hK
      have cid := hb1.cell 0
      have cil := hb0.cell 0
      simp only [List.getElem?_cons_zero] at cid cil
      clear hL hM hcs hb0 hb1 hK
      by_cases hlt : k < ids.length
      · obtain ⟨b, off, cp, e1, hKb, x0⟩ := HS.out.get k ids[k] (List.getElem?_eq_getElem hlt)
        injection e1 with e1 _ e2
        subst e1 e2
        have y0 := (World.cell?_of_block (a := ⟨b, off + k, none⟩) (HK.out.block b hKb)).trans x0
        have hux := HU.out ids[k] (List.getElem_mem hlt)
        have hgd : ids.getD k 0 = ids[k] := by rw [List.getD_eq_getElem?_getD, List.getElem?_eq_getElem hlt]; rfl
        have htk : ids.take (k + 1) = ids.take k ++ [ids[k]] := List.take_succ_eq_append_getElem hlt
        have hfs := firstM_snoc (ids.take k) id 0 ids[k]
        rw [← htk, List.length_take, Nat.min_eq_left hk] at hfs
        have hfr := firstM_range (ids.take k) id 0
        rw [List.length_take, Nat.min_eq_left hk] at hfr
        have hnx := HL.out.next (by omega) 1 (1 + (k : Int))
        rw [hgd] at hnx
        generalize ids[k] = x at *
        have HX := hid hux
        have HFS := hid hfs
        have HNX := hid hnx
        clear x0 hux hgd htk hfs hnx
        generalize hfm : firstM (ids.take k) id 0 = fm at *
        have HFM := hid hfm
        clear hfm
        go_wp2_with fail
        have p0 := (Blk.new wr [.int .i64 k] 3).alloc (.cells #[.int .u32 x] 36)
        have p1 := Blk.new (wr.alloc (.cells #[.int .i64 k] 3)) [.int .u32 x] 36
        have q0 : Keeps (· < wr.heap.size) wr ((wr.alloc (.cells #[.int .i64 k] 3)).alloc (.cells #[.int .u32 x] 36)) := ((Keeps.refl _ _).alloc (fun b hb => hb) _).alloc (fun b hb => by simp; omega) _
        have z1 : ((wr.alloc (.cells #[.int .i64 k] 3)).alloc (.cells #[.int .u32 x] 36)).heap.size = wr.heap.size + 2 := by simp
        simp only [World.size_alloc] at p1
        generalize hwb : (wr.alloc (.cells #[.int .i64 k] 3)).alloc (.cells #[.int .u32 x] 36) = wb at *
        have HWB := hid hwb
        have P0 := hid p0
        have P1 := hid p1
        have Q0 := hid q0
        have Z1 := hid z1
        clear hwb p0 p1 q0 z1
        generalize hpd : wr.heap.size = pd at *
        have HPD := hid hpd
        clear hpd
        have l1 : m < pd := HPD.out ▸ HM.out.obj.lt
        have l2 : c < pd := HPD.out ▸ HM.out.cells.lt
        have l3 : ws + 1 < pd := HPD.out ▸ HB1'.out.lt
        refine (whole11_plain (K := fun b => b < ws + 2 ∨ b = pd ∨ b = pd + 1) (HM.out.keep Q0.out l1 l2) (by omega) (by omega) (by rintro b hb; have := Z1.out; omega) _
          #[.pointer (some ⟨pd, 0, none⟩), .pointer (some ⟨pd + 1, 0, none⟩)] enters_tf1 (layT 3 k x 1 (1 + k)) (x := ()) (cs' := layC cs (3 + 4 * k) x 1 (1 + k)) (n := 3)
          (by rw [HCS.out]; exact layT_ideal cs 3 k x 1 _ (by have := HL.out.len; omega)) (by omega) ?_).mono ?_
        · intro w3 r s1 hk3 hR
          exact tf1_call hR pd (pd + 1) k x (by omega) HX.out (P0.out.keep hk3 (Or.inr (Or.inl rfl))) (P1.out.keep hk3 (Or.inr (Or.inr rfl)))
        rintro e w3 ⟨rfl, ⟨μ3, hm3, hc3⟩, hk3⟩
        have HM3 := hid hm3
        have HC3 := hid hc3
        have hb03 := (HB0'.out.keep Q0.out (by omega)).keep hk3 (Or.inl (by omega))
        have hb13 := (HB1'.out.keep Q0.out (by omega)).keep hk3 (Or.inl (by omega))
        have hp0 := P0.out.keep hk3 (Or.inr (Or.inl rfl))
        have hp1 := P1.out.keep hk3 (Or.inr (Or.inr rfl))
        have d0 := hp0.cell 0
        have d1 := hp1.cell 0
        have d2 := hb13.cell 0
        simp only [List.getElem?_cons_zero] at d0 d1 d2
        have HB03 := hid hb03
        have HB13 := hid hb13
        have HK3 := hid (HK.out.trans ((Q0.out.mono fun b hb => by omega).trans (hk3.mono fun b hb => Or.inl (by omega))))
        clear hm3 hc3 hk3 hb03 hb13 hp0 hp1 y0 cid cil
        have hnew := HFS.out
        by_cases hx : x = id
        · have hbx : (x == id) = true := by simpa using hx
          by_cases hneg : fm < 0
          · rw [if_pos ⟨hneg, hx⟩] at hnew
            have HNW := hid hnew
            clear hnew hx
            go_wp2_with fail
            go_roundw
            case rel => exact ⟨k + 1, _, μ3, by go_num, by omega, by rw [HNW.out]; simp, HNX.out, HM3.out, HC3.out, HB03.out, HB13.out, HK3.out⟩
            case measure => simp [intOf]; omega
          · rw [if_neg (fun h => hneg h.1)] at hnew
            have HNW := hid hnew
            clear hnew hx
            go_wp2_with fail
            go_roundw
            case rel => exact ⟨k + 1, _, μ3, by go_num, by omega, by rw [HNW.out], HNX.out, HM3.out, HC3.out, HB03.out, HB13.out, HK3.out⟩
            case measure => simp [intOf]; omega
        · have hbx : (x == id) = false := by simpa using hx
          rw [if_neg (fun h => hx h.2)] at hnew
          have HNW := hid hnew
          clear hnew hx
          go_wp2_with fail
          go_roundw
          case rel => exact ⟨k + 1, _, μ3, by go_num, by omega, by rw [HNW.out], HNX.out, HM3.out, HC3.out, HB03.out, HB13.out, HK3.out⟩
          case measure => simp [intOf]; omega
      · have hkl : k = ids.length := by omega
        subst hkl
        rw [List.take_length]
        clear cid cil
        generalize hfm : firstM ids id 0 = fm at *
        have HFM := hid hfm
        clear hfm
        go_wp2_with fail
        go_loopw [56] (fun i wr => ∃ (j : Nat) (cs : List Int) (μ : MemS), i = .int .i64 j ∧ j ≤ bh ∧ LaidUp cs ids ids.length ∧ MemAt wr m c μ ∧ μ.cells = cs ∧
          Blk wr ws [.slice A ids.length cap] ∧ Blk wr (ws + 1) [.int .u32 id] ∧ Keeps (· < ws) w wr) (fun i _ => bh - (intOf i).toNat)
        case atStart => exact ⟨0, cs, μ, rfl, Nat.zero_le _, HL.out, HM.out, HCS.out, HB0'.out, HB1'.out, HK.out⟩
        case round =>
          obtain ⟨j, cs2, μ2, rfl, hj, hL, hM, hcs, hb0, hb1, hK⟩ := hrel
          clear HL HM HCS HB0' HB1' HK
          have HL := hid hL
          have HM := hid hM
          have HCS := hid hcs
          have HB0' := hid hb0
          have HB1' := hid hb1
          have HK := hid hK
          clear hL hM hcs hb0 hb1 hK
          by_cases hlt : j < bh % 5
          · have hj5 : (j : Int) < (bh : Int) % 5 := by omega
            go_wp2_with fail
            have l3 : ws + 1 < wr.heap.size := HB1'.out.lt
            have lm : m < wr.heap.size := HM.out.obj.lt
            refine (whole11_plain (K := fun b => b < ws + 2) HM.out (by omega) (by omega) (by rintro b hb; omega) _
              #[.pointer (some ⟨ws, 0, none⟩), .pointer (some ⟨ws + 1, 0, none⟩)] enters_tf2 (layT 3 ids.length id 1 99) (x := ()) (cs' := layC cs2 (3 + 4 * ids.length) id 1 99) (n := 3)
              (by rw [HCS.out]; exact layT_ideal cs2 3 ids.length id 1 99 (by have := HL.out.len; omega)) (by omega) ?_).mono ?_
            · intro w3 r s1 hk3 hR
              exact tf2_call hR ws (ws + 1) A ids.length cap id (by omega) HIU.out (HB0'.out.keep hk3 (by omega)) (HB1'.out.keep hk3 (by omega))
            rintro e w3 ⟨rfl, ⟨μ3, hm3, hc3⟩, hk3⟩
            have HM3 := hid hm3
            have HC3 := hid hc3
            have HB03 := hid (HB0'.out.keep hk3 (by omega))
            have HB13 := hid (HB1'.out.keep hk3 (by omega))
            have HK3 := hid (HK.out.trans (hk3.mono fun b hb => by omega))
            clear hm3 hc3 hk3
            go_wp2_with fail
            go_roundw
            case rel => exact ⟨j + 1, _, μ3, by go_num, by omega, HL.out.behind id 1 99, HM3.out, HC3.out, HB03.out, HB13.out, HK3.out⟩
            case measure => simp [intOf]; omega
          · have hj5 : ¬ (j : Int) < (bh : Int) % 5 := by omega
            go_wp2_with fail
            have k1 : Keeps (· < wr.heap.size) wr (wr.alloc (.cells #[.int .i64 (-2)] 3)) := (Keeps.refl _ _).alloc (fun b hb => hb) _
            have bg := Blk.new wr [.int .i64 (-2)] 3
            have z1 : (wr.alloc (.cells #[.int .i64 (-2)] 3)).heap.size = wr.heap.size + 1 := by simp
            generalize hwb : wr.alloc (.cells #[.int .i64 (-2)] 3) = wb at *
            have HWB := hid hwb
            have K1 := hid k1
            have BG := hid bg
            have Z1 := hid z1
            clear hwb k1 bg z1
            generalize hpg : wr.heap.size = pg at *
            have HPG := hid hpg
            clear hpg
            have l1 : m < pg := HPG.out ▸ HM.out.obj.lt
            have l2 : c < pg := HPG.out ▸ HM.out.cells.lt
            have l3 : ws + 1 < pg := HPG.out ▸ HB1'.out.lt
            obtain ⟨cnt, hcnt, hfind⟩ := findT_ideal cs2 ids id ids.length 0 (by rw [Nat.zero_add]; exact HL.out) (Nat.zero_add _)
            rw [List.drop_zero, HFM.out] at hfind
            have HFI := hid hfind
            clear hfind
            refine (whole11 (K := fun b => b < ws + 2 ∨ b = pg) (HM.out.keep K1.out l1 l2) (by omega) (by omega) (by rintro b hb; have := Z1.out; omega) _
              #[.pointer (some ⟨ws, 0, none⟩), .pointer (some ⟨ws + 1, 0, none⟩), .pointer (some ⟨pg, 0, none⟩)] enters_tf3 (findT 3 id ids.length 0) (x := fm) (cs' := cs2) (n := cnt)
              (by rw [HCS.out]; exact HFI.out) (by omega) (fun w1 => Keeps (· < ws + 2) wb w1 ∧ ∃ old, Blk w1 pg [old]) (fun _ y w1 => Blk w1 pg [.int .i64 y]) ⟨Keeps.refl _ _, _, BG.out⟩
              (by rintro w1 w2 ⟨h1, old, h2⟩ k; exact ⟨h1.trans (k.mono fun b hb => Or.inl hb), old, h2.keep k (Or.inr rfl)⟩)
              (by intro r y w1 w2 hr h k; exact h.keep k (fun e => hr (Or.inr e.symm))) ?_).mono ?_
            · rintro w3 r s1 ⟨h1, old, h2⟩ hR
              refine (tf3_call hR ws (ws + 1) pg A ids.length cap id old (by omega) HIU.out ((HB0'.out.keep K1.out (by omega)).keep h1 (by omega)) ((HB1'.out.keep K1.out (by omega)).keep h1 (by omega)) h2 (Or.inr rfl)).mono ?_
              rintro e w4 ⟨rfl, g1, g2, g3⟩
              exact ⟨rfl, g1, ⟨h1.trans (g2.mono fun b hb => ⟨Or.inl hb, by omega⟩), _, g3⟩, g3⟩
            rintro e w5 ⟨rfl, _, ⟨hk5, _⟩, ⟨r5, _, hb5⟩, _⟩
            have cg := hb5.cell 0
            simp only [List.getElem?_cons_zero] at cg
            have HK5 := hid (HK.out.trans ((K1.out.mono fun b hb => by omega).trans (hk5.mono fun b hb => by omega)))
            clear hk5 hb5
            go_wp2_with fail
            exact hR'.out _ _ ⟨rfl, HWS.out ▸ HK5.out⟩
end Go.Proofs.Ytjnaibmnpajfdaa
