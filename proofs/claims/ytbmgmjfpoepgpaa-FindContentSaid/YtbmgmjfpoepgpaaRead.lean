/- Contracts: pack.Bytes, dict.Read. -/
import Derived.Test.YtbmgmjfpoepgpaaPack
import Derived.Test.YtbmgmjfpoepgpaaReadP
import Derived.Test.YtbmgmjfpoepgpaaRow
namespace Go.Proofs.Ytbmgmjfpoepgpaa
open Go.RowKit

theorem Try.infoB : (Try.prog.info? 5).map (fun i => (i.zero, i.size, i.bytes)) = some (some (.int .u8 0), 1, 1) := by kernel_rfl
theorem list_fill {L : List Int} {k n : Nat} {y : Int} (h : L[k]? = some y) (hk : k < n) : (L.take k ++ List.replicate (n - k) 0).set k y = L.take (k + 1) ++ List.replicate (n - (k + 1)) 0 := by
  obtain ⟨hl, e⟩ := List.getElem?_eq_some_iff.1 h
  have hk' : (L.take k).length = k := by rw [List.length_take]; omega
  rw [List.set_append_right _ _ (by omega), hk', Nat.sub_self, show n - k = (n - (k + 1)) + 1 by omega, List.replicate_succ, List.set_cons_zero, List.take_succ_eq_append_getElem hl, e, List.append_assoc]
  rfl
set_option maxRecDepth 100000 in
set_option maxHeartbeats 2000000 in
theorem pack_bytes (w : World) (K : Nat → Prop) (A : Option Addr) (cap : Nat) (cs : List Int) (n : Nat) (hc : SlAt w K 1 (.slice A cs.length cap) cs.length (cs.map (Value.int .u32))) (hK : ∀ b, K b → b < w.heap.size) (hcr : ∀ x ∈ cs, U32 x)
    (hn : cs.length = (n + 3) / 4) (hb : n ≤ 1000) :
    Calls Try.prog 55 #[.slice A cs.length cap, .int .i64 n] w fun e w' => e = .returned (.tuple #[.string (unpackB cs n), .int .i64 0]) ∧ Keeps (· < w.heap.size) w w' := by
  have hmk := fun w => run_make_row' (P := Try.prog) 106 5 (.int .u8 0) 1 Try.underlying106 Try.infoB rfl .i64 .i64 n (by omega) (by omega) w
  have hcl2 : (cs.length : Int) ≤ 251 := by omega
  have e0 : decide ((cs.length : Int) < (n : Int) / 4) = false := by simp; omega
  have e9 : decide ((n : Int) < 0) = false := by simp
  have Hn := hid hn
  clear hn
  refine calls_hide fun R' hR' => ?_
  go_enter Try.func55, Try.ntmps55
  by_cases h4 : n % 4 = 0
  · have e1 : ((n : Int) / 4 == (cs.length : Int)) = true := by have := Hn.out; simp; omega
    have e2 : ((n : Int) % 4 != 0) = false := by simp; omega
    go_wp2_with fail
    have hb0 := made_blk w (.int .u8 0) n 5
    have hk0 : Keeps (· < w.heap.size) w (w.alloc (.cells (madeCells #[.int .u8 0] n) 5)) := (Keeps.refl _ _).alloc (fun b hb => hb) _
    generalize w.alloc (.cells (madeCells #[.int .u8 0] n) 5) = w0 at *
    generalize hbb : w.heap.size = b at *
    have Hb0 := hid hb0
    have Hk0 := hid hk0
    have Hbb := hid hbb
    clear hb0 hk0 hbb
    clear hmk
    go_loopw [33] (fun i wr => ∃ k : Nat, i = .int .i64 k ∧ k ≤ n ∧ Blk wr b (((unpackL cs n).take k ++ List.replicate (n - k) 0).map (Value.int .u8)) ∧ Keeps (· < b) w wr) (fun i _ => n - (intOf i).toNat)
    case atStart => exact ⟨0, rfl, Nat.zero_le _, by simpa using Hb0.out, Hk0.out⟩
    case round =>
      obtain ⟨k, rfl, hk, hB, hk1⟩ := hrel
      by_cases hlt : k < n
      · have hq : k / 4 < cs.length := by have := Hn.out; omega
        obtain ⟨b1, off, cp, e1, hKb, x0⟩ := hc.get (k / 4) cs[k / 4] (List.getElem?_eq_getElem hq)
        injection e1 with e1 _ e3
        subst e1 e3
        have y0 := (World.cell?_of_block (a := ⟨b1, off + k / 4, none⟩) (hk1.block b1 (hK b1 hKb))).trans x0
        have hux := hcr cs[k / 4] (List.getElem_mem hq)
        have hu : (unpackL cs n)[k]? = some (cs[k / 4] / pw (k % 4) % 256) := by
          simp only [unpackL, List.getElem?_map, List.getElem?_range hlt, Option.map_some]
          rw [List.getD_eq_getElem?_getD, List.getElem?_eq_getElem hq]; rfl
        generalize cs[k / 4] = x at *
        obtain ⟨ux0, ux1⟩ := hux
        have hx1 := hB.free k
        have hx2 := hB.cell k
        have htl : ((unpackL cs n).take k).length = k := by rw [List.length_take, unpackL_len]; omega
        rw [List.getElem?_map, List.getElem?_append_right (by omega), htl, Nat.sub_self, List.getElem?_replicate, if_pos (by omega), Option.map_some] at hx2
        have i1 : (k : Int) < (n : Int) := by omega
        have i2 : (k : Int) / 4 < (cs.length : Int) := by omega
        have i3 : 0 ≤ (k : Int) / 4 := by omega
        have i4 : ((k : Int) / 4).toNat = k / 4 := by omega
        have HB := hid hB
        have Hk1 := hid hk1
        have Hu := hid hu
        have Htl := hid htl
        clear hB hk1 hu htl
        clear x0 hq
        go_wp2_with fail
        go_roundw
        case rel =>
          refine ⟨k + 1, by go_num, by omega, ?_, Hk1.out.setCell (by simp) _⟩
          have h2 := Hu.out
          rw [pw_cases _ (Nat.mod_lt _ (by decide))] at h2
          rw [← list_fill h2 hlt, List.map_set]
          exact HB.out.set k _
        case measure => simp [intOf]; omega
      · have hkn : k = n := by omega
        subst hkn
        rw [Nat.sub_self, List.replicate_zero, List.append_nil, List.take_of_length_le (by rw [unpackL_len]; exact Nat.le_refl _)] at hB
        have hcv := run_convert_bytes_back (P := Try.prog) wr 106 9 5 ⟨b, 0, none⟩ k ((unpackL cs k).map fun x => UInt8.ofNat x.toNat) Try.underlying106 Try.underlying5 Try.underlying9 (by
          intro j hj
          rw [List.length_map] at hj
          have ea : (⟨b, 0, none⟩ : Addr).add j = ⟨b, j, none⟩ := by unfold Addr.add; split <;> simp_all
          rw [ea, hB.cell, List.getElem?_map, List.getElem?_eq_getElem hj, List.getElem_map, Option.map_some]
          have := unpackL_range cs k _ (List.getElem_mem hj)
          rw [UInt8.toNat_ofNat']
          congr 2
          omega)
        rw [List.length_map, unpackL_len] at hcv
        have Hk1 := hid hk1
        clear hk1
        clear hB
        go_wp2_with fail
        exact hR'.out _ _ ⟨rfl, by have := Hbb.out; exact Hk1.out⟩
  · have e2 : ((n : Int) / 4 == (cs.length : Int)) = false := by have := Hn.out; simp; omega
    go_wp2_with fail
    have hb0 := made_blk w (.int .u8 0) n 5
    have hk0 : Keeps (· < w.heap.size) w (w.alloc (.cells (madeCells #[.int .u8 0] n) 5)) := (Keeps.refl _ _).alloc (fun b hb => hb) _
    generalize w.alloc (.cells (madeCells #[.int .u8 0] n) 5) = w0 at *
    generalize hbb : w.heap.size = b at *
    have Hb0 := hid hb0
    have Hk0 := hid hk0
    have Hbb := hid hbb
    clear hb0 hk0 hbb
    clear hmk
    go_loopw [33] (fun i wr => ∃ k : Nat, i = .int .i64 k ∧ k ≤ n ∧ Blk wr b (((unpackL cs n).take k ++ List.replicate (n - k) 0).map (Value.int .u8)) ∧ Keeps (· < b) w wr) (fun i _ => n - (intOf i).toNat)
    case atStart => exact ⟨0, rfl, Nat.zero_le _, by simpa using Hb0.out, Hk0.out⟩
    case round =>
      obtain ⟨k, rfl, hk, hB, hk1⟩ := hrel
      by_cases hlt : k < n
      · have hq : k / 4 < cs.length := by have := Hn.out; omega
        obtain ⟨b1, off, cp, e1, hKb, x0⟩ := hc.get (k / 4) cs[k / 4] (List.getElem?_eq_getElem hq)
        injection e1 with e1 _ e3
        subst e1 e3
        have y0 := (World.cell?_of_block (a := ⟨b1, off + k / 4, none⟩) (hk1.block b1 (hK b1 hKb))).trans x0
        have hux := hcr cs[k / 4] (List.getElem_mem hq)
        have hu : (unpackL cs n)[k]? = some (cs[k / 4] / pw (k % 4) % 256) := by
          simp only [unpackL, List.getElem?_map, List.getElem?_range hlt, Option.map_some]
          rw [List.getD_eq_getElem?_getD, List.getElem?_eq_getElem hq]; rfl
        generalize cs[k / 4] = x at *
        obtain ⟨ux0, ux1⟩ := hux
        have hx1 := hB.free k
        have hx2 := hB.cell k
        have htl : ((unpackL cs n).take k).length = k := by rw [List.length_take, unpackL_len]; omega
        rw [List.getElem?_map, List.getElem?_append_right (by omega), htl, Nat.sub_self, List.getElem?_replicate, if_pos (by omega), Option.map_some] at hx2
        have i1 : (k : Int) < (n : Int) := by omega
        have i2 : (k : Int) / 4 < (cs.length : Int) := by omega
        have i3 : 0 ≤ (k : Int) / 4 := by omega
        have i4 : ((k : Int) / 4).toNat = k / 4 := by omega
        have HB := hid hB
        have Hk1 := hid hk1
        have Hu := hid hu
        have Htl := hid htl
        clear hB hk1 hu htl
        clear x0 hq
        go_wp2_with fail
        go_roundw
        case rel =>
          refine ⟨k + 1, by go_num, by omega, ?_, Hk1.out.setCell (by simp) _⟩
          have h2 := Hu.out
          rw [pw_cases _ (Nat.mod_lt _ (by decide))] at h2
          rw [← list_fill h2 hlt, List.map_set]
          exact HB.out.set k _
        case measure => simp [intOf]; omega
      · have hkn : k = n := by omega
        subst hkn
        rw [Nat.sub_self, List.replicate_zero, List.append_nil, List.take_of_length_le (by rw [unpackL_len]; exact Nat.le_refl _)] at hB
        have hcv := run_convert_bytes_back (P := Try.prog) wr 106 9 5 ⟨b, 0, none⟩ k ((unpackL cs k).map fun x => UInt8.ofNat x.toNat) Try.underlying106 Try.underlying5 Try.underlying9 (by
          intro j hj
          rw [List.length_map] at hj
          have ea : (⟨b, 0, none⟩ : Addr).add j = ⟨b, j, none⟩ := by unfold Addr.add; split <;> simp_all
          rw [ea, hB.cell, List.getElem?_map, List.getElem?_eq_getElem hj, List.getElem_map, Option.map_some]
          have := unpackL_range cs k _ (List.getElem_mem hj)
          rw [UInt8.toNat_ofNat']
          congr 2
          omega)
        rw [List.length_map, unpackL_len] at hcv
        have Hk1 := hid hk1
        clear hk1
        clear hB
        go_wp2_with fail
        exact hR'.out _ _ ⟨rfl, by have := Hbb.out; exact Hk1.out⟩

set_option maxRecDepth 100000 in
set_option maxHeartbeats 4000000 in
theorem dict_read {w : World} {K : Nat → Prop} {r m c : Nat} {s : St} (h : RM w K r m c s) (a : Nat) (ha : a ≤ 4294967295) :
    Calls Try.prog 44 #[.pointer (some ⟨r, 0, none⟩), .int .i64 a] w fun e w' => e = .returned (.string ((readD a).exec s).1) ∧ RM w' K r m c ((readD a).exec s).2 ∧ Keeps K w w' := by
  generalize hres : (readD a).exec s = res
  have H := hid h
  have Hres := hid hres
  clear h hres
  refine calls_hide fun R' hR' => ?_
  go_enter Try.func44, Try.ntmps44
  go_wp2_with fail
  refine (step_load H.out ((a : Int) + 1)).mono ?_
  rintro e w1 ⟨rfl, hr1, hk1⟩
  have hu1 := H.out.load_u32 ((a : Int) + 1)
  generalize hls : s.load ((a : Int) + 1) = ls at *
  obtain ⟨n, s1⟩ := ls
  simp only at hr1 hu1
  obtain ⟨u0, u1⟩ := hu1
  have Hls := hid hls
  have Hr1 := hid hr1
  have Hk1 := hid hk1
  clear hls hr1 hk1
  go_wp2_with fail
  refine (step_off Hr1.out).mono ?_
  rintro e w2 ⟨rfl, rfl⟩
  by_cases hout : s1.isOff = true ∨ 17 < n
  · have hf := Hres.out
    rw [readD_out Hls.out hout] at hf
    have Hf := hid hf
    clear hf
    cases ho : s1.isOff with
    | true =>
      go_wp2_with fail
      exact hR'.out _ _ ⟨by rw [← Hf.out]; rfl, by rw [← Hf.out]; exact Hr1.out, Hk1.out⟩
    | false =>
      have hn : 17 < n := by rcases hout with h | h; rw [ho] at h; cases h; exact h
      clear hout
      go_wp2_with fail
      exact hR'.out _ _ ⟨by rw [← Hf.out]; rfl, by rw [← Hf.out]; exact Hr1.out, Hk1.out⟩
  · have ho : s1.isOff = false := by cases h : s1.isOff; rfl; exact absurd (Or.inl h) hout
    have hn : n ≤ 17 := by have : ¬ 17 < n := fun h => hout (Or.inr h); omega
    have hf := Hres.out
    rw [readD_in Hls.out hout] at hf
    obtain ⟨n, rfl⟩ := Int.eq_ofNat_of_zero_le u0
    rw [Int.toNat_natCast] at hf
    rw [ho]
    have Hf := hid hf
    clear hf
    clear hout ho
    have hR0 := hid (show RM w1 (fun b => K b ∨ (Value.slice none 0 0).ownBlock = some b) r m c s1 from Hr1.out.mono (fun b hb => by rcases hb with h | h; exact h; cases h))
    have Hlt := hid H.out.lt
    go_wp2_with fail
    go_loopw [6, 24] (fun v i wr => ∃ (k : Nat) (s' : St) (acc : List Int) (A : Option Addr) (cp : Nat), i = .int .i64 k ∧ k ≤ (n + 3) / 4 ∧ acc.length = k ∧ v = .slice A acc.length cp ∧ RM wr (fun b => K b ∨ (Value.slice A acc.length cp).ownBlock = some b) r m c s' ∧
      RowOwn wr K (.slice A acc.length cp) acc ∧ Keeps K w wr ∧ (∀ x ∈ acc, U32 x) ∧ ((loadsD a ((n + 3) / 4 - k) k).bind fun l => Tree.ret (unpackB (acc ++ l) n)).exec s' = res) (fun _ i _ => (n + 3) / 4 - (intOf i).toNat)
    case atStart => exact ⟨0, s1, [], none, 0, rfl, Nat.zero_le _, rfl, rfl, hR0.out, RowOwn.nil _ _, Hk1.out, fun x hx => (by cases hx), Hf.out⟩
    case round =>
      obtain ⟨k, s', acc, A, cp, rfl, hk, hla, rfl, hR, hO, hK, hac, hex⟩ := hrel
      have HR := hid hR
      have HO := hid hO
      have HK := hid hK
      have Hac := hid hac
      clear hR hO hK hac
      by_cases hltk : k < (n + 3) / 4
      · have e : (n + 3) / 4 - k = ((n + 3) / 4 - (k + 1)) + 1 := by omega
        rw [e] at hex
        have i1 : (k : Int) < ((n : Int) + 3) / 4 := by omega
        have Hex := hid hex
        clear hex
        clear e
        obtain ⟨i0, hi, hz0, hz1, hz2⟩ := info_parts Try.infoU
        have hc2 : (acc.length : Int) = k := by omega
        subst hla
        clear hc2
        go_wp2_with fail
        refine (step_load HR.out ((a : Int) + 2 + (acc.length : Int))).mono ?_
        rintro e w2 ⟨rfl, hr2, hk2⟩
        have hu2 := HR.out.load_u32 ((a : Int) + 2 + (acc.length : Int))
        generalize hls : s'.load ((a : Int) + 2 + (acc.length : Int)) = ls at *
        obtain ⟨x, s2⟩ := ls
        simp only at hr2 hu2
        obtain ⟨u20, u21⟩ := hu2
        have hnx := Hex.out
        rw [loadsD_step hls] at hnx
        have hO2 : RowOwn w2 K (.slice A acc.length cp) acc := ⟨own_of_keep HO.out.1 hk2 (fun b hb => Or.inr hb), HO.out.2⟩
        have hK2 := HK.out.trans (hk2.mono fun b hb => Or.inl hb)
        have Hnx := hid hnx
        have Hr2 := hid hr2
        have HO2 := hid hO2
        have HK2 := hid hK2
        clear hnx hr2 hO2 hK2
        clear hk2 hls
        go_wp2_with (at_builtin; refine wpList_append_x rfl _ _ 32 rfl 55 i0 (.int .u32 0) 1 4 Try.underlying32 hi hz0 hz1 hz2 rfl (by decide) (.slice A acc.length cp) acc.length (acc.map (Value.int .u32)) rfl (HO2.out.1.alloc _) ⟨w2.heap.size, 0, none⟩ 1 1 [.int .u32 x] rfl rfl ?_ ?_ ?_ ?_ ?_)
        · intro j u hj
          rcases j with _ | j
          · simpa [Addr.add] using hj
          · simp at hj
        · intro u hu; simp at hu; rcases hu with rfl; rfl
        · unfold maxLen; omega
        · omega
        · intro v' w6 hown' hgr hfr
          obtain ⟨A', cp', hv'⟩ : ∃ A' cp', v' = .slice A' (acc.length + 1) cp' := by
            rcases hown'.2 with ⟨_, h⟩ | ⟨g, cap, _, h, _⟩
            · omega
            · exact ⟨_, _, h⟩
          subst hv'
          have hal := Hr2.out.alloc (.cells #[.int .u32 x] 55)
          have hR6 := hal.appendR hgr (by rw [World.size_alloc]; exact hfr) (fun b hb => (hown'.lt b hb).2)
          have hK6 : Keeps K w w6 := (HK2.out.alloc (fun b hb => by have := Hlt.out b hb; have := HK2.out.size; omega) _).trans (keepsR_append (fun b hb => hal.lt b (Or.inl hb)) HO2.out.2 hgr)
          have hO6 : RowOwn w6 K (.slice A' (acc.length + 1) cp') (acc ++ [x]) := by
            refine ⟨?_, ?_⟩
            · simpa using hown'
            · intro b hb hKb
              rcases hfr with h | ⟨b', h, h2⟩
              · exact HO2.out.2 b (h ▸ hb) hKb
              · rw [h] at hb; injection hb with hb
                have := Hlt.out b hKb; have := HK2.out.size; omega
          have HR6 := hid hR6
          have HK6 := hid hK6
          have HO6 := hid hO6
          clear hR6 hK6 hO6
          clear hown' hgr hfr hal hi hz0 hz1 hz2
          go_wp2_with fail
          go_roundw
          case rel => exact ⟨acc.length + 1, s2, acc ++ [x], A', cp', by go_num, by omega, by simp, by simp, by simpa using HR6.out, by simpa using HO6.out, HK6.out, (by intro y hy; rcases List.mem_append.1 hy with h | h; exact Hac.out y h; simp at h; subst h; exact ⟨u20, u21⟩), Hnx.out⟩
          case measure => simp [intOf]; omega
      · subst hla
        have hkn : (n + 3) / 4 - acc.length = 0 := by omega
        rw [hkn] at hex
        have hfin : (unpackB (acc ++ []) n, s') = res := hex
        rw [List.append_nil] at hfin
        have hal : acc.length = (n + 3) / 4 := by omega
        have hob : ∀ b, (Value.slice A acc.length cp).ownBlock = some b → b < wr.heap.size := fun b hb => HR.out.lt b (Or.inr hb)
        have hpb := pack_bytes wr (fun b => b < wr.heap.size) A cp acc n (HO.out.slAt hob) (fun b hb => hb) Hac.out hal (by omega)
        have Hfin := hid hfin
        have Hpb := hid hpb
        clear hfin hpb
        clear hex hkn hal hob
        go_wp2_with fail
        refine Hpb.out.mono ?_
        rintro e w5 ⟨rfl, hk5⟩
        have hRf : RM w5 K r m c res.2 := by rw [← Hfin.out]; exact (HR.out.mono fun b hb => Or.inl hb).below hk5
        have hKf := HK.out.trans (hk5.mono fun b hb => by have := Hlt.out b hb; have := HK.out.size; omega)
        have HRf := hid hRf
        have HKf := hid hKf
        clear hRf hKf
        clear hk5
        go_wp2_with fail
        exact hR'.out _ _ ⟨by rw [← Hfin.out]; rfl, HRf.out, HKf.out⟩
end Go.Proofs.Ytbmgmjfpoepgpaa
