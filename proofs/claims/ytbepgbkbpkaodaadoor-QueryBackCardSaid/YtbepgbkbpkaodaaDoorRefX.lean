/- The document's layer 4: Runes, Text. -/
import Derived.Test.YtbepgbkbpkaodaaDoorRefW
import Derived.Test.YtbepgbkbpkaodaaDoorTokB
namespace Go.Proofs.YtbepgbkbpkaodaaDoor
open Go.RowKit

theorem atP_dec (s : ByteArray) (i : Nat) : (atP s i = (0, 0) ∧ Utf8.decode s i = (65533, 1)) ∨ ((atP s i).2 ≠ 0 ∧ atP s i = (((Utf8.decode s i).1 : Int), ((Utf8.decode s i).2 : Int))) := by
  obtain ⟨b0, b1, b2, b3, e0, e1, e2, e3, hd⟩ := decN s i
  unfold atP
  by_cases h1 : byteI s i < 128
  · rw [if_pos h1]
    refine Or.inr ⟨by show (1 : Int) ≠ 0; decide, ?_⟩
    rw [hd]
    unfold Lib.decodeN
    rw [if_pos (by omega), e0]; rfl
  rw [if_neg h1]
  by_cases h2 : (Utf8.decode s i).2 = 1
  · rw [if_pos h2]
    refine Or.inl ⟨rfl, ?_⟩
    rw [hd] at h2 ⊢
    unfold Lib.decodeN at h2 ⊢
    rw [if_neg (by omega)] at h2 ⊢
    repeat' split at h2
    all_goals first | (exfalso; simp at h2; done) | skip
    all_goals (repeat' split)
    all_goals first | rfl | (exfalso; omega)
  · rw [if_neg h2]
    have := decode_pos s i
    exact Or.inr ⟨by show ((Utf8.decode s i).2 : Int) ≠ 0; omega, rfl⟩
theorem decode_le (s : ByteArray) (i : Nat) (h : i < s.size) : i + (Utf8.decode s i).2 ≤ s.size := by
  rw [Lib.decode_at]
  unfold Lib.decodeN
  repeat' split
  all_goals (simp only; omega)
theorem Tryd.infoI32' : (Tryd.prog.info? 21).map (fun i => (i.zero, i.size, i.bytes)) = some (some (.int .i32 0), 1, 4) := by kernel_rfl
theorem Tryd.infoU8' : (Tryd.prog.info? 5).map (fun i => (i.zero, i.size, i.bytes)) = some (some (.int .u8 0), 1, 1) := by kernel_rfl

set_option maxRecDepth 100000 in
set_option maxHeartbeats 4000000 in
theorem ref4_runes (s : ByteArray) (hs : s.size ≤ 17592186044416) (w : World) : Calls Tryd.prog 11 #[.string s] w fun e w' => ∃ v, e = .returned v ∧ NewRow w w' 21 (Value.int .i32) v (runesS s) := by
  refine calls_hide fun R' hR' => ?_
  go_enter Tryd.func11, Tryd.ntmps11
  go_wp2_with fail
  go_loopw [3, 4] (fun ov iv wr => ∃ (pos : Nat) (acc : List Int) (A : Option Addr) (cp : Nat), ov = .slice A acc.length cp ∧ iv = .int .i64 (pos : Int) ∧ pos ≤ s.size ∧ acc.length ≤ pos ∧ Hid (NewRow w wr 21 (Value.int .i32) (.slice A acc.length cp) acc) ∧ Hid (acc ++ runesF s s.size pos = runesS s)) (fun _ iv _ => s.size - (intOf iv).toNat)
  case atStart => exact ⟨0, [], some ⟨w.heap.size, 0, none⟩, 0, rfl, rfl, Nat.zero_le _, Nat.le_refl _, hid (NewRow.empty w _ _ (Value.int .i32) rfl), hid rfl⟩
  case round =>
    obtain ⟨pos, acc, A, cp, rfl, rfl, hps, hap, HR, HE⟩ := hrel
    by_cases hp : pos < s.size
    · have hpI : (pos : Int) < (s.size : Int) := by omega
      have hex := HE.out
      rw [runesF_next hp (by omega)] at hex
      have hle := decode_le s pos hp
      have hd1 := decode_pos s pos
      have hbd := decode_bound s pos
      have hat := atP_dec s pos
      generalize hdd : Utf8.decode s pos = dd at *
      obtain ⟨dr, dk⟩ := dd
      dsimp only at *
      clear HE hdd
      go_wp2_with fail
      refine (ref4_at s hs pos hp wr).mono ?_
      rintro e w2 ⟨rfl, hk⟩
      have hsw := HR.out.2.size
      have hR2 : NewRow w w2 21 (Value.int .i32) (.slice A acc.length cp) acc := ⟨ownB_keepS HR.out.1 hk, HR.out.2.trans (hk.mono fun b hb => Nat.lt_of_lt_of_le hb hsw)⟩
      have hs2 := hk.size
      clear HR hk
      have HR2 := hid hR2
      have Hex := hid hex
      clear hR2 hex
      rcases hat with ⟨h1, h2⟩ | ⟨h1, h2⟩
      · rw [h1]
        injection h2 with h3 h4
        subst h3 h4
        clear h1
        obtain ⟨i0, hi, hz0, hz1, hz2⟩ := info_partsF Tryd.infoI32'
        go_wp2_with (at_builtin; go_must (refine wpList_append_own_at _ rfl _ _ 34 rfl (w.heap.size) 21 i0 (.int .i32 0) 1 4 Tryd.underlying34 hi hz0 hz1 hz2 rfl (by decide) (.slice A acc.length cp) acc.length (acc.map (Value.int .i32)) rfl (ownB_keepS HR2.out.1 ((Keeps.refl _ _).alloc (fun b hb => hb) _)) ⟨w2.heap.size, 0, none⟩ 1 1 [.int .i32 65533] rfl (by simp) (own_news (own_lit w2 0 _ _ 1 1 [.int .i32 65533] rfl rfl (by decide) (Nat.zero_le _))) ?_ ?_ ?_ ?_ ?_))
        all_goals (try (first | with_reducible exact one1 _ _ | with_reducible exact one2 _ _ _ | with_reducible exact one4 _ _ _ _ _ | with_reducible exact oneM _ _ | exact rfl | exact fun _ _ => rfl | exact ⟨rfl, rfl⟩ | exact ⟨rfl, rfl, rfl⟩ | exact ⟨rfl, rfl, rfl, rfl⟩ | (unfold maxLen; omega) | omega | (simp; omega) | (simp; done)))
        (try clear hi)
        (try clear hz0)
        (try clear hz1)
        (try clear hz2)
        intro v' w6 hown hgr _ hf
        have hN := NewRow.push HR2.out hown hgr
        obtain ⟨A', cp', rfl⟩ := ownB_form hown
        have hex2 : (acc ++ [65533]) ++ runesF s s.size (pos + 1) = runesS s := by rw [← Hex.out]; simp
        clear hown hgr hf HR2
        have HN := hid hN
        have Hex2 := hid hex2
        clear hN hex2
        go_wp2_with fail
        go_roundw
        case rel => exact ⟨pos + 1, acc ++ [65533], A', cp', by simp, by go_num, by omega, by simp; omega, by simpa using HN, Hex2⟩
        case measure => first | (simp [intOf]; done) | (simp [intOf]; omega)
      · rw [h2]
        rw [h2] at h1
        dsimp only at h1
        have hkb : ((dk : Int) == 0) = false := by simpa using h1
        obtain ⟨dx, hdx⟩ : ∃ x : Int, x = (dr : Int) := ⟨_, rfl⟩
        rw [← hdx] at Hex ⊢
        clear h1 h2 hdx
        obtain ⟨i0, hi, hz0, hz1, hz2⟩ := info_partsF Tryd.infoI32'
        go_wp2_with (at_builtin; go_must (refine wpList_append_own_at _ rfl _ _ 34 rfl (w.heap.size) 21 i0 (.int .i32 0) 1 4 Tryd.underlying34 hi hz0 hz1 hz2 rfl (by decide) (.slice A acc.length cp) acc.length (acc.map (Value.int .i32)) rfl (ownB_keepS HR2.out.1 ((Keeps.refl _ _).alloc (fun b hb => hb) _)) ⟨w2.heap.size, 0, none⟩ 1 1 [.int .i32 dx] rfl (by simp) (own_news (own_lit w2 0 _ _ 1 1 [.int .i32 dx] rfl rfl (by decide) (Nat.zero_le _))) ?_ ?_ ?_ ?_ ?_))
        all_goals (try (first | with_reducible exact one1 _ _ | with_reducible exact one2 _ _ _ | with_reducible exact one4 _ _ _ _ _ | with_reducible exact oneM _ _ | exact rfl | exact fun _ _ => rfl | exact ⟨rfl, rfl⟩ | exact ⟨rfl, rfl, rfl⟩ | exact ⟨rfl, rfl, rfl, rfl⟩ | (unfold maxLen; omega) | omega | (simp; omega) | (simp; done)))
        (try clear hi)
        (try clear hz0)
        (try clear hz1)
        (try clear hz2)
        intro v' w6 hown hgr _ hf
        have hN := NewRow.push HR2.out hown hgr
        obtain ⟨A', cp', rfl⟩ := ownB_form hown
        have hex2 : (acc ++ [dx]) ++ runesF s s.size (pos + dk) = runesS s := by rw [← Hex.out]; simp
        clear hown hgr hf HR2
        have HN := hid hN
        have Hex2 := hid hex2
        clear hN hex2
        go_wp2_with fail
        go_roundw
        case rel => exact ⟨pos + dk, acc ++ [dx], A', cp', by simp, by go_num, by omega, by simp; omega, by simpa using HN, Hex2⟩
        case measure => first | (simp [intOf]; done) | (simp [intOf]; omega)
    · have hpI : ¬ (pos : Int) < (s.size : Int) := by omega
      have hex := HE.out
      rw [runesF_end hp, List.append_nil] at hex
      have Hex := hid hex
      clear hex
      go_wp2_with fail
      exact hR'.out _ _ ⟨_, rfl, by rw [← Hex.out]; exact HR.out⟩

theorem NewB.appB {w0 wr w2 w' : World} {v v' : Value} {acc bs : List UInt8} (h : NewB w0 wr v acc) (k : Keeps (· < wr.heap.size) wr w2) (hown : w'.ownsRow w0.heap.size 5 1 v' (acc.length + bs.length) (acc.map u8v ++ bs.map u8v)) (hg : w2.grownBy w' v.ownBlock) : NewB w0 w' v' (acc ++ bs) := by
  have hB := h.2.size
  have hB2 := k.size
  refine ⟨by rw [List.length_append, List.map_append]; exact hown, keeps_grown (h.2.trans (k.mono fun b hb => by omega)) (by omega) (ownB_keep h.1 k (fun b _ hb _ => hb)) hg⟩
theorem one8 (bs : List UInt8) : ∀ u ∈ bs.map u8v, u.oneCell' = true := by intro u hu; obtain ⟨x, _, rfl⟩ := List.mem_map.1 hu; rfl
set_option maxRecDepth 100000 in
set_option maxHeartbeats 4000000 in
theorem ref4_text (rs : List Int) (hl : rs.length ≤ 17592186044416) (hrs : ∀ r ∈ rs, -2147483648 ≤ r ∧ r ≤ 2147483647) (A : Option Addr) (cp : Nat) (w : World) (K : Nat → Prop) (hK : ∀ b, K b → b < w.heap.size) (hS : SlAt w K 1 (.slice A rs.length cp) rs.length (rs.map (Value.int .i32))) :
    Calls Tryd.prog 13 #[.slice A rs.length cp] w fun e w' => e = .returned (.string (textS rs)) ∧ Keeps (· < w.heap.size) w w' := by
  have HS := hid hS
  clear hS
  refine calls_hide fun R' hR' => ?_
  go_enter Tryd.func13, Tryd.ntmps13
  go_wp2_with fail
  go_loopw [3, 8] (fun ov iv wr => ∃ (i : Nat) (A' : Option Addr) (cp' : Nat), ov = .slice A' (textB (rs.take i)).length cp' ∧ iv = .int .i64 (i : Int) ∧ i ≤ rs.length ∧ Hid (NewB w wr (.slice A' (textB (rs.take i)).length cp') (textB (rs.take i)))) (fun _ iv _ => rs.length - (intOf iv).toNat)
  case atStart => exact ⟨0, some ⟨w.heap.size, 0, none⟩, 0, rfl, rfl, Nat.zero_le _, hid (NewB.lit w [] 0 5 rfl rfl (by decide))⟩
  case round =>
    obtain ⟨i, A', cp', rfl, rfl, hi, HR⟩ := hrel
    by_cases hlt : i < rs.length
    · have hltI : (i : Int) < (rs.length : Int) := by omega
      obtain ⟨r, hr⟩ : ∃ r, rs[i]? = some r := ⟨_, List.getElem?_eq_getElem hlt⟩
      have hrb := hrs r (List.mem_of_getElem? hr)
      obtain ⟨b, off, c9, hv, hb, hc⟩ := (HS.out.keep HR.out.2 hK).get i r hr
      injection hv with hA h2 h3
      subst hA h3
      have hbl := textB_len (rs.take i)
      have htl : (rs.take i).length ≤ rs.length := by rw [List.length_take]; omega
      have h4 := encB_four r
      have h5 := encB_pos r
      have htk : textB (rs.take (i + 1)) = textB (rs.take i) ++ encB r := by
        rw [List.take_add_one, hr]; exact textB_snoc _ _
      have HTK := hid htk
      clear htk hr
      generalize textB (rs.take i) = acc at *
      have hBs := HR.out.2.size
      go_wp2_with fail
      refine (ref4_bytes r hrb wr).mono ?_
      rintro e w2 ⟨v2, rfl, hN2⟩
      obtain ⟨g, c2, rfl⟩ := ownB_pos hN2.1 h5
      have hs2 := hN2.2.size
      generalize encB r = bs at *
      have hk2 := hN2.2
      have hnews := own_news hN2.1
      have Hk2 := hid hk2
      have Hnews := hid hnews
      clear hk2 hnews
      clear hN2 hc
      obtain ⟨i0, hi, hz0, hz1, hz2⟩ := info_partsF Tryd.infoU8'
      go_wp2_with (at_builtin; go_must (refine wpList_append_own_at _ rfl _ _ 67 rfl (w.heap.size) 5 i0 (.int .u8 0) 1 1 Tryd.underlying67 hi hz0 hz1 hz2 rfl (by decide) (.slice A' acc.length cp') acc.length (acc.map u8v) rfl (ownB_keepS HR.out.1 Hk2.out) ⟨g, 0, none⟩ bs.length c2 (bs.map u8v) rfl (by simp) Hnews.out ?_ ?_ ?_ ?_ ?_))
      all_goals (try (first | with_reducible exact one1 _ _ | with_reducible exact one2 _ _ _ | with_reducible exact one4 _ _ _ _ _ | with_reducible exact oneM _ _ | exact rfl | exact fun _ _ => rfl | exact ⟨rfl, rfl⟩ | exact ⟨rfl, rfl, rfl⟩ | exact ⟨rfl, rfl, rfl, rfl⟩ | (unfold maxLen; omega) | omega | (simp; omega) | (simp; done)))
      (try clear hi)
      (try clear hz0)
      (try clear hz1)
      (try clear hz2)
      all_goals (try (first | exact one8 _ | (simp only [maxLen]; omega)))
      intro v' w6 hown hgr _ hf
      have hN := NewB.appB HR.out Hk2.out hown hgr
      obtain ⟨A3, c3, rfl⟩ := ownB_form hown
      clear hown hgr hf HR Hk2 Hnews
      have HN := hid hN
      clear hN
      go_wp2_with fail
      go_roundw
      case rel => exact ⟨i + 1, A3, c3, by rw [HTK.out, List.length_append], by go_num, by omega, by rw [HTK.out, List.length_append]; exact HN⟩
      case measure => first | (simp [intOf]; done) | (simp [intOf]; omega)
    · obtain rfl : i = rs.length := by omega
      have hltI : ¬ (rs.length : Int) < (rs.length : Int) := by omega
      have hcv := HR.out.conv Tryd.underlying67 Tryd.underlying5 Tryd.underlying9
      rw [List.take_length] at *
      have hts : textS rs = ⟨(textB rs).toArray⟩ := rfl
      rw [← hts] at hcv
      clear hts
      generalize textS rs = ts at *
      go_wp2_with fail
      exact hR'.out _ _ ⟨rfl, HR.out.2⟩
end Go.Proofs.YtbepgbkbpkaodaaDoor
