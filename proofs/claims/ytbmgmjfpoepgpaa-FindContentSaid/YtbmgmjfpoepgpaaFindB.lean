/- Contracts of package find: Docs, Term. -/
import Derived.Test.YtbmgmjfpoepgpaaFindA
namespace Go.Proofs.Ytbmgmjfpoepgpaa
open Go.RowKit

set_option maxHeartbeats 1000000 in
theorem find_docs {w : World} {K : Nat → Prop} {r m c : Nat} {s : St} (h : RM w K r m c s) (a : Int) :
    Calls Try.prog 19 #[.pointer (some ⟨r, 0, none⟩), .int .i64 a] w fun e w' => e = .returned (.int .i64 ((docsT a).exec s).1) ∧ RM w' K r m c ((docsT a).exec s).2 ∧ Keeps K w w' ∧ -1 ≤ ((docsT a).exec s).1 ∧ ((docsT a).exec s).1 ≤ 4294967294 := by
  have hu := h.load_u32 a
  have hcon := step_load h a
  show Calls _ _ _ _ fun e w' => e = .returned (.int .i64 ((s.load a).1 - 1)) ∧ RM w' K r m c (s.load a).2 ∧ Keeps K w w' ∧ -1 ≤ (s.load a).1 - 1 ∧ (s.load a).1 - 1 ≤ 4294967294
  generalize s.load a = ls at *
  obtain ⟨n, s1⟩ := ls
  simp only at hcon hu
  obtain ⟨u0, u1⟩ := hu
  have hcn := hid hcon
  clear hcon h
  refine calls_hide fun R' hR' => ?_
  go_enter Try.func19, Try.ntmps19
  go_wp2_with fail
  refine hcn.out.mono ?_
  rintro e w1 ⟨rfl, h1, h2⟩
  have H1 := hid h1
  have H2 := hid h2
  clear h1 h2
  go_wp2_with fail
  exact hR'.out _ _ ⟨rfl, H1.out, H2.out, by show -1 ≤ n - 1; omega, by show n - 1 ≤ _; omega⟩

set_option maxRecDepth 100000 in
set_option maxHeartbeats 2000000 in
theorem find_term {w : World} {K : Nat → Prop} {r m c : Nat} {s : St} (h : RM w K r m c s) (a : Int) (ha : -1099511627776 ≤ a ∧ a ≤ 1099511627776) (key : ByteArray) :
    Calls Try.prog 20 #[.pointer (some ⟨r, 0, none⟩), .int .i64 a, .string key] w fun e w' => e = .returned (.int .i64 ((termT a key).exec s).1) ∧ RM w' K r m c ((termT a key).exec s).2 ∧ Keeps K w w' := by
  generalize hres : (termT a key).exec s = res
  obtain ⟨a0, a1⟩ := ha
  have H := hid h
  have Hres := hid hres
  clear h hres
  refine calls_hide fun R' hR' => ?_
  go_enter Try.func20, Try.ntmps20
  go_wp2_with fail
  go_step3
  go_wp2_with fail
  refine (find_docs H.out a).mono ?_
  rintro e w1 ⟨rfl, hr1, hk1, hd0, hd1⟩
  have hx := Hres.out
  have hx1 : ((Tree.load (a + 1) fun hi => if ((docsT a).exec s).1 < 0 ∨ ((docsT a).exec s).1 > 64 ∨ hi > 256 then Tree.ret 0 else termL a ((docsT a).exec s).1 key 257 0 hi).exec ((docsT a).exec s).2) = res := hx
  generalize (docsT a).exec s = ls at *
  obtain ⟨docs, s1⟩ := ls
  simp only at hr1 hd0 hd1 hx1
  clear hx Hres
  have Hr1 := hid hr1
  have Hk1 := hid hk1
  have Hx1 := hid hx1
  clear hr1 hk1 hx1
  go_wp2_with fail
  refine (step_load Hr1.out (a + 1)).mono ?_
  rintro e w2 ⟨rfl, hr2, hk2⟩
  have hu := Hr1.out.load_u32 (a + 1)
  have hx2 : (if docs < 0 ∨ docs > 64 ∨ (s1.load (a + 1)).1 > 256 then Tree.ret 0 else termL a docs key 257 0 (s1.load (a + 1)).1).exec (s1.load (a + 1)).2 = res := Hx1.out
  generalize s1.load (a + 1) = ls at *
  obtain ⟨hi, s2⟩ := ls
  simp only at hr2 hu hx2
  obtain ⟨u0, u1⟩ := hu
  have hk := Hk1.out.trans hk2
  clear Hx1 Hr1 Hk1 hk2
  by_cases hbad : docs < 0 ∨ docs > 64 ∨ hi > 256
  · rw [if_pos hbad] at hx2
    have hf : ((0 : Int), s2) = res := hx2
    have Hf := hid hf
    have Hr2 := hid hr2
    have Hk := hid hk
    clear hf hr2 hk
    clear hx2
    by_cases h1 : docs < 0
    · clear hbad
      go_wp2_with fail
      exact hR'.out _ _ ⟨by rw [← Hf.out]; rfl, by rw [← Hf.out]; exact Hr2.out, Hk.out⟩
    · by_cases h2 : docs > 64
      · clear hbad
        go_wp2_with fail
        exact hR'.out _ _ ⟨by rw [← Hf.out]; rfl, by rw [← Hf.out]; exact Hr2.out, Hk.out⟩
      · have h3 : hi > 256 := by omega
        clear hbad
        go_wp2_with fail
        exact hR'.out _ _ ⟨by rw [← Hf.out]; rfl, by rw [← Hf.out]; exact Hr2.out, Hk.out⟩
  · rw [if_neg hbad] at hx2
    have d0 : ¬ docs < 0 := fun h => hbad (Or.inl h)
    have d1 : ¬ docs > 64 := fun h => hbad (Or.inr (Or.inl h))
    have d2 : ¬ hi > 256 := fun h => hbad (Or.inr (Or.inr h))
    clear hbad
    have Hx2 := hid hx2
    have Hr2 := hid hr2
    have Hk := hid hk
    clear hx2 hr2 hk
    go_wp2_with fail
    go_step3
    go_wp2_with fail
    go_loopw [8, 9, 10] (fun lv hv av wr => ∃ (f : Nat) (lo hi' : Int) (s' : St), lv = .int .i64 lo ∧ hv = .int .i64 hi' ∧ av = .int .i64 0 ∧ 0 ≤ lo ∧ hi' ≤ 256 ∧ hi' - lo < (f : Int) ∧ Hid ((termL a docs key f lo hi').exec s' = res) ∧ Hid (RM wr K r m c s') ∧ Hid (Keeps K w wr)) (fun lv hv _ _ => (intOf hv - intOf lv).toNat)
    case atStart => exact ⟨257, 0, hi, s2, rfl, rfl, rfl, by omega, by omega, by omega, Hx2, Hr2, Hk⟩
    case round =>
      obtain ⟨f, lo, hi', s', rfl, rfl, rfl, hl0, hh1, hf, HE, HR, HK⟩ := hrel
      clear Hx2 Hr2 Hk
      by_cases hlt : lo < hi'
      · obtain ⟨f, rfl⟩ : ∃ g, f = g + 1 := ⟨f - 1, by omega⟩
        have hex := HE.out
        unfold termL at hex
        rw [if_pos hlt] at hex
        obtain ⟨mid, hmid⟩ : ∃ mid, mid = (lo + hi') / 2 := ⟨_, rfl⟩
        rw [← hmid] at hex
        have hm0 : lo ≤ mid := by omega
        have hm1 : mid < hi' := by omega
        have hmd : (lo + hi') / 2 = mid := hmid.symm
        clear hmid HE
        have Hex := hid hex
        clear hex
        go_wp2_with fail
        rw [hmd]
        refine (step_load HR.out (a + 2 + 4 * docs + 2 * mid)).mono ?_
        rintro e w3 ⟨rfl, hr3, hk3⟩
        have hu3 := HR.out.load_u32 (a + 2 + 4 * docs + 2 * mid)
        have hex : ((readD (s'.load (a + 2 + 4 * docs + 2 * mid)).1).bind fun k => Tree.off fun o => if o = true then Tree.ret 0 else if k.toList = key.toList then Tree.load (a + 2 + 4 * docs + 2 * mid + 1) fun v => Tree.ret v else if ltB k key = true then termL a docs key f (mid + 1) hi' else termL a docs key f lo mid).exec (s'.load (a + 2 + 4 * docs + 2 * mid)).2 = res := Hex.out
        generalize s'.load (a + 2 + 4 * docs + 2 * mid) = ls at *
        obtain ⟨rec, s3⟩ := ls
        simp only at hr3 hu3 hex
        obtain ⟨v0, v1⟩ := hu3
        obtain ⟨rec, rfl⟩ := Int.eq_ofNat_of_zero_le v0
        have hK3 := HK.out.trans hk3
        clear hk3 Hex HR HK
        rw [Tree.exec_bind] at hex
        have Hr3 := hid hr3
        have Hex := hid hex
        have HK3 := hid hK3
        clear hr3 hex hK3
        go_wp2_with fail
        refine (dict_read Hr3.out rec (by omega)).mono ?_
        rintro e w4 ⟨rfl, hr4, hk4⟩
        have hex := Hex.out
        generalize (readD (rec : Int)).exec s3 = ls at *
        obtain ⟨k, s4⟩ := ls
        simp only at hr4 hex
        have hex1 : (if s4.isOff = true then Tree.ret 0 else if k.toList = key.toList then Tree.load (a + 2 + 4 * docs + 2 * mid + 1) fun v => Tree.ret v else if ltB k key = true then termL a docs key f (mid + 1) hi' else termL a docs key f lo mid).exec s4 = res := hex
        have hK4 := HK3.out.trans hk4
        clear hk4 hex Hex Hr3 HK3
        have Hr4 := hid hr4
        have Hex1 := hid hex1
        have HK4 := hid hK4
        clear hr4 hex1 hK4
        go_wp2_with fail
        refine (step_off Hr4.out).mono ?_
        rintro e w5 ⟨rfl, rfl⟩
        have hex1 := Hex1.out
        clear Hex1
        cases ho : s4.isOff with
        | true =>
          rw [if_pos ho] at hex1
          have hfin : ((0 : Int), s4) = res := hex1
          have Hfin := hid hfin
          clear hfin
          clear hex1 ho
          go_wp2_with fail
          exact hR'.out _ _ ⟨by rw [← Hfin.out]; rfl, by rw [← Hfin.out]; exact Hr4.out, HK4.out⟩
        | false =>
          rw [if_neg (by rw [ho]; decide)] at hex1
          clear ho
          by_cases hkk : k.toList = key.toList
          · rw [if_pos hkk] at hex1
            have hbk : (k.toList == key.toList) = true := by simpa using hkk
            have HEXA := hid hex1
            clear hex1
            clear hkk
            go_wp2_with fail
            refine (step_load Hr4.out (a + 2 + 4 * docs + 2 * mid + 1)).mono ?_
            rintro e w6 ⟨rfl, hr6, hk6⟩
            have hu6 := Hr4.out.load_u32 (a + 2 + 4 * docs + 2 * mid + 1)
            have hex1 : ((s4.load (a + 2 + 4 * docs + 2 * mid + 1)).1, (s4.load (a + 2 + 4 * docs + 2 * mid + 1)).2) = res := HEXA.out
            generalize s4.load (a + 2 + 4 * docs + 2 * mid + 1) = ls at *
            obtain ⟨v, s6⟩ := ls
            simp only at hr6 hu6 hex1
            obtain ⟨q0, q1⟩ := hu6
            have hK6 := HK4.out.trans hk6
            have Hr6 := hid hr6
            have HK6 := hid hK6
            have HEXB := hid hex1
            clear hr6 hK6 hex1
            clear hk6 HEXA
            go_wp2_with fail
            exact hR'.out _ _ ⟨by rw [← HEXB.out]; rfl, by rw [← HEXB.out]; exact Hr6.out, HK6.out⟩
          · rw [if_neg hkk] at hex1
            have hbk : (k.toList == key.toList) = false := by simpa using hkk
            clear hkk
            cases hlt2 : ltB k key with
            | true =>
              rw [if_pos hlt2] at hex1
              have hl2 : Op.bytesLess k.toList key.toList = true := hlt2
              have Hex1 := hid hex1
              clear hex1
              clear hlt2
              go_wp2_with fail
              go_roundw
              case rel => exact ⟨f, mid + 1, hi', s4, rfl, rfl, rfl, by omega, by omega, by omega, Hex1, Hr4, HK4⟩
              case measure => first | (simp [intOf]; done) | (simp [intOf]; omega)
            | false =>
              rw [if_neg (by rw [hlt2]; decide)] at hex1
              have hl2 : Op.bytesLess k.toList key.toList = false := hlt2
              have Hex1 := hid hex1
              clear hex1
              clear hlt2
              go_wp2_with fail
              go_roundw
              case rel => exact ⟨f, lo, mid, s4, rfl, rfl, rfl, by omega, by omega, by omega, Hex1, Hr4, HK4⟩
              case measure => first | (simp [intOf]; done) | (simp [intOf]; omega)
      · have hfin : ((0 : Int), s') = res := by
          have hex := HE.out
          cases f with
          | zero => exact hex
          | succ f => unfold termL at hex; rw [if_neg hlt] at hex; exact hex
        have Hfin := hid hfin
        clear hfin
        clear HE
        go_wp2_with fail
        exact hR'.out _ _ ⟨by rw [← Hfin.out], by rw [← Hfin.out]; exact HR.out, HK.out⟩
end Go.Proofs.Ytbmgmjfpoepgpaa
