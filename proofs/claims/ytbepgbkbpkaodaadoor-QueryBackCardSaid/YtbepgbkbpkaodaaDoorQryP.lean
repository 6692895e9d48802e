/- Layer 17 (query): or. -/
import Derived.Test.YtbepgbkbpkaodaaDoorQryO
namespace Go.Proofs.YtbepgbkbpkaodaaDoor
open Go.RowKit

set_option maxRecDepth 100000 in
set_option maxHeartbeats 4000000 in
theorem query_or (d : Nat) (hd : d ≤ 8) (f : List Int → PRes) (hf : Prog f) (hnot : Parses 39 d f) : Parses 24 d (listOf f orM 3) := by
  intro w b c p A rs h
  have hb0 := h.blk.lt
  have HR := hid (h.keep ((Keeps.refl _ _).alloc (fun b hb => hb) (.cells #[.int .i64 0, .int .u8 0, .slice none 0 0, .slice none 0 0] 26)))
  clear h
  have hres0 : listOf f orM 3 (rs.drop p) = match f (rs.drop p) with
    | .error e => .error e
    | .ok (n, r) => loopS f orM 3 (r.length + 1) [n] r := rfl
  generalize hresg : listOf f orM 3 (rs.drop p) = res at *
  clear hresg
  have Hres0 := hid hres0
  have Hnot := hid hnot
  clear hres0 hnot
  refine calls_hide fun R' hR' => ?_
  go_enter Tryd.func24, Tryd.ntmps24
  go_wp2_with fail
  refine (Hnot.out _ _ _ _ _ _ HR.out).mono ?_
  rintro e w1 ⟨hr1, hM1⟩
  have hB1 := (Blk.new w [.int .i64 0, .int .u8 0, .slice none 0 0, .slice none 0 0] 26).keep hM1 ⟨by simp, by omega⟩
  have hM2 := (Mv.alloc (b := b) (w := w) (.cells #[.int .i64 0, .int .u8 0, .slice none 0 0, .slice none 0 0] 26)).trans hM1
  have hs1 : w.heap.size + 1 ≤ w1.heap.size := by have := hM1.size; simpa using this
  have hre := Hres0.out
  cases hfr : f (rs.drop p) with
  | error k =>
    rw [hfr] at hr1 hre
    dsimp only at hr1 hre
    subst hr1
    have HM2 := hid hM2
    have Hre := hid hre
    clear hM2 hre
    clear hB1 hM1 HR hfr
    unfold thrown
    go_wp2_with fail
    exact post_thrown (hR'.out _ _ ⟨by rw [Hre.out]; rfl, HM2.out⟩)
  | ok x =>
    obtain ⟨n, l⟩ := x
    have hlt := hf _ _ _ hfr
    rw [hfr] at hr1 hre
    dsimp only at hr1 hre
    obtain ⟨cs, q, rfl, hN, hQ, rfl⟩ := hr1
    obtain ⟨k0, f0, A1, n1, c1, A2, n2, c2, rfl⟩ := hN.form
    have hqp : 1 ≤ q := by
      have h1 := hQ.le
      rw [List.length_drop, List.length_drop] at hlt
      omega
    have hK := KidsR.one (B := w.heap.size + 1) (w := w.alloc (.cells #[.int .i64 0, .int .u8 0, .slice none 0 0, .slice none 0 0] 26)) (T := 26) (by simp) hM1.size rfl hN
    have hQ2 := hQ.keep ((Keeps.refl _ _).alloc (fun b hb => hb) (.cells #[.int .i64 k0, .int .u8 f0, .slice A1 n1 c1, .slice A2 n2 c2] 26))
    have hM3 := hM2.trans (Mv.alloc (.cells #[.int .i64 k0, .int .u8 f0, .slice A1 n1 c1, .slice A2 n2 c2] 26))
    have hB2 := hB1.alloc (.cells #[.int .i64 k0, .int .u8 f0, .slice A1 n1 c1, .slice A2 n2 c2] 26)
    clear hB1 hM1 HR hfr hN hQ hM2 hlt
    have HM3 := hid hM3
    have Hre := hid hre
    have HK := hid hK
    have HQ2 := hid hQ2
    have HB2 := hid hB2
    clear hM3 hre hK hQ2 hB2
    go_wp2_with fail
    go_loopw [5] (fun kv wr => ∃ (kids : List Nd) (css : List (List Value)) (Ak : Option Addr) (cp q : Nat), kv = .slice Ak kids.length cp ∧ 0 < kids.length ∧ kids.length ≤ q ∧ Hid (KidsR (w.heap.size + 1) wr (.slice Ak kids.length cp) kids css) ∧ Hid (Rd wr b A c rs q) ∧ Hid (Mv b w wr) ∧ Hid (Blk wr w.heap.size [.int .i64 0, .int .u8 0, .slice none 0 0, .slice none 0 0]) ∧ Hid (res = loopS f orM 3 ((rs.drop q).length + 1) kids (rs.drop q))) (fun _ wr => rs.length - posOf b wr)
    case atStart => exact ⟨[n], [[.int .i64 k0, .int .u8 f0, .slice A1 n1 c1, .slice A2 n2 c2]], some ⟨w1.heap.size, 0, none⟩, 1, q, rfl, Nat.zero_lt_one, hqp, HK, HQ2, HM3, HB2, Hre⟩
    case round =>
      clear HM3 HK HQ2 HB2 Hre
      obtain ⟨kids, css, Ak, cp, q, rfl, hk0, hkq, HK0, HQ0, HM0, HB0, Hex⟩ := hrel
      have hpos0 := HQ0.out.pos
      go_wp2_with fail
      refine (query_sign 124 HQ0.out).mono ?_
      rintro e w2 ⟨rfl, hQ2, hM2⟩
      have hK2 := HK0.out.calls hM2 (by omega)
      have hB2 := HB0.out.keep hM2 ⟨HB0.out.lt, by omega⟩
      have hM3 := HM0.out.trans hM2
      clear HK0 HB0 HM0 HQ0 hM2
      have hqs : q ≤ signP rs q 124 := by unfold signP; have := skipB_ge rs q; split <;> omega
      cases hs : signB rs q 124 with
      | true =>
        have hmore : (orM (rs.drop q)).1 = true ∧ (orM (rs.drop q)).2 = rs.drop (signP rs q 124) := by
          unfold orM
          rw [← sign_conv, ← drop_sign, hs]; exact ⟨rfl, rfl⟩
        clear hs
        generalize signP rs q 124 = q2 at *
        have HK := hid hK2
        have HQ := hid hQ2
        have HM := hid hM3
        have HB := hid hB2
        have Hmore := hid hmore
        clear hK2 hQ2 hM3 hB2 hmore
        go_wp2_with fail
        refine (Hnot.out _ _ _ _ _ _ HQ.out).mono ?_
        rintro e w4 ⟨hr4, hM4⟩
        have hK4 := HK.out.calls hM4 (by omega)
        have hB4 := HB.out.keep hM4 ⟨HB.out.lt, by omega⟩
        have hM5 := HM.out.trans hM4
        have hs4 := hM4.size
        have hqle := HQ.out.le
        have hown0 := HK.out.own
        have hsw := HM.out.size
        have hbl := HB.out.lt
        clear HB HM
        cases hfr : f (rs.drop q2) with
        | error k =>
          have hx := Hex.out.trans (loopS_err (kind := 3) (kids := kids) Hmore.out.1 (by rw [Hmore.out.2]; exact hfr))
          rw [hfr] at hr4
          dsimp only at hr4
          subst hr4
          have Hx := hid hx
          have HM5 := hid hM5
          clear hx hM5
          clear hK4 hB4 HQ hfr hown0
          unfold thrown
          go_wp2_with fail
          exact post_thrown (hR'.out _ _ ⟨by rw [Hx.out]; rfl, HM5.out⟩)
        | ok x =>
          obtain ⟨n, l⟩ := x
          have hlt := hf _ _ _ hfr
          have hx := Hex.out.trans (loopS_next hf orM_le (kind := 3) (kids := kids) Hmore.out.1 (by rw [Hmore.out.2]; exact hfr))
          rw [hfr] at hr4
          dsimp only at hr4
          obtain ⟨cs, q4, rfl, hN, hQ4, rfl⟩ := hr4
          obtain ⟨k1, f1, B1, m1, d1, B2, m2, d2, rfl⟩ := hN.form
          have hq4 : q2 < q4 := by
            have h1 := hQ4.le
            rw [List.length_drop, List.length_drop] at hlt
            omega
          have hl256 := hQ4.len
          have hq4l := hQ4.le
          clear hfr hlt HQ
          have Hx := hid hx
          have HN := hid hN
          have HQ4 := hid hQ4
          have HK4 := hid hK4
          have HB4 := hid hB4
          have HM5 := hid hM5
          have Hown0 := hid hown0
          clear hx hN hQ4 hK4 hB4 hM5 hown0
          obtain ⟨i0, hi, hz0, hz1, hz2⟩ := info_partsF Tryd.infoNode
          go_wp2_with (at_builtin; go_must (refine wpList_append_own_at _ rfl _ _ 24 rfl ((w.heap.size + 1)) 26 i0 (.agg #[.int .i64 0, .int .u8 0, .slice none 0 0, .slice none 0 0]) 4 64 Tryd.underlying24 hi hz0 hz1 hz2 rfl (by decide) (.slice Ak kids.length cp) kids.length css.flatten rfl (ownB_keepS HK4.out.own ((Keeps.refl _ _).alloc (fun b hb => hb) _)) ⟨w4.heap.size, 0, none⟩ 1 1 [.int .i64 k1, .int .u8 f1, .slice B1 m1 d1, .slice B2 m2 d2] rfl (by simp) (own_newsS (own_lit w4 0 _ _ 4 1 [.int .i64 k1, .int .u8 f1, .slice B1 m1 d1, .slice B2 m2 d2] rfl rfl (by decide) (Nat.zero_le _))) ?_ ?_ ?_ ?_ ?_))
          all_goals (try (first | with_reducible exact one1 _ _ | with_reducible exact one2 _ _ _ | with_reducible exact one4 _ _ _ _ _ | with_reducible exact oneM _ _ | exact rfl | exact fun _ _ => rfl | exact ⟨rfl, rfl⟩ | exact ⟨rfl, rfl, rfl⟩ | exact ⟨rfl, rfl, rfl, rfl⟩ | (unfold maxLen; omega) | omega | (simp; omega) | (simp; done)))
          (try clear hi)
          (try clear hz0)
          (try clear hz1)
          (try clear hz2)
          all_goals (try (first | exact oneNode k1 f1 B1 B2 m1 d1 m2 d2 | (simp only [maxLen]; omega)))
          intro v' w7 hown hgr _ hf7
          have hk7 : Keeps (· < w.heap.size + 1) w4 w7 := keeps_grown ((Keeps.refl _ _).alloc (fun b hb => by omega) _) (by simp; omega) (ownB_keepS HK4.out.own ((Keeps.refl _ _).alloc (fun b hb => hb) _)) hgr
          have hK7 := KidsR.push (w := w2) HK4.out (by omega) (fun x hx => (ownB_lt Hown0.out hx).2) HN.out hown hgr hf7
          have hQ7 := HQ4.out.keepB (hk7.mono fun x hx => by omega)
          have hM7 : Mv b w w7 := Keeps.trans HM5.out (hk7.mono fun x hx => by have := hx.1; omega)
          have hB7 := HB4.out.keep hk7 (Nat.lt_succ_self _)
          have hpos7 := hQ7.pos
          obtain ⟨A', cp', rfl⟩ := ownB_form hown
          clear hown hgr hf7 hk7 HK HK4 HQ4 HM5 HB4 Hown0
          have HK7 := hid hK7
          have HQ7 := hid hQ7
          have HM7 := hid hM7
          have HB7 := hid hB7
          clear hK7 hQ7 hM7 hB7
          go_wp2_with fail
          go_roundw
          case rel => exact ⟨kids ++ [n], css ++ [[.int .i64 k1, .int .u8 f1, .slice B1 m1 d1, .slice B2 m2 d2]], A', cp', q4, by simp, by simp, by simp; omega, by simpa using HK7, HQ7, HM7, HB7, Hx⟩
          case measure => rw [hpos7, hpos0]; omega
      | false =>
        have hmore : (orM (rs.drop q)).1 = false ∧ (orM (rs.drop q)).2 = rs.drop (signP rs q 124) := by
          unfold orM
          rw [← sign_conv, ← drop_sign, hs]; exact ⟨rfl, rfl⟩
        clear hs
        generalize signP rs q 124 = q2 at *
        have HK := hid hK2
        have HQ := hid hQ2
        have HM := hid hM3
        have HB := hid hB2
        have Hmore := hid hmore
        clear hK2 hQ2 hM3 hB2 hmore
        go_wp2_with fail
        refine (KidsR.several HK.out hk0 3).mono ?_
        rintro e w5 ⟨k1, f1, B1, m1, d1, B2, m2, d2, rfl, hN, hk5⟩
        have hB5 := HB.out.keep hk5 HB.out.lt
        have hM5 := HM.out.trans (Mv.of_all hk5)
        have hQ5 := HQ.out.keep hk5
        have hx := Hex.out.trans (loopS_stop (f := f) (kind := 3) (kids := kids) Hmore.out.1)
        rw [Hmore.out.2] at hx
        obtain ⟨T9, hT9, hN9, hR9, hM9⟩ := res_done hN hM5 hB5 hb0 hQ5
        have hfr := hB5.free
        have y0 := (hB5).cell 0
        have y1 := (hB5).cell 1
        have y2 := (hB5).cell 2
        have y3 := (hB5).cell 3
        simp only [List.getElem?_cons_zero, List.getElem?_cons_succ] at y0 y1 y2 y3
        have HN9 := hid hN9
        have HR9 := hid hR9
        have HM9 := hid hM9
        have HT9 := hid hT9
        have Hx := hid hx
        clear hN9 hR9 hM9 hT9 hx
        clear hN hk5 hM5 hQ5 HK HB HM HQ hB5
        go_wp2_with fail
        refine bodyPost_ret (results_cell_row rfl _ _ w.heap.size T9 _ _ _ rfl HT9.out Tryd.underlying26 rfl (by kernel_rfl)) rfl ?_
        exact hR'.out _ _ ⟨by rw [Hx.out]; exact ⟨_, q2, rfl, HN9.out, HR9.out, rfl⟩, HM9.out⟩
end Go.Proofs.YtbepgbkbpkaodaaDoor
