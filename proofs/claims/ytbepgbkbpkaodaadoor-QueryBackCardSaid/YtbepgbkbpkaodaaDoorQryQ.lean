/- Layer 17 (query): not. -/
import Derived.Test.YtbepgbkbpkaodaaDoorQryP
namespace Go.Proofs.YtbepgbkbpkaodaaDoor
open Go.RowKit

theorem KidsR.node {B : Nat} {w : World} {A : Option Addr} {c : Nat} {kids : List Nd} {css : List (List Value)} (h : KidsR B w (.slice A kids.length c) kids css) (kind : Int) : NodeV w (fun x => B ≤ x ∧ x < w.heap.size) (.mk kind 0 [] kids) [.int .i64 kind, .int .u8 0, .slice none 0 0, .slice A kids.length c] := by
  refine NodeV.mk kind 0 [] kids css _ _ ⟨none, 0, rfl, Nat.le_refl _, Nat.zero_le _, rfl, fun h => absurd h (Nat.lt_irrefl _)⟩ ?_ h.len (fun i n cs h3 h4 => (h.nod i n cs h3 h4).keep (Keeps.refl _ _) (fun x hx => ⟨hx.1, hx.2.1⟩))
  exact ownB_slAtS h.own
theorem query_leafS {w : World} {b c p : Nat} {A : Option Addr} {rs : List Int} (h : Rd w b A c rs p) : Calls Tryd.prog 61 #[.pointer (some ⟨b, 0, none⟩)] w (PrsPost w b A c rs (leafS (rs.drop p))) := by
  refine (query_leaf h).mono ?_
  rintro e w' ⟨h1, hM⟩
  refine ⟨?_, hM⟩
  rw [← leaf_conv]
  cases hl : leafP rs p with
  | error k => rw [hl] at h1; exact h1
  | ok x =>
    obtain ⟨⟨f, t⟩, q⟩ := x
    rw [hl] at h1
    obtain ⟨v, rfl, hown, hR⟩ := h1
    have ef : ((relT (wordsR 0 (runesS t))).map fun x => (f, x.1, x.2)).flatMap tokG = (relT (wordsR 0 (runesS t))).flatMap (tokF f) := by
      rw [List.flatMap_map]; rfl
    refine ⟨[.int .i64 1, .int .u8 f, v, .slice none 0 0], q, rfl, ?_, hR, rfl⟩
    refine NodeV.mk 1 f _ [] [] v _ ?_ ⟨none, 0, rfl, Nat.le_refl _, Nat.zero_le _, rfl, fun h => absurd h (Nat.lt_irrefl _)⟩ rfl (fun i n cs h3 _ => by simp at h3)
    rw [ef, List.length_map]
    exact ownB_slAtS hown

set_option maxRecDepth 100000 in
set_option maxHeartbeats 8000000 in
theorem query_not : ∀ (m d : Nat), d + m = 8 → Parses 51 d (notS m) := by
  intro m
  induction m with
  | zero =>
    intro d hd w b c p A rs h
    have hb0 := h.blk.lt
    have HR := hid (h.keep ((Keeps.refl _ _).alloc (fun b hb => hb) (.cells #[.int .i64 0, .int .u8 0, .slice none 0 0, .slice none 0 0] 26)))
    clear h
    have hres0 : notS 0 (rs.drop p) = if signB rs p 33 = true then .error 9 else if signB rs (signP rs p 33) 40 = true then .error 9 else leafS (rs.drop (signP rs (signP rs p 33) 40)) := by
      rw [drop_sign, drop_sign, sign_conv, sign_conv, drop_sign]; rfl
    generalize notS 0 (rs.drop p) = res at *
    obtain rfl : d = 8 := by omega
    have Hres0 := hid hres0
    clear hres0
    refine calls_hide fun R' hR' => ?_
    go_enter Tryd.func51, Tryd.ntmps51
    go_wp2_with fail
    refine (query_sign 33 HR.out).mono ?_
    rintro e w1 ⟨rfl, hQ1, hM1⟩
    have hM2 := (Mv.alloc (b := b) (w := w) (.cells #[.int .i64 0, .int .u8 0, .slice none 0 0, .slice none 0 0] 26)).trans hM1
    have hB1 := (Blk.new w [.int .i64 0, .int .u8 0, .slice none 0 0, .slice none 0 0] 26).keep hM1 ⟨by simp, by omega⟩
    have hre := Hres0.out
    clear HR hM1 Hres0
    cases hs : signB rs p 33 with
    | true =>
      rw [hs, if_pos rfl] at hre
      have Hre := hid hre
      have HM2 := hid hM2
      have HQ1 := hid hQ1
      have HB1 := hid hB1
      clear hre hM2 hQ1 hB1
      go_wp2_with fail
      refine (query_deeper 8 (by omega) w1).mono ?_
      rintro e w2 ⟨rfl, rfl⟩
      rw [if_pos rfl]
      unfold thrown
      go_wp2_with fail
      exact post_thrown (hR'.out _ _ ⟨by rw [Hre.out]; rfl, HM2.out⟩)
    | false =>
      rw [hs, if_neg (by decide)] at hre
      have Hre := hid hre
      have HM2 := hid hM2
      have HQ1 := hid hQ1
      have HB1 := hid hB1
      clear hre hM2 hQ1 hB1
      go_wp2_with fail
      refine (query_sign 40 HQ1.out).mono ?_
      rintro e w2 ⟨rfl, hQ2, hM3⟩
      have hM4 := HM2.out.trans hM3
      have hB2 := HB1.out.keep hM3 ⟨HB1.out.lt, by omega⟩
      have hre := Hre.out
      clear HQ1 HM2 HB1 hM3 Hre
      cases hs2 : signB rs (signP rs p 33) 40 with
      | true =>
        rw [hs2, if_pos rfl] at hre
        have Hre := hid hre
        have HM4 := hid hM4
        have HQ2 := hid hQ2
        have HB2 := hid hB2
        clear hre hM4 hQ2 hB2
        go_wp2_with fail
        refine (query_deeper 8 (by omega) w2).mono ?_
        rintro e w3 ⟨rfl, rfl⟩
        rw [if_pos rfl]
        unfold thrown
        go_wp2_with fail
        exact post_thrown (hR'.out _ _ ⟨by rw [Hre.out]; rfl, HM4.out⟩)
      | false =>
        rw [hs2, if_neg (by decide)] at hre
        generalize signP rs (signP rs p 33) 40 = q at *
        have Hre := hid hre
        have HM4 := hid hM4
        have HQ2 := hid hQ2
        have HB2 := hid hB2
        clear hre hM4 hQ2 hB2
        go_wp2_with fail
        refine (query_leafS HQ2.out).mono ?_
        rintro e w4 ⟨hr4, hM5⟩
        have hM6 := HM4.out.trans hM5
        have hB4 := HB2.out.keep hM5 ⟨HB2.out.lt, by omega⟩
        have hs4 := hM5.size
        have hbl2 := HB2.out.lt
        have hre := Hre.out
        clear HM4 HB2 HQ2 hM5 Hre
        cases hfr : leafS (rs.drop q) with
        | error k =>
          rw [hfr] at hr4 hre
          dsimp only at hr4
          subst hr4
          have Hre := hid hre
          have HM6 := hid hM6
          clear hre hM6
          clear hfr
          unfold thrown
          go_wp2_with fail
          exact post_thrown (hR'.out _ _ ⟨by rw [Hre.out]; rfl, HM6.out⟩)
        | ok x =>
          obtain ⟨n, l⟩ := x
          rw [hfr] at hr4 hre
          dsimp only at hr4
          obtain ⟨cs, q4, rfl, hN, hQ4, rfl⟩ := hr4
          obtain ⟨k1, f1, B1, m1, d1, B2, m2, d2, rfl⟩ := hN.form
          have hN2 := hN.keep (Keeps.refl _ _) (K' := fun x => w.heap.size + 1 ≤ x ∧ x < w4.heap.size) (fun x hx => ⟨by have := hx.1; omega, hx.2⟩)
          have Hre := hid hre
          have HN2 := hid hN2
          have HM := hid hM6
          have HB := hid hB4
          have HQ := hid hQ4
          clear hre hN2 hM6 hB4 hQ4
          clear hfr hN
          obtain ⟨T9, hT9, hN9, hR9, hM9⟩ := res_done HN2.out HM.out HB.out hb0 HQ.out
          have hfr := HB.out.free
          have hBB := HB.out
          have y0 := (hBB).cell 0
          have y1 := (hBB).cell 1
          have y2 := (hBB).cell 2
          have y3 := (hBB).cell 3
          simp only [List.getElem?_cons_zero, List.getElem?_cons_succ] at y0 y1 y2 y3
          have HN9 := hid hN9
          have HR9 := hid hR9
          have HM9 := hid hM9
          have HT9 := hid hT9
          clear hN9 hR9 hM9 hT9
          clear HM HB HQ hBB
          go_wp2_with fail
          refine bodyPost_ret (results_cell_row rfl _ _ w.heap.size T9 _ _ _ rfl HT9.out Tryd.underlying26 rfl (by kernel_rfl)) rfl ?_
          exact hR'.out _ _ ⟨by rw [Hre.out]; exact ⟨_, q4, rfl, HN9.out, HR9.out, rfl⟩, HM9.out⟩
  | succ m ih =>
    intro d hd w b c p A rs h
    have hb0 := h.blk.lt
    have HR := hid (h.keep ((Keeps.refl _ _).alloc (fun b hb => hb) (.cells #[.int .i64 0, .int .u8 0, .slice none 0 0, .slice none 0 0] 26)))
    clear h
    have hres0 : notS (m + 1) (rs.drop p) = if signB rs p 33 = true then (match notS m (rs.drop (signP rs p 33)) with | .error e => .error e | .ok (n, r) => .ok (.mk 4 0 [] [n], r)) else if signB rs (signP rs p 33) 40 = true then (match orOf (notS m) (rs.drop (signP rs (signP rs p 33) 40)) with | .error e => .error e | .ok (n, r) => if signS 41 r = true then .ok (n, afterS 41 r) else .error 8) else leafS (rs.drop (signP rs (signP rs p 33) 40)) := by
      rw [drop_sign, drop_sign, sign_conv, sign_conv, drop_sign]; rfl
    generalize notS (m + 1) (rs.drop p) = res at *
    have ih1 := ih (d + 1) (by omega)
    have hor := query_or (d + 1) (by omega) (andOf (notS m)) (andOf_prog (notS_prog m)) (query_and (d + 1) (by omega) (notS m) (notS_prog m) ih1)
    have hd8 : ¬ d = 8 := by omega
    have hd7 : d ≤ 7 := by omega
    clear hd
    have Hres0 := hid hres0
    have Ih1 := hid ih1
    have Hor := hid hor
    clear hres0 ih1 hor
    clear ih
    refine calls_hide fun R' hR' => ?_
    go_enter Tryd.func51, Tryd.ntmps51
    go_wp2_with fail
    refine (query_sign 33 HR.out).mono ?_
    rintro e w1 ⟨rfl, hQ1, hM1⟩
    have hM2 := (Mv.alloc (b := b) (w := w) (.cells #[.int .i64 0, .int .u8 0, .slice none 0 0, .slice none 0 0] 26)).trans hM1
    have hB1 := (Blk.new w [.int .i64 0, .int .u8 0, .slice none 0 0, .slice none 0 0] 26).keep hM1 ⟨by simp, by omega⟩
    have hre := Hres0.out
    clear HR hM1 Hres0
    cases hs : signB rs p 33 with
    | true =>
      rw [hs, if_pos rfl] at hre
      have Hre := hid hre
      have HM2 := hid hM2
      have HQ1 := hid hQ1
      have HB1 := hid hB1
      clear hre hM2 hQ1 hB1
      go_wp2_with fail
      refine (query_deeper d (by omega) w1).mono ?_
      rintro e w2 ⟨rfl, rfl⟩
      rw [if_neg hd8]
      go_wp2_with fail
      refine (Ih1.out _ _ _ _ _ _ HQ1.out).mono ?_
      rintro e w4 ⟨hr4, hM5⟩
      have hM6 := HM2.out.trans hM5
      have hB4 := HB1.out.keep hM5 ⟨HB1.out.lt, by omega⟩
      have hs4 := hM5.size
      have hbl2 := HB1.out.lt
      have hre := Hre.out
      clear HM2 HB1 HQ1 Hre
      cases hfr : notS m (rs.drop (signP rs p 33)) with
      | error k =>
        rw [hfr] at hr4 hre
        dsimp only at hr4 hre
        subst hr4
        have Hre := hid hre
        have HM6 := hid hM6
        clear hre hM6
        clear hfr
        unfold thrown
        go_wp2_with fail
        exact post_thrown (hR'.out _ _ ⟨by rw [Hre.out]; rfl, HM6.out⟩)
      | ok x =>
        obtain ⟨n, l⟩ := x
        rw [hfr] at hr4 hre
        dsimp only at hr4 hre
        obtain ⟨cs, q4, rfl, hN, hQ4, rfl⟩ := hr4
        obtain ⟨k1, f1, B1, m1, d1, B2, m2, d2, rfl⟩ := hN.form
        have hK := KidsR.one (B := w.heap.size + 1) (w := w1) (T := 26) (by omega) hs4 rfl hN
        have hN2 := KidsR.node (kids := [n]) (c := 1) hK 4
        have hQ7 := hQ4.keep ((Keeps.refl _ _).alloc (fun b hb => hb) (.cells #[.int .i64 k1, .int .u8 f1, .slice B1 m1 d1, .slice B2 m2 d2] 26))
        have hM7 := hM6.trans (Mv.alloc (.cells #[.int .i64 k1, .int .u8 f1, .slice B1 m1 d1, .slice B2 m2 d2] 26))
        have hB7 := hB4.alloc (.cells #[.int .i64 k1, .int .u8 f1, .slice B1 m1 d1, .slice B2 m2 d2] 26)
        have Hre := hid hre
        have HN2 := hid hN2
        have HM := hid hM7
        have HB := hid hB7
        have HQ := hid hQ7
        clear hre hN2 hM7 hB7 hQ7
        clear hfr hN hK hM6 hB4 hQ4 hM5
        obtain ⟨T9, hT9, hN9, hR9, hM9⟩ := res_done HN2.out HM.out HB.out hb0 HQ.out
        have hfr := HB.out.free
        have hBB := HB.out
        have y0 := (hBB).cell 0
        have y1 := (hBB).cell 1
        have y2 := (hBB).cell 2
        have y3 := (hBB).cell 3
        simp only [List.getElem?_cons_zero, List.getElem?_cons_succ] at y0 y1 y2 y3
        have HN9 := hid hN9
        have HR9 := hid hR9
        have HM9 := hid hM9
        have HT9 := hid hT9
        clear hN9 hR9 hM9 hT9
        clear HM HB HQ hBB
        go_wp2_with fail
        refine bodyPost_ret (results_cell_row rfl _ _ w.heap.size T9 _ _ _ rfl HT9.out Tryd.underlying26 rfl (by kernel_rfl)) rfl ?_
        exact hR'.out _ _ ⟨by rw [Hre.out]; exact ⟨_, q4, rfl, HN9.out, HR9.out, rfl⟩, HM9.out⟩
    | false =>
      rw [hs, if_neg (by decide)] at hre
      have Hre := hid hre
      have HM2 := hid hM2
      have HQ1 := hid hQ1
      have HB1 := hid hB1
      clear hre hM2 hQ1 hB1
      go_wp2_with fail
      refine (query_sign 40 HQ1.out).mono ?_
      rintro e w2 ⟨rfl, hQ2, hM3⟩
      have hM4 := HM2.out.trans hM3
      have hB2 := HB1.out.keep hM3 ⟨HB1.out.lt, by omega⟩
      have hre := Hre.out
      clear HQ1 HM2 HB1 hM3 Hre
      cases hs2 : signB rs (signP rs p 33) 40 with
      | true =>
        rw [hs2, if_pos rfl] at hre
        have Hre := hid hre
        have HM4 := hid hM4
        have HQ2 := hid hQ2
        have HB2 := hid hB2
        clear hre hM4 hQ2 hB2
        go_wp2_with fail
        refine (query_deeper d (by omega) w2).mono ?_
        rintro e w3 ⟨rfl, rfl⟩
        rw [if_neg hd8]
        go_wp2_with fail
        refine (Hor.out _ _ _ _ _ _ HQ2.out).mono ?_
        rintro e w4 ⟨hr4, hM5⟩
        have hM6 := HM4.out.trans hM5
        have hB4 := HB2.out.keep hM5 ⟨HB2.out.lt, by omega⟩
        have hs4 := hM5.size
        have hbl2 := HB2.out.lt
        have hre := Hre.out
        have eo : orOf (notS m) (rs.drop (signP rs (signP rs p 33) 40)) = listOf (andOf (notS m)) orM 3 (rs.drop (signP rs (signP rs p 33) 40)) := rfl
        rw [← eo] at hr4
        clear HM4 HB2 HQ2 Hre eo
        cases hfr : orOf (notS m) (rs.drop (signP rs (signP rs p 33) 40)) with
        | error k =>
          rw [hfr] at hr4 hre
          dsimp only at hr4 hre
          subst hr4
          have Hre := hid hre
          have HM6 := hid hM6
          clear hre hM6
          clear hfr
          unfold thrown
          go_wp2_with fail
          exact post_thrown (hR'.out _ _ ⟨by rw [Hre.out]; rfl, HM6.out⟩)
        | ok x =>
          obtain ⟨n, l⟩ := x
          rw [hfr] at hr4 hre
          dsimp only at hr4 hre
          obtain ⟨cs, q4, rfl, hN, hQ4, rfl⟩ := hr4
          obtain ⟨k1, f1, B1, m1, d1, B2, m2, d2, rfl⟩ := hN.form
          have hQ7 := hQ4.keep ((Keeps.refl _ _).alloc (fun b hb => hb) (.cells #[.int .i64 k1, .int .u8 f1, .slice B1 m1 d1, .slice B2 m2 d2] 26))
          have hM7 := hM6.trans (Mv.alloc (.cells #[.int .i64 k1, .int .u8 f1, .slice B1 m1 d1, .slice B2 m2 d2] 26))
          have hB7 := hB4.alloc (.cells #[.int .i64 k1, .int .u8 f1, .slice B1 m1 d1, .slice B2 m2 d2] 26)
          have hX7 := Blk.new w4 [.int .i64 k1, .int .u8 f1, .slice B1 m1 d1, .slice B2 m2 d2] 26
          have hN7 := hN.keep (w' := w4.alloc (.cells #[.int .i64 k1, .int .u8 f1, .slice B1 m1 d1, .slice B2 m2 d2] 26)) ((Keeps.refl _ _).alloc (fun b hb => hb.2) _) (K' := fun x => w.heap.size + 1 ≤ x ∧ x < w4.heap.size) (fun x hx => ⟨by have := hx.1; omega, hx.2⟩)
          have hb4 := hQ4.blk.lt
          rw [← sign_conv, ← drop_sign] at hre
          have Hre := hid hre
          have HN7 := hid hN7
          have HM7 := hid hM7
          have HB7 := hid hB7
          have HQ7 := hid hQ7
          have HX7 := hid hX7
          clear hre hN7 hM7 hB7 hQ7 hX7
          clear hfr hN hM6 hB4 hQ4 hM5
          go_wp2_with fail
          refine (query_sign 41 HQ7.out).mono ?_
          rintro e w5 ⟨rfl, hQ8, hM8⟩
          have hM9 := HM7.out.trans hM8
          have hB9 := HB7.out.keep hM8 ⟨HB7.out.lt, by omega⟩
          have hX9 := HX7.out.keep hM8 ⟨HX7.out.lt, by omega⟩
          have hs9 := hM8.size
          rw [World.size_alloc] at hs9
          have hN9 := HN7.out.keep (hM8.mono fun x hx => ⟨by have := hx.2; rw [World.size_alloc]; omega, by have := hx.1; omega⟩) (K' := fun x => w.heap.size + 1 ≤ x ∧ x < w5.heap.size) (fun x hx => ⟨hx.1, by have := hx.2; omega⟩)
          have hre := Hre.out
          clear HM7 HB7 HX7 HQ7 HN7 hM8 Hre
          cases hs3 : signB rs q4 41 with
          | true =>
            rw [hs3, if_pos rfl] at hre
            have x0 := (hX9).cell 0
            have x1 := (hX9).cell 1
            have x2 := (hX9).cell 2
            have x3 := (hX9).cell 3
            simp only [List.getElem?_cons_zero, List.getElem?_cons_succ] at x0 x1 x2 x3
            generalize signP rs q4 41 = q5 at *
            have Hre := hid hre
            have HN := hid hN9
            have HM := hid hM9
            have HB := hid hB9
            have HQ := hid hQ8
            clear hre hN9 hM9 hB9 hQ8
            clear hX9
            obtain ⟨T9, hT9, hN9, hR9, hM9⟩ := res_done HN.out HM.out HB.out hb0 HQ.out
            have hfr := HB.out.free
            have hBB := HB.out
            have y0 := (hBB).cell 0
            have y1 := (hBB).cell 1
            have y2 := (hBB).cell 2
            have y3 := (hBB).cell 3
            simp only [List.getElem?_cons_zero, List.getElem?_cons_succ] at y0 y1 y2 y3
            have HN9 := hid hN9
            have HR9 := hid hR9
            have HM9 := hid hM9
            have HT9 := hid hT9
            clear hN9 hR9 hM9 hT9
            clear HM HB HQ hBB
            go_wp2_with fail
            refine bodyPost_ret (results_cell_row rfl _ _ w.heap.size T9 _ _ _ rfl HT9.out Tryd.underlying26 rfl (by kernel_rfl)) rfl ?_
            exact hR'.out _ _ ⟨by rw [Hre.out]; exact ⟨_, q5, rfl, HN9.out, HR9.out, rfl⟩, HM9.out⟩
          | false =>
            rw [hs3, if_neg (by decide)] at hre
            have Hre := hid hre
            have HM9 := hid hM9
            clear hre hM9
            clear hX9 hN9 hB9 hQ8
            go_wp2_with fail
            exact post_thrown (hR'.out _ _ ⟨by rw [Hre.out]; rfl, HM9.out⟩)
      | false =>
        rw [hs2, if_neg (by decide)] at hre
        generalize signP rs (signP rs p 33) 40 = q at *
        have Hre := hid hre
        have HM4 := hid hM4
        have HQ2 := hid hQ2
        have HB2 := hid hB2
        clear hre hM4 hQ2 hB2
        go_wp2_with fail
        refine (query_leafS HQ2.out).mono ?_
        rintro e w4 ⟨hr4, hM5⟩
        have hM6 := HM4.out.trans hM5
        have hB4 := HB2.out.keep hM5 ⟨HB2.out.lt, by omega⟩
        have hs4 := hM5.size
        have hbl2 := HB2.out.lt
        have hre := Hre.out
        clear HM4 HB2 HQ2 hM5 Hre
        cases hfr : leafS (rs.drop q) with
        | error k =>
          rw [hfr] at hr4 hre
          dsimp only at hr4
          subst hr4
          have Hre := hid hre
          have HM6 := hid hM6
          clear hre hM6
          clear hfr
          unfold thrown
          go_wp2_with fail
          exact post_thrown (hR'.out _ _ ⟨by rw [Hre.out]; rfl, HM6.out⟩)
        | ok x =>
          obtain ⟨n, l⟩ := x
          rw [hfr] at hr4 hre
          dsimp only at hr4
          obtain ⟨cs, q4, rfl, hN, hQ4, rfl⟩ := hr4
          obtain ⟨k1, f1, B1, m1, d1, B2, m2, d2, rfl⟩ := hN.form
          have hN2 := hN.keep (Keeps.refl _ _) (K' := fun x => w.heap.size + 1 ≤ x ∧ x < w4.heap.size) (fun x hx => ⟨by have := hx.1; omega, hx.2⟩)
          have Hre := hid hre
          have HN2 := hid hN2
          have HM := hid hM6
          have HB := hid hB4
          have HQ := hid hQ4
          clear hre hN2 hM6 hB4 hQ4
          clear hfr hN
          obtain ⟨T9, hT9, hN9, hR9, hM9⟩ := res_done HN2.out HM.out HB.out hb0 HQ.out
          have hfr := HB.out.free
          have hBB := HB.out
          have y0 := (hBB).cell 0
          have y1 := (hBB).cell 1
          have y2 := (hBB).cell 2
          have y3 := (hBB).cell 3
          simp only [List.getElem?_cons_zero, List.getElem?_cons_succ] at y0 y1 y2 y3
          have HN9 := hid hN9
          have HR9 := hid hR9
          have HM9 := hid hM9
          have HT9 := hid hT9
          clear hN9 hR9 hM9 hT9
          clear HM HB HQ hBB
          go_wp2_with fail
          refine bodyPost_ret (results_cell_row rfl _ _ w.heap.size T9 _ _ _ rfl HT9.out Tryd.underlying26 rfl (by kernel_rfl)) rfl ?_
          exact hR'.out _ _ ⟨by rw [Hre.out]; exact ⟨_, q4, rfl, HN9.out, HR9.out, rfl⟩, HM9.out⟩
/-- the whole tree -/
def rootS (l : List Int) : PRes := orOf (notS 8) l
theorem query_root : Parses 24 0 rootS := query_or 0 (by omega) (andOf (notS 8)) (andOf_prog (notS_prog 8)) (query_and 0 (by omega) (notS 8) (notS_prog 8) (query_not 8 0 rfl))
end Go.Proofs.YtbepgbkbpkaodaaDoor
