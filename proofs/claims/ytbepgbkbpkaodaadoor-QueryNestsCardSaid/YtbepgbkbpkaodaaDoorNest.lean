/- QueryNests: the walk. -/
import Derived.Test.YtbepgbkbpkaodaaDoorNestP
import Derived.Test.YtbepgbkbpkaodaaDoorBlank
import Derived.Test.YtbepgbkbpkaodaaDoorPartsW
namespace Go.Proofs.YtbepgbkbpkaodaaDoor
open Go.RowKit

theorem nest_cells {w : World} {K : Nat → Prop} {n : Nat} {x : Nd} {x0 x1 x2 x3 : Value} (h : NodeV w K (nestN (n + 1) x) [x0, x1, x2, x3]) : ∃ f v1 b off c k f2 E1 m1 d1 E2 m2 d2, x0 = .int .i64 4 ∧ x1 = .int .u8 f ∧ x2 = v1 ∧ x3 = .slice (some ⟨b, off, none⟩) 1 c ∧ K b ∧ w.cell? ⟨b, off, none⟩ = some (.int .i64 k) ∧ w.cell? ⟨b, off + 1, none⟩ = some (.int .u8 f2) ∧ w.cell? ⟨b, off + 2, none⟩ = some (.slice E1 m1 d1) ∧ w.cell? ⟨b, off + 3, none⟩ = some (.slice E2 m2 d2) ∧ NodeV w K (nestN n x) [.int .i64 k, .int .u8 f2, .slice E1 m1 d1, .slice E2 m2 d2] := by
  cases h with
  | mk _ _ _ _ css v1 v2 h1 h2 hl hk =>
    match css, hl with
    | [cs], _ =>
      have q := hk 0 _ cs rfl rfl
      obtain ⟨k, f, A1, n1, c1, A2, n2, c2, rfl⟩ := q.form
      obtain ⟨A, cap, rfl, _, _, _, h5⟩ := h2
      obtain ⟨b, off, rfl, hb, hc⟩ := h5 Nat.zero_lt_one
      exact ⟨_, _, b, off, cap, k, _, _, _, _, _, _, _, rfl, rfl, rfl, rfl, hb, hc 0 _ rfl, hc 1 _ rfl, hc 2 _ rfl, hc 3 _ rfl, q⟩
theorem leaf_cells {w : World} {K : Nat → Prop} {ts : List (Int × ByteArray × Int)} {x0 x1 x2 x3 : Value} (h : NodeV w K (nestN 0 (.mk 1 0 ts [])) [x0, x1, x2, x3]) : x0 = .int .i64 1 := by
  cases h with
  | mk _ _ _ _ css v1 v2 h1 h2 hl hk => rfl

set_option maxRecDepth 100000 in
set_option maxHeartbeats 8000000 in
theorem law17_nests (kb kn : Int) (s : ByteArray) (hkb : 0 ≤ kb ∧ kb ≤ 255) (hkn : 0 ≤ kn ∧ kn ≤ 255) (w : World) (hT : FoldTab w) : Calls Tryd.prog 5 #[.int .u8 kb, .int .u8 kn, .string s] w fun e w' => e = .returned (.bool true) ∧ Keeps (· < w.heap.size) w w' := by
  have HT := hid hT
  clear hT
  obtain ⟨b, hb⟩ : ∃ b : Nat, kb % 14 = (b : Int) := ⟨(kb % 14).toNat, by omega⟩
  obtain ⟨n, hn⟩ : ∃ n : Nat, kn % 14 = (n : Int) := ⟨(kn % 14).toNat, by omega⟩
  have hb13 : b ≤ 13 := by omega
  have hn13 : n ≤ 13 := by omega
  obtain ⟨hkb0, hkb1⟩ := hkb
  obtain ⟨hkn0, hkn1⟩ := hkn
  refine calls_hide fun R' hR' => ?_
  go_enter Tryd.func5, Tryd.ntmps5
  have HB0 := hid hb
  have HN0 := hid hn
  clear hb hn
  go_upto_region 2 with fail
  rw [HB0.out, HN0.out]
  clear HB0 HN0 hkb0 hkb1 hkn0 hkn1
  go_cut [49] from 19 to 49 (fun bv wx => ∃ bad : Bool, bv = .bool bad ∧ Hid (bad = false → s.size ≤ 40 ∧ ∃ t, partsR (runesS s) = [(119, t)]) ∧ Hid (Keeps (· < w.heap.size) w wx))
  case first =>
    by_cases h40 : 40 < s.size
    · have h40I : 40 < (s.size : Int) := by omega
      go_wp2_with fail
      go_meet
      case rel => exact ⟨true, rfl, hid (fun h => absurd h (by decide)), hid (Keeps.refl _ _)⟩
    have h40I : ¬ 40 < (s.size : Int) := by omega
    go_wp2_with fail
    refine (ref6_all s (by omega) w).mono ?_
    rintro e w1 ⟨v, rfl, hO, hk1⟩
    obtain ⟨A, c, rfl⟩ := ownB_form hO
    clear hO
    by_cases h1 : (allS s).length = 1
    · have hb1 : (((allS s).length : Int) != 1) = false := by simp [h1]
      have Hk1 := hid hk1
      clear hk1
      go_wp2_with fail
      refine (ref6_all s (by omega) w1).mono ?_
      rintro e w2 ⟨v, rfl, hO, hk2⟩
      obtain ⟨g, c, rfl⟩ := ownB_posS hO (by omega)
      obtain ⟨⟨tx, p⟩, hx⟩ : ∃ x, (allS s)[0]? = some x := ⟨_, List.getElem?_eq_getElem (by omega)⟩
      have hc1 := own_newsS hO 1 (.string tx) (by
        cases ha : allS s with
        | nil => rw [ha] at hx; cases hx
        | cons y t => rw [ha] at hx; injection hx with hx; subst hx; rfl)
      rw [Addr.add_lit, Nat.zero_add] at hc1
      have hk3 := Hk1.out.trans (hk2.mono fun b hb => Nat.lt_of_lt_of_le hb Hk1.out.size)
      have hl1 : (allS s).length = 1 := h1
      clear hO hk2 Hk1 hx hb1
      rw [hl1]
      clear hl1 h1
      have Hk3 := hid hk3
      clear hk3
      by_cases he : tx.size = 0
      · have hte := empty_size he
        clear he
        go_wp2_with fail
        go_meet
        case rel => exact ⟨true, rfl, hid (fun h => absurd h (by decide)), Hk3⟩
      · have hte := empty_size_ne he
        clear he
        go_wp2_with fail
        refine (ref17_parts s (by omega) w2).mono ?_
        rintro e w3 ⟨v, rfl, hP⟩
        obtain ⟨A3, c3, rfl⟩ := ownB_form hP.1
        have hk4 := Hk3.out.trans (hP.2.mono fun b hb => Nat.lt_of_lt_of_le hb Hk3.out.size)
        clear hP Hk3 hc1
        by_cases h1 : (partsR (runesS s)).length = 1
        · have hb1 : (((partsR (runesS s)).length : Int) != 1) = false := by simp [h1]
          have Hk4 := hid hk4
          clear hk4
          go_wp2_with fail
          refine (ref17_parts s (by omega) w3).mono ?_
          rintro e w4 ⟨v, rfl, hP⟩
          obtain ⟨g, c, rfl⟩ := ownB_posS hP.1 (by omega)
          obtain ⟨kc, tt, hpp⟩ : ∃ kc tt, partsR (runesS s) = [(kc, tt)] := by
            match hq : partsR (runesS s), h1 with
            | [(kc, tt)], _ => exact ⟨kc, tt, rfl⟩
          have hc1 := own_newsS hP.1 0 (.int .i32 kc) (by rw [hpp]; rfl)
          rw [Addr.add_lit, Nat.zero_add] at hc1
          have hk5 := Hk4.out.trans (hP.2.mono fun b hb => Nat.lt_of_lt_of_le hb Hk4.out.size)
          clear hP Hk4 hb1
          rw [h1]
          clear h1
          by_cases h119 : kc = 119
          · have hkb : (kc != 119) = false := by simp [h119]
            have hgood : s.size ≤ 40 ∧ ∃ t, partsR (runesS s) = [(119, t)] := ⟨by omega, tt, by rw [hpp, h119]⟩
            clear hpp h119
            have Hk5 := hid hk5
            have Hgood := hid hgood
            clear hk5 hgood
            go_wp2_with fail
            go_meet
            case rel => exact ⟨false, rfl, hid (fun _ => Hgood.out), Hk5⟩
          · have hkb : (kc != 119) = true := by simpa using h119
            clear hpp h119
            have Hk5 := hid hk5
            clear hk5
            go_wp2_with fail
            go_meet
            case rel => exact ⟨true, rfl, hid (fun h => absurd h (by decide)), Hk5⟩
        · have hb1 : (((partsR (runesS s)).length : Int) != 1) = true := by simp; omega
          clear h1
          generalize (partsR (runesS s)).length = pl at *
          have Hk4 := hid hk4
          clear hk4
          go_wp2_with fail
          go_meet
          case rel => exact ⟨true, rfl, hid (fun h => absurd h (by decide)), Hk4⟩
    · have hb1 : (((allS s).length : Int) != 1) = true := by simp; omega
      clear h1
      generalize (allS s).length = al at *
      have Hk1 := hid hk1
      clear hk1
      go_wp2_with fail
      go_meet
      case rel => exact ⟨true, rfl, hid (fun h => absurd h (by decide)), Hk1⟩
  case rest =>
    obtain ⟨bad, rfl, HB, HK⟩ := hcut
    cases bad with
    | true =>
      have hT2 := HT.out.keep HK.out
      have HT2 := hid hT2
      clear hT2
      go_wp2_with fail
      refine (law17_fixed _ HT2.out).mono ?_
      rintro e w2 ⟨rfl, hk2⟩
      have hk3 := HK.out.trans (hk2.mono fun b hb => Nat.lt_of_lt_of_le hb HK.out.size)
      clear hk2
      have Hk3 := hid hk3
      clear hk3
      go_wp2_with fail
      exact hR'.out _ _ ⟨rfl, Hk3.out⟩
    | false =>
      obtain ⟨h40, t, hp⟩ := HB.out rfl
      obtain ⟨lx, hps⟩ := parse_nests s b n h40 hb13 hn13 t hp
      clear HB hp
      obtain ⟨wq, hwq⟩ : ∃ x, x = wc := ⟨_, rfl⟩
      rw [← hwq] at HK ⊢
      clear hwq
      have Hps := hid hps
      clear hps
      go_wp2_with fail
      go_loopw [9, 53] (fun sv jv wx => ∃ j : Nat, sv = .string (brkT j s) ∧ jv = .int .i64 (j : Int) ∧ j ≤ b ∧ wq = wx) (fun _ jv _ => b - (intOf jv).toNat)
      case atStart => exact ⟨0, rfl, rfl, Nat.zero_le _, rfl⟩
      case round =>
        obtain ⟨j, rfl, rfl, hj, rfl⟩ := hrel
        by_cases hjb : j < b
        · have hjI : (j : Int) < (b : Int) := by omega
          have ebr : (⟨#[40]⟩ : ByteArray) ++ brkT j s ++ (⟨#[41]⟩ : ByteArray) = brkT (j + 1) s := rfl
          have hbz : (brkT j s).size ≤ 66 := by have := nestT_size s j 0; have e : notT 0 (brkT j s) = brkT j s := rfl; rw [e] at this; omega
          have e9 : ∀ x : ByteArray, x = brkT (j + 1) s → Hid (x = brkT (j + 1) s) := fun _ h => h
          have Ebr := e9 _ ebr
          clear ebr e9
          generalize brkT j s = bt at *
          go_wp2_with fail
          go_roundw
          case rel => exact ⟨j + 1, by rw [Ebr.out], by go_num, by omega, by first | trivial | rfl⟩
          case measure => first | (simp [intOf]; done) | (simp [intOf]; omega)
        · obtain rfl : j = b := by omega
          have hjI : ¬ (j : Int) < (j : Int) := by omega
          go_wp2_with fail
          go_loopw [9, 60] (fun sv jv wx => ∃ i : Nat, sv = .string (notT i (brkT j s)) ∧ jv = .int .i64 (i : Int) ∧ i ≤ n ∧ wq = wx) (fun _ jv _ => n - (intOf jv).toNat)
          case atStart => exact ⟨0, rfl, rfl, Nat.zero_le _, rfl⟩
          case round =>
            obtain ⟨i, rfl, rfl, hi, rfl⟩ := hrel
            by_cases hin : i < n
            · have hiI : (i : Int) < (n : Int) := by omega
              have ebr : (⟨#[33]⟩ : ByteArray) ++ notT i (brkT j s) = notT (i + 1) (brkT j s) := rfl
              have hbz : (notT i (brkT j s)).size ≤ 79 := by rw [nestT_size]; omega
              have e9 : ∀ x : ByteArray, x = notT (i + 1) (brkT j s) → Hid (x = notT (i + 1) (brkT j s)) := fun _ h => h
              have Ebr := e9 _ ebr
              clear ebr e9
              generalize notT i (brkT j s) = bt at *
              go_wp2_with fail
              go_roundw
              case rel => exact ⟨i + 1, by rw [Ebr.out], by go_num, by omega, by first | trivial | rfl⟩
              case measure => first | (simp [intOf]; done) | (simp [intOf]; omega)
            · obtain rfl : i = n := by omega
              have hiI : ¬ (i : Int) < (i : Int) := by omega
              have hpq := Hps.out
              generalize notT i (brkT j s) = tq at *
              have hT2 := HT.out.keep HK.out
              have HT2 := hid hT2
              have Hpq := hid hpq
              clear hT2 hpq
              clear Hps
              go_wp2_with fail
              refine (query_parseQ tq _ HT2.out).mono ?_
              rintro e w2 ⟨k1, f1, A1, n1, c1, A2, n2, c2, li, o, er, rfl, hQ, hk1⟩
              rw [Hpq.out] at hQ
              have hs1 := hk1.size
              have hka : Keeps (· < w2.heap.size) w2 (w2.alloc (.cells #[.int .i64 k1, .int .u8 f1, .slice A1 n1 c1, .slice A2 n2 c2, .int .i64 li, .int .i64 o] 28)) := (Keeps.refl _ _).alloc (fun b hb => hb) _
              have hsq := HK.out.size
              have hk12 := hk1.trans (hka.mono fun b hb => by omega)
              have hkk := HK.out.trans (hk12.mono fun b hb => by omega)
              have hT3 := HT.out.keep hkk
              by_cases h8 : 8 < i + j
              · rw [if_pos h8] at hQ
                obtain ⟨rfl, he⟩ := hQ
                simp only [List.cons.injEq, Value.int.injEq, Value.slice.injEq, true_and, and_true] at he
                obtain ⟨rfl, rfl, ⟨rfl, rfl, rfl⟩, ⟨rfl, rfl, rfl⟩, rfl, rfl⟩ := he
                have h8I : 8 < (j : Int) + (i : Int) := by omega
                clear hk1 hka hk12 HT2
                have Hkk := hid hkk
                have HT3 := hid hT3
                clear hkk hT3
                go_wp2_with fail
                refine (law17_fixed _ HT3.out).mono ?_
                rintro e w3 ⟨rfl, hk3⟩
                have hk9 := Hkk.out.trans (hk3.mono fun b hb => Nat.lt_of_lt_of_le hb Hkk.out.size)
                clear hk3
                have Hk9 := hid hk9
                clear hk9
                go_wp2_with fail
                exact hR'.out _ _ ⟨rfl, Hk9.out⟩
              · rw [if_neg h8] at hQ
                obtain ⟨rfl, x0, x1, x2, x3, ex, hN⟩ := hQ
                simp only [List.cons.injEq, Value.int.injEq, true_and, and_true] at ex
                obtain ⟨rfl, rfl, rfl, rfl, rfl, rfl⟩ := ex
                have h8I : ¬ 8 < (j : Int) + (i : Int) := by omega
                have hN2 := hN.keep (hka.mono fun b hb => hb.2) (K' := fun x => x < w2.heap.size) (fun b hb => hb.2)
                have hBq := Blk.new w2 [.int .i64 k1, .int .u8 f1, .slice A1 n1 c1, .slice A2 n2 c2, .int .i64 10, .int .i64 0] 28
                clear hN hk1 hka hk12 HT2 hT3
                have y0 := (hBq).cell 0
                have y1 := (hBq).cell 1
                have y2 := (hBq).cell 2
                have y3 := (hBq).cell 3
                have y4 := (hBq).cell 4
                have y5 := (hBq).cell 5
                simp only [List.getElem?_cons_zero, List.getElem?_cons_succ] at y0 y1 y2 y3 y4 y5
                clear hBq
                have hN3 := hN2.keep (w' := (w2.alloc (.cells #[.int .i64 k1, .int .u8 f1, .slice A1 n1 c1, .slice A2 n2 c2, .int .i64 10, .int .i64 0] 28)).alloc (.cells #[.int .i64 k1, .int .u8 f1, .slice A1 n1 c1, .slice A2 n2 c2] 26)) ((Keeps.refl _ _).alloc (fun b hb => by rw [World.size_alloc]; omega) _) (K' := fun x => x < w2.heap.size) (fun b hb => hb)
                have hB3 := Blk.new' (w2.alloc (.cells #[.int .i64 k1, .int .u8 f1, .slice A1 n1 c1, .slice A2 n2 c2, .int .i64 10, .int .i64 0] 28)) [.int .i64 k1, .int .u8 f1, .slice A1 n1 c1, .slice A2 n2 c2] 26 (b := w2.heap.size + 1) (by rw [World.size_alloc])
                have hk3 := hkk.alloc (fun b hb => by rw [World.size_alloc]; omega) (.cells #[.int .i64 k1, .int .u8 f1, .slice A1 n1 c1, .slice A2 n2 c2] 26)
                clear hkk hN2
                have HN3 := hid hN3
                have HB3 := hid hB3
                have Hk3 := hid hk3
                clear hN3 hB3 hk3
                go_wp2_with fail
                go_loopw [82] (fun cv wx => ∃ (q : Nat) (x0 x1 x2 x3 : Value), cv = .int .i64 (q : Int) ∧ q ≤ i ∧ Hid (Blk wx (w2.heap.size + 1) [x0, x1, x2, x3]) ∧ Hid (NodeV wx (fun x => x < w2.heap.size) (nestN (i - q) (.mk 1 0 lx [])) [x0, x1, x2, x3]) ∧ Hid (Keeps (· < w.heap.size) w wx)) (fun cv _ => i - (intOf cv).toNat)
                case atStart => exact ⟨0, _, _, _, _, rfl, Nat.zero_le _, HB3, HN3, Hk3⟩
                case round =>
                  clear HB3 HN3 Hk3 y0 y1 y2 y3 y4 y5
                  obtain ⟨q, x0, x1, x2, x3, rfl, hq, HB, HN, HKK⟩ := hrel
                  by_cases hqi : q < i
                  · have hqI : (q : Int) < (i : Int) := by omega
                    have hN := HN.out
                    rw [show i - q = (i - (q + 1)) + 1 by omega] at hN
                    obtain ⟨f, v1, bb, off, c, k, f2, E1, m1, e1, E2, m2, e2, rfl, rfl, rfl, rfl, hbb, d0, d1, d2, d3, hN2⟩ := nest_cells hN
                    have hB := HB.out
                    have hfr := hB.free
                    have hbl := hB.lt
                    have z0 := (hB).cell 0
                    have z1 := (hB).cell 1
                    have z2 := (hB).cell 2
                    have z3 := (hB).cell 3
                    simp only [List.getElem?_cons_zero, List.getElem?_cons_succ] at z0 z1 z2 z3
                    have hw2w : w.heap.size ≤ w2.heap.size := by omega
                    have hkw : ∀ o v, Keeps (· < w2.heap.size + 1) wr (wr.setCell ⟨w2.heap.size + 1, o, none⟩ v) := fun o v => (Keeps.refl _ _).setCell (p := ⟨w2.heap.size + 1, o, none⟩) (by show ¬ w2.heap.size + 1 < w2.heap.size + 1; omega) v
                    have hB5 := (((hB.set 0 (.int .i64 k)).set 1 (.int .u8 f2)).set 2 (.slice E1 m1 e1)).set 3 (.slice E2 m2 e2)
                    have hk5 : Keeps (· < w2.heap.size) wr ((((wr.setCell ⟨w2.heap.size + 1, 0, none⟩ (.int .i64 k)).setCell ⟨w2.heap.size + 1, 1, none⟩ (.int .u8 f2)).setCell ⟨w2.heap.size + 1, 2, none⟩ (.slice E1 m1 e1)).setCell ⟨w2.heap.size + 1, 3, none⟩ (.slice E2 m2 e2)) := by
                      repeat (first | with_reducible exact Keeps.refl _ _ | with_reducible refine Keeps.setCell ?_ ?_ _)
                      all_goals (show ¬ w2.heap.size + 1 < w2.heap.size; omega)
                    have hN5 := hN2.keepK hk5 (fun _ h => h)
                    have hk6 := HKK.out.trans (hk5.mono fun b hb => by omega)
                    simp only [List.set_cons_zero, List.set_cons_succ] at hB5
                    clear hB hN hN2 hk5 hkw HB HN HKK
                    have HB5 := hid hB5
                    have HN5 := hid hN5
                    have Hk6 := hid hk6
                    clear hB5 hN5 hk6
                    go_wp2_with fail
                    go_roundw
                    case rel => exact ⟨q + 1, _, _, _, _, by go_num, by omega, HB5, HN5, Hk6⟩
                    case measure => first | (simp [intOf]; done) | (simp [intOf]; omega)
                  · obtain rfl : q = i := by omega
                    have hqI : ¬ (q : Int) < (q : Int) := by omega
                    have hN := HN.out
                    rw [Nat.sub_self] at hN
                    obtain rfl := leaf_cells hN
                    have hT6 := HT.out.keep HKK.out
                    have hbl := HB.out.lt
                    clear hN HN
                    have HT6 := hid hT6
                    clear hT6
                    go_wp2_with fail
                    refine (law17_fixed _ HT6.out).mono ?_
                    rintro e w5 ⟨rfl, hk5⟩
                    have hB6 := HB.out.keep hk5 hbl
                    have hk9 := HKK.out.trans (hk5.mono fun b hb => Nat.lt_of_lt_of_le hb HKK.out.size)
                    have z0 := (hB6).cell 0
                    have z1 := (hB6).cell 1
                    have z2 := (hB6).cell 2
                    have z3 := (hB6).cell 3
                    simp only [List.getElem?_cons_zero, List.getElem?_cons_succ] at z0 z1 z2 z3
                    clear hk5 hB6
                    have Hk9 := hid hk9
                    clear hk9
                    go_wp2_with fail
                    exact hR'.out _ _ ⟨rfl, Hk9.out⟩
end Go.Proofs.YtbepgbkbpkaodaaDoor
