/- QueryCase: the walk. -/
import Derived.Test.YtbepgbkbpkaodaaDoorCaseP
import Derived.Test.YtbepgbkbpkaodaaDoorBlank
import Derived.Test.YtbepgbkbpkaodaaDoorRefX
namespace Go.Proofs.YtbepgbkbpkaodaaDoor
open Go.RowKit

/-- the first runes folded -/
def mixR (rs : List Int) (i : Nat) : List Int := (rs.take i).map foldM ++ rs.drop i
theorem mixR_len (rs : List Int) (i : Nat) : (mixR rs i).length = rs.length := by unfold mixR; simp; omega
theorem mixR_at (rs : List Int) (i : Nat) (r : Int) (h : rs[i]? = some r) : (mixR rs i)[i]? = some r := by
  have hi := (List.getElem?_eq_some_iff.1 h).1
  unfold mixR
  rw [List.getElem?_append_right (by simp; omega), List.getElem?_drop]
  simp only [List.length_map, List.length_take]
  rw [show i + (i - min i rs.length) = i by omega]
  exact h
theorem mixR_at1 (rs : List Int) (i : Nat) (r : Int) (hi : i < rs.length) (h : rs[i]? = some r) : (mixR rs (i + 1))[i]? = some (foldM r) := by
  unfold mixR
  rw [List.getElem?_append_left (by simp; omega), List.getElem?_map, List.getElem?_take_of_lt (by omega), h]; rfl
theorem mixR_set (rs : List Int) (i : Nat) (r : Int) (h : rs[i]? = some r) : (mixR rs i).set i (foldM r) = mixR rs (i + 1) := by
  obtain ⟨hi, hr⟩ := List.getElem?_eq_some_iff.1 h
  unfold mixR
  rw [List.set_append_right _ _ (by simp; omega), List.take_add_one, h, List.map_append, List.append_assoc, List.drop_eq_getElem_cons hi, hr]
  simp only [List.length_map, List.length_take]
  rw [show i - min i rs.length = 0 by omega]
  rfl
theorem mixR_end (rs : List Int) : mixR rs rs.length = foldsL rs := by unfold mixR foldsL; simp
theorem mixR_zero (rs : List Int) : mixR rs 0 = rs := by unfold mixR; simp
/-- what has been looked at -/
def goodR (rs : List Int) (i : Nat) : Prop := ∀ k, k < i → ∀ r, rs[k]? = some r → r ≤ 127 ∧ (0 < k → rs[k - 1]? ≠ some 64)
theorem good_end {rs : List Int} (hb : ∀ r ∈ rs, 0 ≤ r ∧ r ≤ 1114111) (h : goodR rs rs.length) : ascI rs ∧ lastAt rs := by
  constructor
  · intro r hr
    obtain ⟨k, hk⟩ := List.getElem?_of_mem hr
    have := h k (List.getElem?_eq_some_iff.1 hk).1 r hk
    exact ⟨(hb r hr).1, this.1⟩
  · intro a b e
    cases b with
    | nil => rfl
    | cons c b =>
      exfalso
      have hk : rs[a.length + 1]? = some c := by rw [e, List.getElem?_append_right (by omega), show a.length + 1 - a.length = 1 by omega]; rfl
      have h1 := (h (a.length + 1) (List.getElem?_eq_some_iff.1 hk).1 c hk).2 (by omega)
      apply h1
      rw [Nat.add_sub_cancel, e, List.getElem?_append_right (Nat.le_refl _), Nat.sub_self]; rfl

set_option maxRecDepth 100000 in
set_option maxHeartbeats 4000000 in
theorem law17_case (s : ByteArray) (w : World) (hT : FoldTab w) : Calls Tryd.prog 4 #[.string s] w fun e w' => e = .returned (.bool true) ∧ Keeps (· < w.heap.size) w w' := by
  have HT := hid hT
  clear hT
  refine calls_hide fun R' hR' => ?_
  go_enter Tryd.func4, Tryd.ntmps4
  by_cases h2 : 100 < s.size
  · have h2I : 100 < (s.size : Int) := by omega
    go_wp2_with fail
    refine (law17_fixed w HT.out).mono ?_
    rintro e w2 ⟨rfl, hk2⟩
    have Hk2 := hid hk2
    clear hk2
    go_wp2_with fail
    exact hR'.out _ _ ⟨rfl, Hk2.out⟩
  have h2I : ¬ 100 < (s.size : Int) := by omega
  go_wp2_with fail
  refine (ref4_runes s (by omega) w).mono ?_
  rintro e w1 ⟨v, rfl, hN⟩
  obtain ⟨A, cp, rfl⟩ := ownB_form hN.1
  have hrl : (runesS s).length ≤ 100 := Nat.le_trans (runesF_len s s.size 0) (by omega)
  have hrb : ∀ r ∈ runesS s, 0 ≤ r ∧ r ≤ 1114111 := runesF_bound s s.size 0
  have hpc := parse_case s
  have hown := hN.1
  have hkw := hN.2
  rw [← mixR_zero (runesS s), mixR_len] at hown
  clear hN
  generalize runesS s = rs at *
  have Hown := hid hown
  have Hkw := hid hkw
  have Hpc := hid hpc
  have Hrb := hid hrb
  clear hown hkw hpc hrb
  go_wp2_with fail
  go_loopw [19] (fun iv wr => ∃ i : Nat, iv = .int .i64 (i : Int) ∧ i ≤ rs.length ∧ Hid (wr.ownsRow w.heap.size 21 1 (.slice A rs.length cp) rs.length ((mixR rs i).map (Value.int .i32))) ∧ Hid (Keeps (· < w.heap.size) w wr) ∧ Hid (goodR rs i)) (fun iv _ => rs.length - (intOf iv).toNat)
  case atStart => exact ⟨0, rfl, Nat.zero_le _, Hown, Hkw, hid (fun k hk => absurd hk (Nat.not_lt_zero _))⟩
  case round =>
    clear Hown Hkw
    obtain ⟨i, rfl, hi, HO, HK, HG⟩ := hrel
    by_cases hlt : i < rs.length
    · obtain ⟨r, hr⟩ : ∃ r, rs[i]? = some r := ⟨_, List.getElem?_eq_getElem hlt⟩
      obtain ⟨hr0, hr1⟩ := Hrb.out r (List.mem_of_getElem? hr)
      obtain ⟨g, c2, hA⟩ := ownB_posS HO.out (by omega)
      injection hA with hA1 _ hA3
      subst hA1 hA3
      have hgl := (ownB_lt HO.out (b := g) rfl)
      have hc0 := own_newsS HO.out i (.int .i32 r) (by rw [List.getElem?_map, mixR_at rs i r hr]; rfl)
      rw [Addr.add_lit, Nat.zero_add] at hc0
      have hfz := ownB_free HO.out (by omega)
      have hset := ownB_set HO.out (by omega) (k := i) (by rw [List.length_map, mixR_len]; exact hlt) (.int .i32 (foldM r))
      have hset2 : ((mixR rs i).map (Value.int .i32)).set i (.int .i32 (foldM r)) = (mixR rs (i + 1)).map (Value.int .i32) := by rw [← mixR_set rs i r hr, List.map_set]
      rw [hset2] at hset
      have hkset := HK.out.setCell (p := ⟨g, i, none⟩) (by show ¬ g < w.heap.size; omega) (.int .i32 (foldM r))
      have hgood : r ≤ 127 → (0 < i → rs[i - 1]? ≠ some 64) → goodR rs (i + 1) := fun h1 h2 k hk r' hr' => by
        by_cases hki : k < i
        · exact HG.out k hki r' hr'
        · obtain rfl : k = i := by omega
          rw [hr] at hr'
          injection hr' with hr'
          subst hr'
          exact ⟨h1, h2⟩
      clear hset2
      by_cases hbig : 127 < r
      · have hltI : (i : Int) < (rs.length : Int) := by omega
        clear hr hset hkset hgood
        have hT2 := HT.out.keep HK.out
        have HT2 := hid hT2
        clear hT2
        go_wp2_with fail
        refine (law17_fixed wr HT2.out).mono ?_
        rintro e w2 ⟨rfl, hk2⟩
        have hk3 := HK.out.trans (hk2.mono fun b hb => Nat.lt_of_lt_of_le hb HK.out.size)
        have Hk3 := hid hk3
        clear hk3
        clear hk2
        go_wp2_with fail
        exact hR'.out _ _ ⟨rfl, Hk3.out⟩
      have hbigI : ¬ 127 < r := hbig
      cases i with
      | zero =>
        have hltI : (0 : Int) < (rs.length : Int) := by omega
        have hg1 := hgood (by omega) (fun h => absurd h (Nat.lt_irrefl _))
        have Hset := hid hset
        have Hkset := hid hkset
        have Hg1 := hid hg1
        clear hset hkset hg1
        clear hgood hr
        go_wp2_with fail
        refine (ref5_fold r wr (by omega) (by omega)).mono ?_
        rintro e w2 ⟨rfl, rfl⟩
        generalize foldM r = fr at *
        go_wp2_with fail
        go_roundw
        case rel => exact ⟨1, rfl, by omega, Hset, Hkset, Hg1⟩
        case measure => first | (simp [intOf]; done) | (simp [intOf]; omega)
      | succ j =>
        have hltI : (j : Int) + 1 < (rs.length : Int) := by omega
        obtain ⟨q, hq⟩ : ∃ q, rs[j]? = some q := ⟨_, List.getElem?_eq_getElem (by omega)⟩
        have hq127 := (HG.out j (by omega) q hq).1
        have hq0 := (Hrb.out q (List.mem_of_getElem? hq)).1
        have hcq := own_newsS HO.out j (.int .i32 (foldM q)) (by rw [List.getElem?_map, mixR_at1 rs j q (by omega) hq]; rfl)
        rw [Addr.add_lit, Nat.zero_add] at hcq
        have hjI : (j : Int) < (rs.length : Int) := by omega
        have hfq := fold_eqc (r := q) ⟨hq0, hq127⟩ 64 (by omega)
        have ec : ((j + 1 : Nat) : Int) = (j : Int) + 1 := by omega
        by_cases h64 : foldM q = 64
        · have hb64 : (foldM q == 64) = true := by simp [h64]
          have hT2 := HT.out.keep HK.out
          clear h64 hfq hr hq hset hkset hgood
          generalize foldM q = fq at *
          have HT2 := hid hT2
          clear hT2
          rw [ec]
          go_wp2_with fail
          refine (law17_fixed wr HT2.out).mono ?_
          rintro e w2 ⟨rfl, hk2⟩
          have hk3 := HK.out.trans (hk2.mono fun b hb => Nat.lt_of_lt_of_le hb HK.out.size)
          have Hk3 := hid hk3
          clear hk3
          clear hk2
          go_wp2_with fail
          exact hR'.out _ _ ⟨rfl, Hk3.out⟩
        · have hb64 : (foldM q == 64) = false := by simpa using h64
          have hg1 := hgood (by omega) (fun _ => by
            rw [Nat.add_sub_cancel, hq]
            intro e
            injection e with e
            exact h64 (hfq.2 e))
          clear h64 hfq hr hq hgood
          generalize foldM q = fq at *
          have Hset := hid hset
          have Hkset := hid hkset
          have Hg1 := hid hg1
          clear hset hkset hg1
          rw [ec]
          go_wp2_with fail
          refine (ref5_fold r wr (by omega) (by omega)).mono ?_
          rintro e w2 ⟨rfl, rfl⟩
          generalize foldM r = fr at *
          go_wp2_with fail
          go_roundw
          case rel => exact ⟨j + 1 + 1, by go_num, by omega, Hset, Hkset, Hg1⟩
          case measure => first | (simp [intOf]; done) | (simp [intOf]; omega)
    · obtain rfl : i = rs.length := by omega
      have hltI : ¬ (rs.length : Int) < (rs.length : Int) := by omega
      obtain ⟨ha, hla⟩ := good_end Hrb.out HG.out
      have hps := Hpc.out ha hla (by omega)
      have hO := HO.out
      rw [mixR_end] at hO
      have hfa := folds_asc ha
      have hfl := folds_len rs
      clear HO HG ha hla
      generalize foldsL rs = fs at *
      have hT2 := HT.out.keep HK.out
      have hsK := HK.out.size
      have HO := hid hO
      have Hps := hid hps
      have HT2 := hid hT2
      have Hfa := hid hfa
      have Hfl := hid hfl
      clear hO hps hT2 hfa hfl
      go_wp2_with fail
      refine (query_parseQ s _ HT2.out).mono ?_
      rintro e w2 ⟨k1, f1, A1, n1, c1, A2, n2, c2, li, o, er, rfl, hQ, hk1⟩
      have hs1 := hk1.size
      have hka : Keeps (· < w2.heap.size) w2 (w2.alloc (.cells #[.int .i64 k1, .int .u8 f1, .slice A1 n1 c1, .slice A2 n2 c2, .int .i64 li, .int .i64 o] 28)) := (Keeps.refl _ _).alloc (fun b hb => hb) _
      have hk12 := hk1.trans (hka.mono fun b hb => by omega)
      have hkk := HK.out.trans (hk12.mono fun b hb => by omega)
      have hQ1 := hQ.keep (hka.mono fun b hb => hb.2) (K' := fun x => w.heap.size ≤ x ∧ x < w2.heap.size) (fun b hb => ⟨by omega, hb.2⟩)
      have hBq := Blk.new w2 [.int .i64 k1, .int .u8 f1, .slice A1 n1 c1, .slice A2 n2 c2, .int .i64 li, .int .i64 o] 28
      have hO2 := ownB_keepS HO.out hk12
      clear hQ hk1 hka HT2 HK HO hk12
      have hS2 := (ownB_slAtS hO2).mono (L := fun x => x < w2.heap.size + 1) (fun x hx => by have := hx.2; rw [World.size_alloc] at this; exact this)
      rw [← Hfl.out] at hS2
      clear hO2
      have Hkk := hid hkk
      have HQ1 := hid hQ1
      have HBq := hid hBq
      have HS2 := hid hS2
      clear hkk hQ1 hBq hS2
      go_wp2_with fail
      rw [← Hfl.out]
      refine (ref4_text fs (by rw [Hfl.out]; omega) (fun r hr => by have := Hfa.out r hr; omega) A cp _ _ (fun b hb => by rw [World.size_alloc]; exact hb) HS2.out).mono ?_
      rintro e w3 ⟨rfl, hk3⟩
      have hs3 := hk3.size
      rw [World.size_alloc] at hs3
      have hQ2 := HQ1.out.keep (hk3.mono fun b hb => by rw [World.size_alloc]; have := hb.2; omega) (K' := fun x => w.heap.size ≤ x ∧ x < w2.heap.size) (fun b hb => hb)
      have hB1 := HBq.out.keep hk3 HBq.out.lt
      have hkx := Hkk.out.trans (hk3.mono fun b hb => by rw [World.size_alloc]; omega)
      have hT3 := HT.out.keep hkx
      clear HQ1 HBq hk3 Hkk HS2
      have HQ2 := hid hQ2
      have HB1 := hid hB1
      have Hkx := hid hkx
      have HT3 := hid hT3
      clear hQ2 hB1 hkx hT3
      go_wp2_with fail
      refine (query_parseQ _ _ HT3.out).mono ?_
      rintro e w4 ⟨k2, f2, A3, n3, c3, A4, n4, c4, li2, o2, er2, rfl, hQ, hk2⟩
      rw [Hps.out] at hQ
      have hs4 := hk2.size
      have hka : Keeps (· < w4.heap.size) w4 (w4.alloc (.cells #[.int .i64 k2, .int .u8 f2, .slice A3 n3 c3, .slice A4 n4 c4, .int .i64 li2, .int .i64 o2] 28)) := (Keeps.refl _ _).alloc (fun b hb => hb) _
      have hk2a := hk2.trans (hka.mono fun b hb => by omega)
      have hkw := Hkx.out.trans (hk2a.mono fun b hb => Nat.lt_of_lt_of_le hb Hkx.out.size)
      have hQ3 := HQ2.out.keep (hk2a.mono fun b hb => by have := hb.2; omega) (K' := fun x => x < w4.heap.size) (fun b hb => by have := hb.2; omega)
      have hQ4 := hQ.keep (hka.mono fun b hb => hb.2) (K' := fun x => x < w4.heap.size) (fun b hb => hb.2)
      have hB3 := HB1.out.keep hk2a HB1.out.lt
      have hB4 := Blk.new w4 [.int .i64 k2, .int .u8 f2, .slice A3 n3 c3, .slice A4 n4 c4, .int .i64 li2, .int .i64 o2] 28
      clear hQ hk2 hka hk2a HT3 Hkx HQ2 HB1
      obtain ⟨rfl, n, li', o', x0, x1, x2, x3, y0, y1, y2, y3, ex, ey, hN1, hN2⟩ := hQ3.both hQ4
      simp only [List.cons.injEq, Value.int.injEq, true_and, and_true] at ex ey
      obtain ⟨rfl, rfl, rfl, rfl, rfl, rfl⟩ := ex
      obtain ⟨rfl, rfl, rfl, rfl, rfl, rfl⟩ := ey
      have heq : (er != er) = false := by simp
      have y0 := (hB3).cell 0
      have y1 := (hB3).cell 1
      have y2 := (hB3).cell 2
      have y3 := (hB3).cell 3
      have y4 := (hB3).cell 4
      have y5 := (hB3).cell 5
      simp only [List.getElem?_cons_zero, List.getElem?_cons_succ] at y0 y1 y2 y3 y4 y5
      have z0 := (hB4).cell 0
      have z1 := (hB4).cell 1
      have z2 := (hB4).cell 2
      have z3 := (hB4).cell 3
      have z4 := (hB4).cell 4
      have z5 := (hB4).cell 5
      simp only [List.getElem?_cons_zero, List.getElem?_cons_succ] at z0 z1 z2 z3 z4 z5
      have hl3 := hB3.lt
      have hl4 := hB4.lt
      clear hQ3 hQ4 hB3 hB4
      have Hkw := hid hkw
      have HN1 := hid hN1
      have HN2 := hid hN2
      clear hkw hN1 hN2
      go_wp2_with fail
      refine (ref17_same _ n (Nat.le_refl _) _ (fun x => x < w4.heap.size) (fun x => x < w4.heap.size) _ _ _ _ _ _ _ _ (fun b hb => by rw [World.size_alloc]; omega) (fun b hb => by rw [World.size_alloc]; omega) HN1.out HN2.out).mono ?_
      rintro e w5 ⟨rfl, hk4⟩
      have hk9 := Hkw.out.trans (hk4.mono fun b hb => Nat.lt_of_lt_of_le hb Hkw.out.size)
      have hT5 := HT.out.keep hk9
      clear hk4 y0 y1 y2 y3 y4 y5 z0 z1 z2 z3 z4 z5
      have Hk9 := hid hk9
      have HT5 := hid hT5
      clear hk9 hT5
      go_wp2_with fail
      refine (law17_fixed _ HT5.out).mono ?_
      rintro e w6 ⟨rfl, hk6⟩
      have hk7 := Hk9.out.trans (hk6.mono fun b hb => Nat.lt_of_lt_of_le hb Hk9.out.size)
      clear hk6
      have Hk7 := hid hk7
      clear hk7
      go_wp2_with fail
      exact hR'.out _ _ ⟨rfl, Hk7.out⟩
end Go.Proofs.YtbepgbkbpkaodaaDoor
