/- Layer 17 (query): leaf, the walk. -/
import Derived.Test.YtbepgbkbpkaodaaDoorJQryK
import Derived.Deep.CutRange
import Derived.Deep.CutBlock
namespace Go.Proofs.YtbepgbkbpkaodaaDoor
open Go.RowKit

theorem quoteE_step {rs : List Int} {p : Nat} {r : Int} (hr : rs[p]? = some r) (h : r ≠ 34) : quoteE rs p = quoteE rs (p + 1) := by
  obtain ⟨h9, h8⟩ := List.getElem?_eq_some_iff.1 hr
  unfold quoteE
  rw [List.drop_eq_getElem_cons h9, h8, List.takeWhile_cons_of_pos (by simpa using h), List.length_cons]; omega
theorem quoteE_stop {rs : List Int} {p : Nat} {r : Int} (hr : rs[p]? = some r) (h : r = 34) : quoteE rs p = p := by
  obtain ⟨h9, h8⟩ := List.getElem?_eq_some_iff.1 hr
  unfold quoteE
  rw [List.drop_eq_getElem_cons h9, h8, List.takeWhile_cons_of_neg (by simp [h])]; rfl
theorem quoteE_end {rs : List Int} {p : Nat} (h : ¬ p < rs.length) : quoteE rs p = p := by
  unfold quoteE
  rw [List.drop_eq_nil_of_le (by omega)]; rfl
theorem quoteE_take (rs : List Int) (p : Nat) : (rs.drop p).take (quoteE rs p - p) = (rs.drop p).takeWhile (· != 34) := by
  unfold quoteE
  rw [Nat.add_sub_cancel_left]
  exact List.prefix_iff_eq_take.1 (List.takeWhile_prefix _) |>.symm
theorem quoteT_size (rs : List Int) (p : Nat) (h : rs.length ≤ 256) : (textS ((rs.drop p).takeWhile (· != 34))).size ≤ 1024 := by
  rw [textS_size]
  have h1 := textB_len ((rs.drop p).takeWhile (· != 34))
  have h2 := (List.takeWhile_sublist (· != (34 : Int)) (l := rs.drop p)).length_le
  rw [List.length_drop] at h2
  omega
theorem empty_size {t : ByteArray} (h : t.size = 0) : t.toList.isEmpty = true := by
  rw [ByteArray.toList_eq]
  have : t.data = #[] := Array.eq_empty_of_size_eq_zero h
  rw [this]; rfl
theorem empty_size_ne {t : ByteArray} (h : t.size ≠ 0) : t.toList.isEmpty = false := by
  rw [ByteArray.toList_eq]
  cases hl : t.data.toList with
  | nil => exact absurd (show t.data.size = 0 by rw [← Array.length_toList, hl]; rfl) h
  | cons _ _ => rfl
/-- the words, the first ones as they came, the others as the leaf's -/
def mixC (f : Int) (ts : List (ByteArray × Nat)) (j : Nat) : List Value := (ts.take j).flatMap tokC ++ ((relT ts).drop j).flatMap (tokF f)
theorem flat3_len {α : Type} (g : α → List Value) (hg : ∀ x, (g x).length = 3) (l : List α) : (l.flatMap g).length = 3 * l.length := by
  induction l with
  | nil => rfl
  | cons x l ih => rw [List.flatMap_cons, List.length_append, hg, ih, List.length_cons]; omega
theorem mix_at (f : Int) (ts : List (ByteArray × Nat)) (j k : Nat) (hk : k < j) (x : ByteArray × Nat) (hx : ts[k]? = some x) : (mixC f ts j)[3 * k]? = some (.int .u8 0) ∧ (mixC f ts j)[3 * k + 2]? = some (.int .i64 (x.2 : Int)) := by
  obtain ⟨h9, h8⟩ := List.getElem?_eq_some_iff.1 hx
  have hsp : ts.take j = ts.take k ++ x :: (ts.take j).drop (k + 1) := by
    have h1 : (ts.take j).length > k := by rw [List.length_take]; omega
    have := List.take_append_drop k (ts.take j)
    rw [List.drop_eq_getElem_cons h1, List.take_take, Nat.min_eq_left (by omega), List.getElem_take, h8] at this
    exact this.symm
  have hl : ((ts.take k).flatMap tokC).length = 3 * k := by rw [flat3_len tokC (fun _ => rfl), List.length_take]; omega
  unfold mixC
  rw [hsp, List.flatMap_append, List.flatMap_cons, List.append_assoc, List.append_assoc]
  constructor
  · rw [List.getElem?_append_right (by omega), hl, Nat.sub_self]; rfl
  · rw [List.getElem?_append_right (by omega), hl, show 3 * k + 2 - 3 * k = 2 by omega]; rfl
theorem mix_set (f : Int) (ts : List (ByteArray × Nat)) (j : Nat) (x y : ByteArray × Nat) (hx : ts[j]? = some x) (hy : ts[0]? = some y) : ((mixC f ts (j + 1)).set (3 * j) (.int .u8 f)).set (3 * j + 2) (.int .i64 ((x.2 : Int) - (y.2 : Int))) = mixC f ts j := by
  obtain ⟨h9, h8⟩ := List.getElem?_eq_some_iff.1 hx
  have hh : ts.head? = some y := by rw [List.head?_eq_getElem?]; exact hy
  have hr : (relT ts)[j]? = some (x.1, (x.2 : Int) - (y.2 : Int)) := by
    unfold relT
    rw [List.getElem?_map, hx, hh]; rfl
  obtain ⟨r9, r8⟩ := List.getElem?_eq_some_iff.1 hr
  have hl : ((ts.take j).flatMap tokC).length = 3 * j := by rw [flat3_len tokC (fun _ => rfl), List.length_take]; omega
  unfold mixC
  rw [List.take_add_one, hx, List.flatMap_append, List.drop_eq_getElem_cons r9, r8, List.flatMap_cons]
  generalize (ts.take j).flatMap tokC = a at *
  generalize ((relT ts).drop (j + 1)).flatMap (tokF f) = z at *
  simp only [Option.toList_some, List.flatMap_cons, List.flatMap_nil, List.append_nil, List.append_assoc]
  rw [List.set_append_right (s := a) _ _ (by omega), List.set_append_right (s := a) _ _ (by omega), hl, Nat.sub_self, show 3 * j + 2 - 3 * j = 2 by omega]
  rfl
theorem mix_end (f : Int) (ts : List (ByteArray × Nat)) : mixC f ts ts.length = ts.flatMap tokC := by
  unfold mixC
  rw [List.take_length, List.drop_eq_nil_of_le (by unfold relT; simp)]
  simp
theorem mix_zero (f : Int) (ts : List (ByteArray × Nat)) : mixC f ts 0 = (relT ts).flatMap (tokF f) := by unfold mixC; simp
theorem relT_len (ts : List (ByteArray × Nat)) : (relT ts).length = ts.length := by unfold relT; simp
theorem wordsL_len : ∀ (f p : Nat) (rs : List Int), (wordsL f p rs).length ≤ rs.length
  | 0, _, _ => by unfold wordsL; exact Nat.zero_le _
  | _ + 1, _, [] => by unfold wordsL; exact Nat.le_refl _
  | f + 1, p, r :: rs => by
    have h1 := wordsL_len f (p + 1) ((rs.dropWhile isW).drop 1)
    have h2 := wordsL_len f p rs
    have h3 := dw_len rs
    unfold wordsL
    split
    · split
      · simp only [List.length_cons]; omega
      · simp only [List.length_cons]; omega
    · simp only [List.length_cons]; omega
theorem wordsR_len (p : Nat) (rs : List Int) : (wordsR p rs).length ≤ rs.length := wordsL_len _ _ _
theorem wordsL_pos : ∀ (f p : Nat) (rs : List Int) (t : ByteArray × Nat), t ∈ wordsL f p rs → t.2 < p + rs.length
  | 0, _, _, t, h => by unfold wordsL at h; cases h
  | _ + 1, _, [], t, h => by unfold wordsL at h; cases h
  | f + 1, p, r :: rs, t, h => by
    have h1 := wordsL_pos f (p + 1) ((rs.dropWhile isW).drop 1) t
    have h2 := wordsL_pos f p rs t
    have h3 := dw_len rs
    unfold wordsL at h
    rw [List.length_cons]
    split at h
    · split at h
      · have := h1 h; omega
      · rcases List.mem_cons.1 h with rfl | h
        · show p < _; omega
        · have := h1 h; omega
    · have := h2 h; omega
theorem wordsR_pos {p : Nat} {rs : List Int} {t : ByteArray × Nat} (h : t ∈ wordsR p rs) : t.2 < p + rs.length := wordsL_pos _ _ _ _ h
theorem Rd.keepB {w w' : World} {b c p : Nat} {A : Option Addr} {rs : List Int} (h : Rd w b A c rs p) (k : Keeps (· ≤ b) w w') : Rd w' b A c rs p := by
  have hb := h.blk.lt
  refine ⟨h.blk.keep k (Nat.le_refl _), h.sl.keep k (fun x hx => Nat.le_of_lt hx), ?_, h.glb, h.le, h.len, h.bnd, h.form⟩
  have g := h.glb
  have t := h.tab
  have go : ∀ x cs, x < b → w.rangeAt x 0 cs → w'.rangeAt x 0 cs := fun x cs hx hr j v hv => (World.cell?_of_block (a := ⟨x, 0 + j, none⟩) (k.block x (by show x ≤ b; omega))).trans (hr j v hv)
  have := k.size
  exact ⟨go _ _ g.1 t.high, go _ _ g.2.1 t.letters, go _ _ g.2.2 t.moves, by have := t.lt; omega⟩
def fieldC (t1 : ByteArray) (r : Int) : Bool := decide (t1.size = 1 ∧ 48 ≤ (t1.data.toList[0]?.getD 0).toNat ∧ (t1.data.toList[0]?.getD 0).toNat ≤ 51 ∧ r = 58)
set_option maxRecDepth 100000 in
set_option maxHeartbeats 2000000 in
theorem query_leaf {w : World} {b c p : Nat} {A : Option Addr} {rs : List Int} (h : Rd w b A c rs p) : Calls Tryd.prog 61 #[.pointer (some ⟨b, 0, none⟩)] w fun e w' => (match leafP rs p with
    | .ok ((f, t), q) => ∃ v, e = .returned (.agg #[.int .i64 1, .int .u8 f, v, .slice none 0 0]) ∧ w'.ownsRow w.heap.size 42 3 v (relT (wordsR 0 (runesS t))).length ((relT (wordsR 0 (runesS t))).flatMap (tokF f)) ∧ Rd w' b A c rs q
    | .error n => e = thrown n) ∧ Mv b w w' := by
  have hb0 := h.blk.lt
  have HR := hid (h.keep ((Keeps.refl _ _).alloc (fun b hb => hb) (.cells #[.int .i64 0, .int .u8 0, .slice none 0 0, .slice none 0 0] 26)))
  clear h
  refine calls_hide fun R' hR' => ?_
  go_enter Tryd.func61, Tryd.ntmps61
  go_wp2_with fail
  refine (query_word HR.out).mono ?_
  rintro e w1 ⟨rfl, hQ, hM⟩
  go_upto_region 3 with fail
  have hfP : fieldP rs p = (let t1 := textS ((rs.drop p).takeWhile isW); let b0 := (t1.data.toList[0]?.getD 0).toNat; if t1.size = 1 ∧ 48 ≤ b0 ∧ b0 ≤ 51 ∧ runeAt rs (wordE rs p) = 58 then some ((b0 : Int) - 48, nextW rs (wordE rs p + 1), wordE rs (skipB rs (wordE rs p + 1))) else none) := rfl
  have hlP : leafP rs p = match fieldP rs p with
    | some (f, t, q) => leafT rs f t q
    | none => leafT rs 0 (textS ((rs.drop p).takeWhile isW)) (wordE rs p) := rfl
  dsimp only at hfP
  have hsz : (textS ((rs.drop p).takeWhile isW)).size ≤ 1024 := by
    have h1 := textB_len ((rs.drop p).takeWhile isW)
    have h2 := (List.takeWhile_sublist isW (l := rs.drop p)).length_le
    rw [List.length_drop] at h2
    rw [textS_size]
    have := hQ.len
    omega
  generalize textS ((rs.drop p).takeWhile isW) = t1 at *
  generalize wordE rs p = p1 at *
  generalize hfp : fieldP rs p = fp at *
  generalize hlp : leafP rs p = lp at *
  clear hfp hlp
  have HQ := hid hQ
  have HM := hid hM
  clear hQ hM
  clear HR
  obtain ⟨cd, hcd⟩ : ∃ cd : Bool, cd = fieldC t1 (runeAt rs p1) := ⟨_, rfl⟩
  unfold fieldC at hcd
  have HfP := hid hfP
  have HlP := hid hlP
  clear hfP hlP
  go_cut [27] from 10 to 27 (fun bv wx => bv = .bool cd ∧ Hid (Rd wx b A c rs p1) ∧ Hid (Mv b (w.alloc (.cells #[.int .i64 0, .int .u8 0, .slice none 0 0, .slice none 0 0] 26)) wx))
  case first =>
    by_cases s1 : t1.size = 1
    · have s1b : ((t1.size : Int) == 1) = true := by simp [s1]
      have h0 : 0 < t1.size := by omega
      have h00 : (t1.data.toList[0]?.getD 0) = t1[0] := by rw [List.getElem?_eq_getElem (show 0 < t1.data.toList.length by simpa using h0)]; rfl
      rw [h00] at hcd
      clear h00
      generalize hz : t1[0].toNat = z at *
      by_cases z1 : 48 ≤ z
      · by_cases z2 : z ≤ 51
        · have z1I : 48 ≤ (z : Int) := by omega
          have z2I : (z : Int) ≤ 51 := by omega
          go_wp2_with fail
          refine (query_peek HQ.out).mono ?_
          rintro e w2 ⟨rfl, hk⟩
          have hQ2 := HQ.out.keep hk
          have hM2 := HM.out.trans (Mv.of_all hk)
          clear HQ HM hk
          have HQ2 := hid hQ2
          have HM2 := hid hM2
          clear hQ2 hM2
          by_cases g : runeAt rs p1 = 58
          · have gb : (runeAt rs p1 == 58) = true := by simp [g]
            have hcb : cd = true := by rw [hcd]; exact decide_eq_true ⟨s1, z1, z2, g⟩
            clear hcd g
            generalize runeAt rs p1 = rr at *
            go_wp2_with fail
            go_meet
            case rel => exact ⟨by rw [hcb], HQ2, HM2⟩
          · have gb : (runeAt rs p1 == 58) = false := by simpa using g
            have hcb : cd = false := by rw [hcd]; exact decide_eq_false (fun h => g h.2.2.2)
            clear hcd g
            generalize runeAt rs p1 = rr at *
            go_wp2_with fail
            go_meet
            case rel => exact ⟨by rw [hcb], HQ2, HM2⟩
        · have z1I : 48 ≤ (z : Int) := by omega
          have z2I : ¬ (z : Int) ≤ 51 := by omega
          have hcb : cd = false := by rw [hcd]; exact decide_eq_false (fun h => z2 h.2.2.1)
          clear hcd
          go_wp2_with fail
          go_meet
          case rel => exact ⟨by rw [hcb], HQ, HM⟩
      · have z1I : ¬ 48 ≤ (z : Int) := by omega
        have hcb : cd = false := by rw [hcd]; exact decide_eq_false (fun h => z1 h.2.1)
        clear hcd
        go_wp2_with fail
        go_meet
        case rel => exact ⟨by rw [hcb], HQ, HM⟩
    · have s1b : ((t1.size : Int) == 1) = false := by simp; omega
      have hcb : cd = false := by rw [hcd]; exact decide_eq_false (fun h => s1 h.1)
      clear hcd
      go_wp2_with fail
      go_meet
      case rel => exact ⟨by rw [hcb], HQ, HM⟩
  case rest =>
    obtain ⟨rfl, HQ1, HM1⟩ := hcut
    clear HQ HM
    have hlu := HlP.out
    have hfu := HfP.out
    clear HfP HlP
    have hcdp : cd = true → t1.size = 1 ∧ 48 ≤ (t1.data.toList[0]?.getD 0).toNat ∧ (t1.data.toList[0]?.getD 0).toNat ≤ 51 ∧ runeAt rs p1 = 58 := fun h => of_decide_eq_true (hcd.symm.trans h)
    have hcdn : cd = false → ¬ (t1.size = 1 ∧ 48 ≤ (t1.data.toList[0]?.getD 0).toNat ∧ (t1.data.toList[0]?.getD 0).toNat ≤ 51 ∧ runeAt rs p1 = 58) := fun h => of_decide_eq_false (hcd.symm.trans h)
    clear hcd
    have Hlu := hid hlu
    have Hfu := hid hfu
    have Hcdp := hid hcdp
    have Hcdn := hid hcdn
    clear hlu hfu hcdp hcdn
    go_upto_if 27 with fail
    go_cut [3, 4] from 28 to 41 (fun fv tv wx => ∃ (f : Int) (t : ByteArray) (q : Nat), fv = .int .u8 f ∧ tv = .string t ∧ 0 ≤ f ∧ f ≤ 3 ∧ t.size ≤ 1024 ∧ Hid (lp = leafT rs f t q) ∧ Hid (Rd wx b A c rs q) ∧ Hid (Mv b (w.alloc (.cells #[.int .i64 0, .int .u8 0, .slice none 0 0, .slice none 0 0] 26)) wx))
    case first =>
      cases cd with
      | true =>
        obtain ⟨s1, z1, z2, g⟩ := Hcdp.out rfl
        have hlq := Hlu.out
        rw [Hfu.out, if_pos ⟨s1, by omega, by omega, g⟩] at hlq
        dsimp only at hlq
        have h0 : 0 < t1.size := by omega
        have h00 : (t1.data.toList[0]?.getD 0) = t1[0] := by rw [List.getElem?_eq_getElem (show 0 < t1.data.toList.length by simpa using h0)]; rfl
        rw [h00] at hlq z1 z2
        clear h00
        generalize hz : t1[0].toNat = z at *
        have hlt : p1 < rs.length := by
          apply Decidable.byContradiction
          intro hn
          unfold runeAt at g
          rw [List.getElem?_eq_none (by omega)] at g
          cases g
        clear g s1
        have z1I : 48 ≤ (z : Int) := by omega
        have z2I : (z : Int) ≤ 51 := by omega
        have hS2 := HQ1.out.set (q := p1 + 1) (by omega)
        have hM3 := HM1.out.trans (Mv.set (.int .i64 ((p1 + 1 : Nat) : Int)))
        have hl256 := HQ1.out.len
        have ec : ((p1 + 1 : Nat) : Int) = (p1 : Int) + 1 := by omega
        rw [ec] at hS2 hM3
        clear ec
        have hcc := HQ1.out.blk
        have hf := hcc.free 1
        have y0 := (hcc).cell 0
        have y1 := (hcc).cell 1
        simp only [List.getElem?_cons_zero, List.getElem?_cons_succ] at y0 y1
        clear hcc HQ1 HM1
        have hsz2 := nextW_size (p1 + 1) hl256
        have hnw : nextW rs (p1 + 1) = textS ((rs.drop (skipB rs (p1 + 1))).takeWhile isW) := rfl
        have HS2 := hid hS2
        have HM3 := hid hM3
        have Hlq := hid hlq
        have Hnw := hid hnw
        clear hS2 hM3 hlq hnw
        go_wp2_with fail
        refine (query_blanks HS2.out).mono ?_
        rintro e w3 ⟨rfl, hQ3, hM4⟩
        have hM5 := HM3.out.trans hM4
        have HQ3 := hid hQ3
        have HM5 := hid hM5
        clear hQ3 hM5
        clear HS2 HM3 hM4
        go_wp2_with fail
        refine (query_word HQ3.out).mono ?_
        rintro e w4 ⟨rfl, hQ4, hM6⟩
        have hM7 := HM5.out.trans hM6
        rw [← Hnw.out]
        have HQ4 := hid hQ4
        have HM7 := hid hM7
        clear hQ4 hM7
        clear HQ3 HM5 hM6
        go_wp2_with fail
        go_meet
        case rel => exact ⟨(z : Int) - 48, _, _, rfl, rfl, by omega, by omega, hsz2, Hlq, HQ4, HM7⟩
      | false =>
        have hlq := Hlu.out
        rw [Hfu.out, if_neg (fun h => Hcdn.out rfl ⟨h.1, by omega, by omega, h.2.2.2⟩)] at hlq
        dsimp only at hlq
        have Hlq := hid hlq
        clear hlq
        go_wp2_with fail
        go_meet
        case rel => exact ⟨0, t1, p1, rfl, rfl, by decide, by decide, hsz, Hlq, HQ1, HM1⟩
    case rest =>
      obtain ⟨f, t, q, rfl, rfl, hf0, hf3, hsz2, HL, HQ2, HM2⟩ := hcut
      clear HM1 HQ1 Hlu Hfu Hcdp Hcdn
      go_upto_block 0 with fail
      have hlt : leafT rs f t q = if t.size ≠ 0 then .ok ((f, t), q) else if signB rs q 34 = true then (if quoteE rs (signP rs q 34) < rs.length then .ok ((f, textS ((rs.drop (signP rs q 34)).takeWhile (· != 34))), quoteE rs (signP rs q 34) + 1) else .error 8) else .error 8 := rfl
      rw [← HL.out] at hlt
      clear HL
      have Hlt := hid hlt
      clear hlt
      go_cut [4, 5] from 43 to 91 (fun tv pv wx => ∃ (t : ByteArray) (q : Nat), tv = .string t ∧ t.size ≤ 1024 ∧ Hid (lp = .ok ((f, t), q)) ∧ Hid (Rd wx b A c rs q) ∧ Hid (Mv b (w.alloc (.cells #[.int .i64 0, .int .u8 0, .slice none 0 0, .slice none 0 0] 26)) wx))
      case first =>
        by_cases ht0 : t.size = 0
        · have htb := empty_size ht0
          have hlq := Hlt.out
          rw [if_neg (fun h => h ht0)] at hlq
          clear ht0 Hlt
          have Hlq := hid hlq
          clear hlq
          go_wp2_with fail
          refine (query_sign 34 HQ2.out).mono ?_
          rintro e w5 ⟨rfl, hQ3, hM3⟩
          have hM4 := HM2.out.trans hM3
          clear HQ2 HM2 hM3
          cases hsb : signB rs q 34 with
          | false =>
            have hle := Hlq.out
            rw [hsb, if_neg (by decide)] at hle
            clear hsb Hlq
            have Hle := hid hle
            have HQ3 := hid hQ3
            have HM4 := hid hM4
            clear hle hQ3 hM4
            go_wp2_with fail
            exact post_thrown (hR'.out _ _ ⟨by rw [Hle.out]; rfl, (Mv.of_all ((Keeps.refl _ _).alloc (fun _ hb => hb) _)).trans HM4.out⟩)
          | true =>
            have hle := Hlq.out
            rw [hsb, if_pos rfl] at hle
            clear hsb Hlq
            generalize signP rs q 34 = s0 at *
            have z1 := hQ3.blk.cell 1
            simp only [List.getElem?_cons_zero, List.getElem?_cons_succ] at z1
            have Hle := hid hle
            have HQ3 := hid hQ3
            have HM4 := hid hM4
            clear hle hQ3 hM4
            go_wp2_with fail
            clear z1
            go_loopw [] (fun wr => ∃ k : Nat, s0 ≤ k ∧ Hid (Rd wr b A c rs k) ∧ Hid (Mv b (w.alloc (.cells #[.int .i64 0, .int .u8 0, .slice none 0 0, .slice none 0 0] 26)) wr) ∧ Hid (quoteE rs k = quoteE rs s0)) (fun wr => rs.length - posOf b wr)
            case atStart => exact ⟨s0, Nat.le_refl _, HQ3, HM4, hid rfl⟩
            case round =>
              obtain ⟨k, hsk, HQ, HM, HE⟩ := hrel
              go_wp2_with fail
              refine (query_peek HQ.out).mono ?_
              rintro e w6 ⟨rfl, hk⟩
              have hQ6 := HQ.out.keep hk
              have hM6 := HM.out.trans (Mv.of_all hk)
              have hpos0 := HQ.out.pos
              clear HQ HM hk
              have hl256 := hQ6.len
              by_cases hkl : k < rs.length
              · have hg := List.getElem?_eq_getElem hkl
                have hra : runeAt rs k = rs[k] := by unfold runeAt; rw [hg]; rfl
                rw [hra]
                clear hra
                by_cases h34 : rs[k] = 34
                · have hne : (rs[k] != 34) = false := by simp [h34]
                  have hqe : quoteE rs s0 = k := by rw [← HE.out]; exact quoteE_stop hg h34
                  have hqk : k < quoteE rs s0 ∨ k = quoteE rs s0 := Or.inr hqe.symm
                  have hle2 := Hle.out
                  rw [hqe, if_pos hkl] at hle2
                  have hts := quoteT_size rs s0 hl256
                  have htk : textS ((rs.drop s0).takeWhile (· != 34)) = textS ((rs.drop s0).take (k - s0)) := by rw [← quoteE_take, hqe]
                  rw [htk] at hle2 hts
                  clear htk h34 hg hqk hqe Hle HE
                  generalize rs[k] = rk at *
                  have Hle2 := hid hle2
                  have HQ6 := hid hQ6
                  have HM6 := hid hM6
                  clear hle2 hQ6 hM6
                  go_wp2_with fail
                  obtain ⟨g, rfl⟩ : ∃ g, A = some ⟨g, 0, none⟩ := by
                    rcases HQ6.out.form with ⟨_, _, h0⟩ | h
                    · omega
                    · exact h
                  obtain ⟨hlc, hmx⟩ := HQ6.out.cap
                  unfold maxLen at hmx
                  have hcp2 : ¬ s0 = c := by omega
                  have hpqc : s0 ≤ c := by omega
                  have hqc : k ≤ c := by omega
                  obtain ⟨W, rfl⟩ : ∃ W, W = w6 := ⟨_, rfl⟩
                  have hc := HQ6.out.blk
                  have hlB2 := hc.lt
                  have x0 := (hc).cell 0
                  have x1 := (hc).cell 1
                  simp only [List.getElem?_cons_zero, List.getElem?_cons_succ] at x0 x1
                  have d0 := fun p : KP W W.heap.size => KP.cell hlB2 x0 p
                  have d1 := fun p : KP W W.heap.size => KP.cell hlB2 x1 p
                  clear hc
                  obtain ⟨tx, htx⟩ : ∃ t, t = textS ((rs.drop s0).take (k - s0)) := ⟨_, rfl⟩
                  have hMt : ∀ pw : KP W W.heap.size, Calls Tryd.prog 55 #[.slice (some ⟨g, s0, none⟩) (k - s0) (c - s0)] pw.w fun e w' => e = .returned (.string tx) ∧ ∃ q : KP W W.heap.size, w' = q.w := by
                    intro pw
                    rw [htx]
                    have ht := (HQ6.out.keep pw.k).text s0 k hsk (by omega)
                    simp only [Option.map_some, Option.map_none, Addr.add_lit, Nat.zero_add, Nat.sub_self] at ht
                    exact pw.calls (Nat.le_refl _) ht
                  have hle3 := Hle2.out
                  rw [← htx] at hle3 hts
                  have HMt := hid hMt
                  have Hle3 := hid hle3
                  clear hMt hle3
                  clear htx Hle2
                  refine wp_region_class W.heap.size (by kernel_rfl) (by kernel_rfl) ?_
                  repeat (go_big_quiet_step (exact HMt.out _))
                  refine wpQuiet_nil ?_
                  rintro _ ⟨⟨wz, hkz⟩, rfl⟩
                  have hQ7 := HQ6.out.keep hkz
                  have hM7 := HM6.out.trans (Mv.of_all hkz)
                  have hS8 := hQ7.set (q := k + 1) (by omega)
                  have hM8 := hM7.trans (Mv.set (.int .i64 ((k + 1 : Nat) : Int)))
                  have ec : ((k + 1 : Nat) : Int) = (k : Int) + 1 := by omega
                  rw [ec] at hS8 hM8
                  clear ec
                  have hcc := hQ7.blk
                  have hf := hcc.free 1
                  have y0 := (hcc).cell 0
                  have y1 := (hcc).cell 1
                  simp only [List.getElem?_cons_zero, List.getElem?_cons_succ] at y0 y1
                  clear d0 d1 hcc HQ6 HM6
                  have HS8 := hid hS8
                  have HM8 := hid hM8
                  clear hS8 hM8
                  go_wp2_with fail
                  go_meet
                  case rel => exact ⟨tx, k + 1, rfl, hts, Hle3, HS8, HM8⟩
                · have hne : (rs[k] != 34) = true := by simp [h34]
                  have hqs : quoteE rs (k + 1) = quoteE rs s0 := by rw [← HE.out, quoteE_step hg h34]
                  have hklI : ¬ (k : Int) ≥ (rs.length : Int) := by omega
                  clear hg h34 HE
                  generalize rs[k] = rk at *
                  have hc := hQ6.blk
                  have hlB := hc.lt
                  have z0 := (hc).cell 0
                  have z1 := (hc).cell 1
                  simp only [List.getElem?_cons_zero, List.getElem?_cons_succ] at z0 z1
                  have c0 := fun p : KP w6 w6.heap.size => KP.cell hlB z0 p
                  have c1 := fun p : KP w6 w6.heap.size => KP.cell hlB z1 p
                  have f1 : decide (rs.length ≤ k) = false := decide_eq_false (by omega)
                  clear hc
                  have HQ6 := hid hQ6
                  have HM6 := hid hM6
                  have Hqs := hid hqs
                  clear hQ6 hM6 hqs
                  go_wp2_with fail
                  refine wp_region_class w6.heap.size (by kernel_rfl) (by kernel_rfl) ?_
                  repeat (go_big_quiet_step (fail))
                  refine wpQuiet_nil ?_
                  rintro _ ⟨⟨wq, hkq⟩, rfl⟩
                  have hQ7 := HQ6.out.keep hkq
                  have hM7 := HM6.out.trans (Mv.of_all hkq)
                  have hS8 := hQ7.set (q := k + 1) (by omega)
                  have hM8 := hM7.trans (Mv.set (.int .i64 ((k + 1 : Nat) : Int)))
                  have hp2 := hS8.pos
                  have ec : ((k + 1 : Nat) : Int) = (k : Int) + 1 := by omega
                  rw [ec] at hS8 hM8 hp2
                  clear ec
                  have hcc := hQ7.blk
                  have hf := hcc.free 1
                  have y0 := (hcc).cell 0
                  have y1 := (hcc).cell 1
                  simp only [List.getElem?_cons_zero, List.getElem?_cons_succ] at y0 y1
                  clear c0 c1 hcc
                  have HS8 := hid hS8
                  have HM8 := hid hM8
                  clear hS8 hM8
                  go_wp2_with fail
                  go_roundw
                  case rel => exact ⟨k + 1, by omega, HS8, HM8, Hqs⟩
                  case measure => rw [hp2, hpos0]; omega
              · have hra : runeAt rs k = 0 := by unfold runeAt; rw [List.getElem?_eq_none (by omega)]; rfl
                rw [hra]
                clear hra
                have hle2 := Hle.out
                have hqe : quoteE rs s0 = k := by rw [← HE.out]; exact quoteE_end hkl
                rw [hqe, if_neg hkl] at hle2
                have hc := hQ6.blk
                have hlB := hc.lt
                have z0 := (hc).cell 0
                have z1 := (hc).cell 1
                simp only [List.getElem?_cons_zero, List.getElem?_cons_succ] at z0 z1
                have c0 := fun p : KP w6 w6.heap.size => KP.cell hlB z0 p
                have c1 := fun p : KP w6 w6.heap.size => KP.cell hlB z1 p
                have f1 : decide (rs.length ≤ k) = true := decide_eq_true (by omega)
                clear hc hqe HE Hle
                have Hle2 := hid hle2
                have HM6 := hid hM6
                clear hle2 hM6
                go_wp2_with fail
                refine wp_region_class w6.heap.size (by kernel_rfl) (by kernel_rfl) ?_
                repeat (go_big_quiet_step (fail))
                refine wpQuiet_nil ?_
                rintro _ ⟨⟨wq, hkq⟩, rfl⟩
                go_wp2_with fail
                exact post_thrown (hR'.out _ _ ⟨by rw [Hle2.out]; rfl, (Mv.of_all ((Keeps.refl _ _).alloc (fun _ hb => hb) _)).trans (HM6.out.trans (Mv.of_all hkq))⟩)
        · have htb := empty_size_ne ht0
          have hlq := Hlt.out
          rw [if_pos ht0] at hlq
          clear ht0 Hlt
          have Hlq := hid hlq
          clear hlq
          go_wp2_with fail
          go_meet
          case rel => exact ⟨t, q, rfl, hsz2, Hlq, HQ2, HM2⟩
      case rest =>
        obtain ⟨t, q, rfl, hsz3, HL, HQ, HM⟩ := hcut
        clear HQ2 HM2 hsz2 hsz Hlt
        go_wp2_with fail
        refine (token_words t (by omega) _ HQ.out.tab).mono ?_
        rintro e w5 ⟨v, rfl, hT⟩
        have hQ5 := HQ.out.keep hT.2
        have hM5 := HM.out.trans (Mv.of_all hT.2)
        have hM6 : Mv b w wc := (Mv.of_all ((Keeps.refl _ _).alloc (fun _ hb => hb) _)).trans HM.out
        have hszc : w.heap.size < wc.heap.size := by have := HM.out.size; simp at this; omega
        have hown := hT.1
        obtain ⟨A5, c5, rfl⟩ := ownB_form hown
        have hn : (wordsR 0 (runesS t)).length ≤ 1024 := by
          have h1 := wordsR_len 0 (runesS t)
          have h2 : (runesS t).length ≤ t.size := runesF_len t t.size 0
          omega
        have hps : ∀ x ∈ wordsR 0 (runesS t), x.2 ≤ 1024 := fun x hx => by
          have h1 := wordsR_pos hx
          have h2 : (runesS t).length ≤ t.size := runesF_len t t.size 0
          omega
        have hrl := relT_len (wordsR 0 (runesS t))
        rw [← mix_end f] at hown
        have hBr : Blk wc w.heap.size [.int .i64 0, .int .u8 0, .slice none 0 0, .slice none 0 0] := (Blk.new w [.int .i64 0, .int .u8 0, .slice none 0 0, .slice none 0 0] 26).keep HM.out ⟨by simp, by omega⟩
        have hkw := hT.2
        clear hT HM hM5 hsz3
        generalize hts : wordsR 0 (runesS t) = ts at *
        have Hown := hid hown
        have Hkw := hid hkw
        have HQ5 := hid hQ5
        have HM6 := hid hM6
        have Hts := hid hts
        have Hrl := hid hrl
        have Hps := hid hps
        clear hown hkw hQ5 hM6 hts hrl hps
        go_wp2_with fail
        go_loopw [7] (fun iv wr => ∃ j : Nat, iv = .int .i64 ((j : Int) - 1) ∧ j ≤ ts.length ∧ Hid (wr.ownsRow wc.heap.size 42 3 (.slice A5 ts.length c5) ts.length (mixC f ts j)) ∧ Hid (Keeps (· < wc.heap.size) wc wr)) (fun iv _ => (intOf iv + 1).toNat)
        case atStart => exact ⟨ts.length, by go_num, Nat.le_refl _, Hown, Hkw⟩
        case round =>
          obtain ⟨j, rfl, hj, HO, HK⟩ := hrel
          cases j with
          | zero =>
            have hBw := hBr.keep HK.out hBr.lt
            have hfr := hBw.free
            have y0 := (hBw).cell 0
            have y1 := (hBw).cell 1
            have y2 := (hBw).cell 2
            have y3 := (hBw).cell 3
            simp only [List.getElem?_cons_zero, List.getElem?_cons_succ] at y0 y1 y2 y3
            have hkr : Keeps (· < w5.heap.size) w5 w5 := Keeps.refl _ _
            go_wp2_with fail
            obtain ⟨T9, hT9⟩ := (((hBw.set 0 (.int .i64 1)).set 1 (.int .u8 f)).set 2 (.slice A5 ts.length c5)).set 3 (.slice none 0 0)
            simp only [List.set_cons_zero, List.set_cons_succ] at hT9
            refine bodyPost_ret (results_cell_row rfl _ _ w.heap.size T9 _ _ _ rfl hT9 Tryd.underlying26 rfl (by kernel_rfl)) rfl ?_
            refine hR'.out _ _ ?_
            rw [HL.out]
            refine ⟨⟨_, rfl, ?_, ?_⟩, ?_⟩
            · rw [Hts.out, Hrl.out, ← mix_zero]
              refine ownB_keep (K := (· ≠ w.heap.size)) (own_back HO.out (by omega)) ?_ (fun x hx _ ho => ?_)
              · repeat (first | with_reducible exact Keeps.refl _ _ | with_reducible refine Keeps.setCell ?_ ?_ _)
                all_goals simp
              · have := (ownB_lt HO.out ho).1
                show x ≠ _; omega
            · refine (HQ.out.keepB (HK.out.mono fun x hx => by omega)).keepB ?_
              repeat (first | with_reducible exact Keeps.refl _ _ | with_reducible refine Keeps.setCell ?_ ?_ _)
              all_goals (show ¬ w.heap.size ≤ b; omega)
            · have hk9 : Keeps (fun x => x < w.heap.size ∧ x ≠ b) w wr := Keeps.trans HM6.out (HK.out.mono fun x hx => by have := hx.1; omega)
              show Keeps (fun x => x < w.heap.size ∧ x ≠ b) w _
              repeat (first | with_reducible exact hk9 | with_reducible refine Keeps.setCell ?_ ?_ _)
              all_goals (show ¬ (w.heap.size < w.heap.size ∧ _); omega)
          | succ k =>
            obtain ⟨x, hx⟩ : ∃ x, ts[k]? = some x := ⟨_, List.getElem?_eq_getElem (by omega)⟩
            obtain ⟨y, hy⟩ : ∃ y, ts[0]? = some y := ⟨_, List.getElem?_eq_getElem (by omega)⟩
            obtain ⟨g, cp, hA⟩ := ownB_posS HO.out (by omega)
            injection hA with hA1 hA2 hA3
            subst hA1 hA3
            have hm := mix_at f ts (k + 1) k (by omega) x hx
            have hm0 := mix_at f ts (k + 1) 0 (by omega) y hy
            have e0 : (((k + 1 : Nat) : Int) - 1) = (k : Int) := by omega
            rw [e0]
            have hkI : (k : Int) < (ts.length : Int) := by omega
            have ob := ownB_free HO.out (by omega)
            have gc := fun i u (h : (mixC f ts (k + 1))[i]? = some u) => own_newsS HO.out i u h
            have g1 := gc _ _ hm.2
            have g2 := gc _ _ hm0.2
            have g0 := gc _ _ hm.1
            simp only [Addr.add_lit, Nat.zero_add, Nat.mul_zero, Nat.mul_comm 3 k] at g0 g1 g2
            have hx2 := Hps.out x (List.mem_of_getElem? hx)
            have hy2 := Hps.out y (List.mem_of_getElem? hy)
            have hwr : wrap64 ((x.2 : Int) - (y.2 : Int)) = (x.2 : Int) - (y.2 : Int) := by unfold wrap64; omega
            have hl0 := HO.out.1
            have hO2 := ownB_set HO.out (by omega) (k := 3 * k) (by omega) (.int .u8 f)
            have hO3 := ownB_set hO2 (by omega) (k := 3 * k + 2) (by rw [List.length_set]; omega) (.int .i64 ((x.2 : Int) - (y.2 : Int)))
            rw [mix_set f ts k x y hx hy] at hO3
            have hge := (ownB_lt HO.out (b := g) rfl).1
            have hK2 := ((HK.out.setCell (p := ⟨g, 3 * k, none⟩) (by show ¬ g < _; omega) (.int .u8 f)).setCell (p := ⟨g, 3 * k + 2, none⟩) (by show ¬ g < _; omega) (.int .i64 ((x.2 : Int) - (y.2 : Int)))).drew
            simp only [Nat.mul_comm 3 k] at hO3 hK2
            clear gc hm hm0 hO2
            have HO3 := hid hO3
            have HK2 := hid hK2
            clear hO3 hK2
            go_upto_region 22 with fail
            go_region
            go_wp2_with fail
            go_roundw
            case rel => exact ⟨k, by go_num, by omega, HO3, HK2⟩
            case measure => first | (simp [intOf]; done) | (simp [intOf]; omega)
end Go.Proofs.YtbepgbkbpkaodaaDoor
