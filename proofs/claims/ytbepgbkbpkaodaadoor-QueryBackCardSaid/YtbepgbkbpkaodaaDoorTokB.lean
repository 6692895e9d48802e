/- Layer 6 (token): contract of Words. -/
import Derived.Test.YtbepgbkbpkaodaaDoorJTokA
import Derived.Test.YtbepgbkbpkaodaaDoorJFoldB
namespace Go.Proofs.YtbepgbkbpkaodaaDoor
open Go.RowKit

theorem decode_bound (s : ByteArray) (p : Nat) : (Utf8.decode s p).1 ≤ 1114111 := by
  simp only [Utf8.decode]
  repeat' split
  all_goals try simp only [Bool.and_eq_true, Utf8.valid, Bool.or_eq_true, decide_eq_true_eq] at *
  all_goals try (show (65533 : Nat) ≤ 1114111; omega)
  all_goals omega
theorem runesF_bound (s : ByteArray) : ∀ f p, ∀ r ∈ runesF s f p, 0 ≤ r ∧ r ≤ 1114111
  | 0, _, r, h => by cases h
  | f + 1, p, r, h => by
    unfold runesF at h
    split at h
    · rcases List.mem_cons.1 h with rfl | h
      · have := decode_bound s p; omega
      · exact runesF_bound s f _ r h
    · cases h

/-- is it a word's rune -/
def isW (r : Int) : Bool := !(classM r == 0)
def termP (ws : List Int) : ByteArray := fitS 16 (runesS (textS (ws.map foldM)))
def wordsL : Nat → Nat → List Int → List (ByteArray × Nat)
  | 0, _, _ => []
  | _ + 1, _, [] => []
  | f + 1, p, r :: rs => if isW r then (if stopP (termP (r :: rs.takeWhile isW)) then wordsL f (p + 1) ((rs.dropWhile isW).drop 1) else (termP (r :: rs.takeWhile isW), p) :: wordsL f (p + 1) ((rs.dropWhile isW).drop 1)) else wordsL f p rs
def wordsR (p : Nat) (rs : List Int) : List (ByteArray × Nat) := wordsL rs.length p rs
theorem dw_len (rs : List Int) : ((rs.dropWhile isW).drop 1).length ≤ rs.length := by
  have : (rs.dropWhile isW).length ≤ rs.length := (List.dropWhile_sublist isW).length_le
  rw [List.length_drop]; omega
theorem wordsL_more : ∀ (f p : Nat) (rs : List Int), rs.length ≤ f → wordsL (f + 1) p rs = wordsL f p rs
  | 0, p, rs, h => by
    have : rs = [] := List.eq_nil_of_length_eq_zero (by omega)
    subst this; rfl
  | f + 1, p, [], _ => rfl
  | f + 1, p, r :: rs, h => by
    rw [List.length_cons] at h
    have hd := dw_len rs
    unfold wordsL
    rw [wordsL_more f (p + 1) _ (by omega), wordsL_more f p rs (by omega)]
theorem wordsL_any (f p : Nat) (rs : List Int) (h : rs.length ≤ f) : wordsL f p rs = wordsR p rs := by
  obtain ⟨g, rfl⟩ : ∃ g, f = rs.length + g := ⟨f - rs.length, by omega⟩
  clear h
  induction g with
  | zero => rfl
  | succ g ih => rw [← Nat.add_assoc, wordsL_more _ _ _ (by omega)]; exact ih
theorem wordsR_nil (p : Nat) : wordsR p [] = [] := rfl
theorem wordsR_cons (p : Nat) (r : Int) (rs : List Int) : wordsR p (r :: rs) = if isW r then (if stopP (termP (r :: rs.takeWhile isW)) then wordsR (p + 1) ((rs.dropWhile isW).drop 1) else (termP (r :: rs.takeWhile isW), p) :: wordsR (p + 1) ((rs.dropWhile isW).drop 1)) else wordsR p rs := by
  have hd := dw_len rs
  show wordsL (rs.length + 1) p (r :: rs) = _
  unfold wordsL
  rw [wordsL_any _ (p + 1) _ hd]
  rfl

structure WdAt (rs : List Int) (i j : Nat) (wd : List Int) : Prop where
  eq : wd = ((rs.drop i).take (j - i)).map foldM
  tw : (rs.drop i).takeWhile isW = (rs.drop i).take (j - i) ++ (rs.drop j).takeWhile isW
  dw : (rs.drop i).dropWhile isW = (rs.drop j).dropWhile isW
theorem WdAt.start (rs : List Int) (i : Nat) : WdAt rs i i [] := ⟨by simp, by simp, rfl⟩
theorem WdAt.step {rs : List Int} {i j : Nat} {wd : List Int} (h : WdAt rs i j wd) {r : Int} (hr : rs[j]? = some r) (hw : isW r = true) (hij : i ≤ j) : WdAt rs i (j + 1) (wd ++ [foldM r]) := by
  have hd : rs.drop j = r :: rs.drop (j + 1) := by
    obtain ⟨h9, h8⟩ := List.getElem?_eq_some_iff.1 hr
    rw [List.drop_eq_getElem_cons h9, h8]
  have ht : (rs.drop i).take (j + 1 - i) = (rs.drop i).take (j - i) ++ [r] := by
    rw [show j + 1 - i = (j - i) + 1 by omega, List.take_add_one, List.getElem?_drop, show i + (j - i) = j by omega, hr]; rfl
  have htw := h.tw
  have hdw := h.dw
  rw [hd, List.takeWhile_cons_of_pos hw] at htw
  rw [hd, List.dropWhile_cons_of_pos hw] at hdw
  exact ⟨by rw [ht, h.eq, List.map_append]; rfl, by rw [ht, htw, List.append_assoc]; rfl, hdw⟩
theorem WdAt.stop {rs : List Int} {i j : Nat} {wd : List Int} (h : WdAt rs i j wd) (hs : ∀ r, rs[j]? = some r → isW r = false) : wd = ((rs.drop i).takeWhile isW).map foldM ∧ ((rs.drop i).dropWhile isW).drop 1 = rs.drop (j + 1) := by
  by_cases hj : j < rs.length
  · have hr := List.getElem?_eq_getElem hj
    have hd : rs.drop j = rs[j] :: rs.drop (j + 1) := List.drop_eq_getElem_cons hj
    have hw := hs _ hr
    have htw := h.tw
    have hdw := h.dw
    rw [hd, List.takeWhile_cons_of_neg (by rw [hw]; decide), List.append_nil] at htw
    rw [hd, List.dropWhile_cons_of_neg (by rw [hw]; decide)] at hdw
    exact ⟨by rw [htw]; exact h.eq, by rw [hdw]; rfl⟩
  · have hd : rs.drop j = [] := List.drop_eq_nil_of_le (by omega)
    have htw := h.tw
    have hdw := h.dw
    rw [hd] at htw hdw
    rw [List.takeWhile_nil, List.append_nil] at htw
    exact ⟨by rw [htw]; exact h.eq, by rw [hdw, List.drop_eq_nil_of_le (by omega : rs.length ≤ j + 1)]; rfl⟩
theorem wordsR_word {p : Nat} {D rest : List Int} {r : Int} (hD : D = r :: rest) (hw : isW r = true) : wordsR p D = if stopP (termP (D.takeWhile isW)) then wordsR (p + 1) ((D.dropWhile isW).drop 1) else (termP (D.takeWhile isW), p) :: wordsR (p + 1) ((D.dropWhile isW).drop 1) := by
  subst hD
  rw [wordsR_cons, if_pos hw, List.takeWhile_cons_of_pos hw, List.dropWhile_cons_of_pos hw]

def tokC (t : ByteArray × Nat) : List Value := [.int .u8 0, .string t.1, .int .i64 (t.2 : Int)]
/-- an own row of words in a new block -/
def TokRow (w0 w : World) (v : Value) (ts : List (ByteArray × Nat)) : Prop := w.ownsRow w0.heap.size 42 3 v ts.length (ts.flatMap tokC) ∧ Keeps (· < w0.heap.size) w0 w
theorem Tryd.infoTok : (Tryd.prog.info? 42).map (fun i => (i.zero, i.size, i.bytes)) = some (some (.agg #[.int .u8 0, .string ⟨#[]⟩, .int .i64 0]), 3, 32) := by kernel_rfl
theorem TokRow.calls {w0 w w' : World} {v : Value} {ts : List (ByteArray × Nat)} (h : TokRow w0 w v ts) (k : Keeps (· < w.heap.size) w w') : TokRow w0 w' v ts :=
  ⟨ownB_keepS h.1 k, h.2.trans (k.mono fun b hb => Nat.lt_of_lt_of_le hb h.2.size)⟩
theorem TokRow.push {w0 wr w' : World} {T : TypeId} {v v' : Value} {acc : List (ByteArray × Nat)} {x : ByteArray × Nat} (h : TokRow w0 wr v acc) (hown : w'.ownsRow w0.heap.size 42 3 v' (acc.length + 1) (acc.flatMap tokC ++ tokC x)) (hg : (wr.alloc (.cells (tokC x).toArray T)).grownBy w' v.ownBlock) : TokRow w0 w' v' (acc ++ [x]) := by
  refine ⟨by rw [List.flatMap_append, List.length_append]; simpa using hown, ?_⟩
  have hB := h.2.size
  exact keeps_grown (h.2.alloc (fun b hb => by omega) _) (by simp; omega) (ownB_keepS h.1 ((Keeps.refl _ _).alloc (fun b hb => hb) _)) hg
theorem own_back {w : World} {B B' : Nat} {E : TypeId} {n sz : Nat} {v : Value} {xs : List Value} (h : w.ownsRow B E sz v n xs) (hB : B' ≤ B) : w.ownsRow B' E sz v n xs := by
  refine ⟨h.1, ?_⟩
  rcases h.2 with h1 | ⟨g, c, cur, h1, h2, h3⟩
  · exact Or.inl h1
  · exact Or.inr ⟨g, c, cur, h1, by omega, h3⟩
theorem TokRow.back {w0 w1 w : World} {v : Value} {ts : List (ByteArray × Nat)} (h : TokRow w1 w v ts) (k : Keeps (· < w0.heap.size) w0 w1) : TokRow w0 w v ts := by
  have := k.size
  exact ⟨own_back h.1 this, k.trans (h.2.mono fun b hb => by omega)⟩
theorem oneTok (x : ByteArray × Nat) : ∀ u ∈ tokC x, u.oneCell' = true := by
  intro u hu
  simp only [tokC, List.mem_cons, List.not_mem_nil, or_false] at hu
  rcases hu with rfl | rfl | rfl <;> rfl

set_option maxRecDepth 100000 in
set_option maxHeartbeats 4000000 in
theorem token_words (s : ByteArray) (hs : s.size ≤ 1000000) (w : World) (hT : FoldTab w) :
    Calls Tryd.prog 56 #[.string s] w fun e w' => ∃ v, e = .returned v ∧ TokRow w w' v (wordsR 0 (runesS s)) := by
  have HT := hid hT
  clear hT
  refine calls_hide fun R' hR' => ?_
  go_enter Tryd.func56, Tryd.ntmps56
  go_wp2_with fail
  go_step3
  go_wp2_with fail
  refine (utf_runes s (by omega) w).mono ?_
  rintro e w1 ⟨v, rfl, hN⟩
  have hrl : (runesS s).length ≤ s.size := runesF_len s s.size 0
  have hrb : ∀ r ∈ runesS s, 0 ≤ r ∧ r ≤ 1114111 := runesF_bound s s.size 0
  generalize runesS s = rs at *
  obtain ⟨A0, c0, rfl⟩ := ownB_form hN.1
  have hS := ownB_slAt hN.1
  have hT1 := HT.out.keep hN.2
  have hw1 := hN.2.size
  have HS := hid hS
  have HT1 := hid hT1
  have Hrb := hid hrb
  clear hS hT1 hrb
  have HK0 := hid hN.2
  clear hN HT
  go_wp2_with fail
  go_step3
  go_wp2_with fail
  go_loopw [4, 5, 6] (fun ov pv iv wr => ∃ (i place : Nat) (acc : List (ByteArray × Nat)) (A : Option Addr) (cp : Nat), ov = .slice A acc.length cp ∧ pv = .int .i64 (place : Int) ∧ iv = .int .i64 (i : Int) ∧ i ≤ rs.length + 1 ∧ place ≤ i ∧ acc.length ≤ i ∧ Hid (TokRow w1 wr (.slice A acc.length cp) acc) ∧ Hid (acc ++ wordsR place (rs.drop i) = wordsR 0 rs)) (fun _ _ iv _ => rs.length + 2 - (intOf iv).toNat)
  case atStart => exact ⟨0, 0, [], none, 0, rfl, rfl, rfl, Nat.zero_le _, Nat.le_refl _, Nat.le_refl _, hid ⟨⟨rfl, Or.inl ⟨rfl, rfl⟩⟩, Keeps.refl _ _⟩, hid rfl⟩
  case round =>
    obtain ⟨i, place, acc, A, cp, rfl, rfl, rfl, hi, hpi, hai, HR, HE⟩ := hrel
    by_cases hlt : i < rs.length
    · have hltI : (i : Int) < (rs.length : Int) := by omega
      obtain ⟨r, hr⟩ : ∃ r, rs[i]? = some r := ⟨_, List.getElem?_eq_getElem hlt⟩
      have hrr := Hrb.out r (List.mem_of_getElem? hr)
      obtain ⟨b, off, c9, hv, hb, hc⟩ := (HS.out.keep HR.out.2 (fun b hb => hb.2)).get i r hr
      injection hv with hA h2 h3
      subst hA h3
      have hd : rs.drop i = r :: rs.drop (i + 1) := by
        obtain ⟨h9, h8⟩ := List.getElem?_eq_some_iff.1 hr
        rw [List.drop_eq_getElem_cons h9, h8]
      have hex := HE.out
      have hTr := HT1.out.keep HR.out.2
      by_cases hcl : classM r = 0
      · have hw : isW r = false := by unfold isW; simp [hcl]
        rw [hd, wordsR_cons, hw, if_neg (by simp)] at hex
        have hcb : (classM r == 0) = true := by simp [hcl]
        clear hw hcl hr hd HE
        have Hex := hid hex
        have HTr := hid hTr
        clear hex hTr
        go_wp2_with fail
        refine (fold_class r (by omega) wr HTr.out).mono ?_
        rintro e w2 ⟨rfl, hk⟩
        have hR2 := HR.out.calls hk
        clear HR hk
        have HR2 := hid hR2
        clear hR2
        go_wp2_with fail
        go_roundw
        case rel => exact ⟨i + 1, place, acc, A, cp, rfl, rfl, by go_num, by omega, by omega, by omega, HR2, Hex⟩
        case measure => first | (simp [intOf]; done) | (simp [intOf]; omega)
      · have hw : isW r = true := by unfold isW; simp [hcl]
        rw [wordsR_word hd hw] at hex
        have hcb : (classM r == 0) = false := by simpa using hcl
        clear hw hcl hr hd HE
        have Hex := hid hex
        have HTr := hid hTr
        clear hex hTr
        go_wp2_with fail
        refine (fold_class r (by omega) wr HTr.out).mono ?_
        rintro e w2 ⟨rfl, hk⟩
        have hR2 := HR.out.calls hk
        clear HR hk
        have HR2 := hid hR2
        clear hR2
        go_wp2_with fail
        go_loopw [6, 7] (fun jv wv ws => ∃ (j : Nat) (wd : List Int) (A2 : Option Addr) (c2 : Nat), jv = .int .i64 (j : Int) ∧ wv = .slice A2 wd.length c2 ∧ i ≤ j ∧ j ≤ rs.length ∧ wd.length ≤ j ∧ Hid (NewRow w2 ws 21 (Value.int .i32) (.slice A2 wd.length c2) wd) ∧ Hid (WdAt rs i j wd)) (fun jv _ _ => rs.length - (intOf jv).toNat)
        case atStart => exact ⟨i, [], none, 0, rfl, rfl, Nat.le_refl _, by omega, Nat.zero_le _, hid ⟨⟨rfl, Or.inl ⟨rfl, rfl⟩⟩, Keeps.refl _ _⟩, hid (WdAt.start _ _)⟩
        case round =>
          rename World => ws
          obtain ⟨j, wd, A2, c2, rfl, rfl, hij, hj, hwj, HW, HD⟩ := hrel
          have hT2 := (HT1.out.keep HR2.out.2).keep HW.out.2
          have hw12 := HR2.out.2.size
          have hw23 := HW.out.2.size
          have hS2 := (HS.out.keep HR2.out.2 (fun b hb => hb.2)).keep HW.out.2 (fun b hb => Nat.lt_of_lt_of_le hb.2 hw12)
          by_cases hlt2 : j < rs.length
          · have hltI2 : (j : Int) < (rs.length : Int) := by omega
            obtain ⟨r2, hr2⟩ : ∃ r, rs[j]? = some r := ⟨_, List.getElem?_eq_getElem hlt2⟩
            have hrr2 := Hrb.out r2 (List.mem_of_getElem? hr2)
            obtain ⟨b2, off2, c92, hv2, hb2, hc2⟩ := hS2.get j r2 hr2
            injection hv2 with hA2 h22 h32
            cases hA2
            subst h32
            by_cases hcl2 : classM r2 = 0
            · have hcb2 : (classM r2 == 0) = true := by simp [hcl2]
              have hcb3 : (!(classM r2 == 0)) = false := by simp [hcl2]
              have hst := HD.out.stop (fun r h => by rw [hr2] at h; cases h; unfold isW; simp [hcl2])
              have Hst := hid hst
              have HT2 := hid hT2
              clear hst hT2
              clear hcl2 hr2 hS2 HD
              go_wp2_with fail
              refine (fold_class r2 (by omega) ws HT2.out).mono ?_
              rintro e w3 ⟨rfl, hk⟩
              have HW3 := hid ((⟨ownB_keepS HW.out.1 hk, HW.out.2.trans (hk.mono fun b hb => Nat.lt_of_lt_of_le hb hw23)⟩ : NewRow w2 w3 21 (Value.int .i32) (.slice A2 wd.length c2) wd))
              clear hk HW
              go_wp2_with fail
              have htx : (textS wd).size ≤ 4000000 := by
                have := textB_len wd
                show (textB wd).length ≤ _
                omega
              have hks := HW3.out.2.size
              refine (utf_text wd (by omega) A2 c2 w3 _ (fun b hb => hb.2) (ownB_slAt HW3.out.1)).mono ?_
              rintro e w4 ⟨rfl, hk4⟩
              go_wp2_with fail
              refine (utf_fit (textS wd) (by omega) 16 (by omega) w4).mono ?_
              rintro e w5 ⟨rfl, hk5⟩
              have htm : fitS 16 (runesS (textS wd)) = termP ((rs.drop i).takeWhile isW) := by unfold termP; rw [← Hst.out.1]
              rw [htm]
              have hex := Hex.out
              rw [Hst.out.2] at hex
              have hR5 := HR2.out.calls ((HW3.out.2.trans (hk4.mono fun b hb => by omega)).trans (hk5.mono fun b hb => by have := hk4.size; omega))
              clear htm
              generalize textS wd = tx at *
              generalize termP ((rs.drop i).takeWhile isW) = tm at *
              have Hex5 := hid hex
              have HR5 := hid hR5
              clear hex hR5
              clear Hex Hst hk4 hk5
              go_wp2_with fail
              refine (token_stop tm w5).mono ?_
              rintro e w6 ⟨rfl, rfl⟩
              by_cases hsp : stopP tm = true
              · have hex := Hex5.out
                rw [if_pos hsp] at hex
                have Hex2 := hid hex
                clear hex
                clear Hex5
                go_wp2_with fail
                go_roundw
                case rel => exact ⟨j + 1, place + 1, acc, A, cp, rfl, by go_num, by go_num, by omega, by omega, by omega, HR5, Hex2⟩
                case measure => first | (simp [intOf]; done) | (simp [intOf]; omega)
              · have hex := Hex5.out
                rw [if_neg hsp] at hex
                have hspb : stopP tm = false := by simpa using hsp
                have hex2 : (acc ++ [(tm, place)]) ++ wordsR (place + 1) (rs.drop (j + 1)) = wordsR 0 rs := by rw [← hex]; simp
                have Hex2 := hid hex2
                clear hex2
                clear Hex5 hex
                have hk6 := HR5.out.2.size
                obtain ⟨i0, hi, hz0, hz1, hz2⟩ := info_partsF Tryd.infoTok
                go_wp2_with (at_builtin; go_must (refine wpList_append_own_at _ rfl _ _ 23 rfl (w1.heap.size) 42 i0 (.agg #[.int .u8 0, .string ⟨#[]⟩, .int .i64 0]) 3 32 Tryd.underlying23 hi hz0 hz1 hz2 rfl (by decide) (.slice A acc.length cp) acc.length (acc.flatMap tokC) rfl (ownB_keepS HR5.out.1 ((Keeps.refl _ _).alloc (fun b hb => hb) _)) ⟨w5.heap.size, 0, none⟩ 1 1 [.int .u8 0, .string tm, .int .i64 (place : Int)] rfl (by simp) (own_newsS (own_lit w5 0 _ _ 3 1 [.int .u8 0, .string tm, .int .i64 (place : Int)] rfl rfl (by decide) (Nat.zero_le _))) ?_ ?_ ?_ ?_ ?_))
                all_goals (try (first | with_reducible exact one1 _ _ | with_reducible exact one2 _ _ _ | with_reducible exact one4 _ _ _ _ _ | with_reducible exact oneM _ _ | exact rfl | exact fun _ _ => rfl | exact ⟨rfl, rfl⟩ | exact ⟨rfl, rfl, rfl⟩ | exact ⟨rfl, rfl, rfl, rfl⟩ | (unfold maxLen; omega) | omega | (simp; omega) | (simp; done)))
                (try clear hi)
                (try clear hz0)
                (try clear hz1)
                (try clear hz2)
                all_goals (try (first | exact oneTok (tm, place) | (have := hai; simp only [maxLen]; omega)))
                intro v' w7 hown hgr _ hf
                have hN := HR5.out.push (x := (tm, place)) hown hgr
                obtain ⟨A', cp', rfl⟩ := ownB_form hown
                clear hown hgr hf HR5
                have HN := hid hN
                clear hN
                go_wp2_with fail
                go_roundw
                case rel => exact ⟨j + 1, place + 1, acc ++ [(tm, place)], A', cp', by simp, by go_num, by go_num, by omega, by omega, by simp; omega, by simpa using HN, Hex2⟩
                case measure => first | (simp [intOf]; done) | (simp [intOf]; omega)
            · have hcb2 : (classM r2 == 0) = false := by simpa using hcl2
              have hwr : isW r2 = true := by unfold isW; simp [hcl2]
              have hds := HD.out.step hr2 hwr hij
              have Hds := hid hds
              have HT2 := hid hT2
              clear hds hT2
              clear hwr hcl2 hr2 hS2 HD
              go_wp2_with fail
              refine (fold_class r2 (by omega) ws HT2.out).mono ?_
              rintro e w3 ⟨rfl, hk⟩
              have hc3 := (World.cell?_of_block (a := ⟨b, off + j, none⟩) (hk.block b (by omega))).trans hc2
              have hT3 := HT2.out.keep hk
              have HW3 := hid ((⟨ownB_keepS HW.out.1 hk, HW.out.2.trans (hk.mono fun b hb => Nat.lt_of_lt_of_le hb hw23)⟩ : NewRow w2 w3 21 (Value.int .i32) (.slice A2 wd.length c2) wd))
              have hk3 := hk.size
              clear hk HW HT2
              have HT3 := hid hT3
              clear hT3
              go_wp2_with fail
              refine (fold_fold r2 (by omega) w3 HT3.out).mono ?_
              rintro e w4 ⟨rfl, hk4⟩
              have HW4 := hid ((⟨ownB_keepS HW3.out.1 hk4, HW3.out.2.trans (hk4.mono fun b hb => by omega)⟩ : NewRow w2 w4 21 (Value.int .i32) (.slice A2 wd.length c2) wd))
              have hk5 := HW4.out.2.size
              clear HW3 hk4
              generalize foldM r2 = fr at *
              obtain ⟨i0, hi, hz0, hz1, hz2⟩ := info_partsF Tryd.infoI32
              go_wp2_with (at_builtin; go_must (refine wpList_append_own_at _ rfl _ _ 34 rfl (w2.heap.size) 21 i0 (.int .i32 0) 1 4 Tryd.underlying34 hi hz0 hz1 hz2 rfl (by decide) (.slice A2 wd.length c2) wd.length (wd.map (Value.int .i32)) rfl (ownB_keepS HW4.out.1 ((Keeps.refl _ _).alloc (fun b hb => hb) _)) ⟨w4.heap.size, 0, none⟩ 1 1 [.int .i32 fr] rfl (by simp) (own_news (own_lit w4 0 _ _ 1 1 [.int .i32 fr] rfl rfl (by decide) (Nat.zero_le _))) ?_ ?_ ?_ ?_ ?_))
              all_goals (try (first | with_reducible exact one1 _ _ | with_reducible exact one2 _ _ _ | with_reducible exact one4 _ _ _ _ _ | with_reducible exact oneM _ _ | exact rfl | exact fun _ _ => rfl | exact ⟨rfl, rfl⟩ | exact ⟨rfl, rfl, rfl⟩ | exact ⟨rfl, rfl, rfl, rfl⟩ | (unfold maxLen; omega) | omega | (simp; omega) | (simp; done)))
              (try clear hi)
              (try clear hz0)
              (try clear hz1)
              (try clear hz2)
              intro v' w6 hown hgr _ hf
              have hN := NewRow.push HW4.out hown hgr
              obtain ⟨A', cp', rfl⟩ := ownB_form hown
              clear hown hgr hf HW4
              have HN := hid hN
              clear hN
              go_wp2_with fail
              go_roundw
              case rel => exact ⟨j + 1, wd ++ [fr], A', cp', by go_num, by simp, by omega, by omega, by simp; omega, by simpa using HN, Hds⟩
              case measure => first | (simp [intOf]; done) | (simp [intOf]; omega)
          · have hst := HD.out.stop (fun r h => by rw [List.getElem?_eq_none (by omega)] at h; cases h)
            have hltI2 : ¬ (j : Int) < (rs.length : Int) := by omega
            obtain ⟨w3, rfl⟩ : ∃ x, x = ws := ⟨_, rfl⟩
            have HW3 := HW
            clear HW HD hS2 hT2
            have Hst := hid hst
            clear hst
            go_wp2_with fail
            have htx : (textS wd).size ≤ 4000000 := by
              have := textB_len wd
              show (textB wd).length ≤ _
              omega
            have hks := HW3.out.2.size
            refine (utf_text wd (by omega) A2 c2 w3 _ (fun b hb => hb.2) (ownB_slAt HW3.out.1)).mono ?_
            rintro e w4 ⟨rfl, hk4⟩
            go_wp2_with fail
            refine (utf_fit (textS wd) (by omega) 16 (by omega) w4).mono ?_
            rintro e w5 ⟨rfl, hk5⟩
            have htm : fitS 16 (runesS (textS wd)) = termP ((rs.drop i).takeWhile isW) := by unfold termP; rw [← Hst.out.1]
            rw [htm]
            have hex := Hex.out
            rw [Hst.out.2] at hex
            have hR5 := HR2.out.calls ((HW3.out.2.trans (hk4.mono fun b hb => by omega)).trans (hk5.mono fun b hb => by have := hk4.size; omega))
            clear htm
            generalize textS wd = tx at *
            generalize termP ((rs.drop i).takeWhile isW) = tm at *
            have Hex5 := hid hex
            have HR5 := hid hR5
            clear hex hR5
            clear Hex Hst hk4 hk5
            go_wp2_with fail
            refine (token_stop tm w5).mono ?_
            rintro e w6 ⟨rfl, rfl⟩
            by_cases hsp : stopP tm = true
            · have hex := Hex5.out
              rw [if_pos hsp] at hex
              have Hex2 := hid hex
              clear hex
              clear Hex5
              go_wp2_with fail
              go_roundw
              case rel => exact ⟨j + 1, place + 1, acc, A, cp, rfl, by go_num, by go_num, by omega, by omega, by omega, HR5, Hex2⟩
              case measure => first | (simp [intOf]; done) | (simp [intOf]; omega)
            · have hex := Hex5.out
              rw [if_neg hsp] at hex
              have hspb : stopP tm = false := by simpa using hsp
              have hex2 : (acc ++ [(tm, place)]) ++ wordsR (place + 1) (rs.drop (j + 1)) = wordsR 0 rs := by rw [← hex]; simp
              have Hex2 := hid hex2
              clear hex2
              clear Hex5 hex
              have hk6 := HR5.out.2.size
              obtain ⟨i0, hi, hz0, hz1, hz2⟩ := info_partsF Tryd.infoTok
              go_wp2_with (at_builtin; go_must (refine wpList_append_own_at _ rfl _ _ 23 rfl (w1.heap.size) 42 i0 (.agg #[.int .u8 0, .string ⟨#[]⟩, .int .i64 0]) 3 32 Tryd.underlying23 hi hz0 hz1 hz2 rfl (by decide) (.slice A acc.length cp) acc.length (acc.flatMap tokC) rfl (ownB_keepS HR5.out.1 ((Keeps.refl _ _).alloc (fun b hb => hb) _)) ⟨w5.heap.size, 0, none⟩ 1 1 [.int .u8 0, .string tm, .int .i64 (place : Int)] rfl (by simp) (own_newsS (own_lit w5 0 _ _ 3 1 [.int .u8 0, .string tm, .int .i64 (place : Int)] rfl rfl (by decide) (Nat.zero_le _))) ?_ ?_ ?_ ?_ ?_))
              all_goals (try (first | with_reducible exact one1 _ _ | with_reducible exact one2 _ _ _ | with_reducible exact one4 _ _ _ _ _ | with_reducible exact oneM _ _ | exact rfl | exact fun _ _ => rfl | exact ⟨rfl, rfl⟩ | exact ⟨rfl, rfl, rfl⟩ | exact ⟨rfl, rfl, rfl, rfl⟩ | (unfold maxLen; omega) | omega | (simp; omega) | (simp; done)))
              (try clear hi)
              (try clear hz0)
              (try clear hz1)
              (try clear hz2)
              all_goals (try (first | exact oneTok (tm, place) | (have := hai; simp only [maxLen]; omega)))
              intro v' w7 hown hgr _ hf
              have hN := HR5.out.push (x := (tm, place)) hown hgr
              obtain ⟨A', cp', rfl⟩ := ownB_form hown
              clear hown hgr hf HR5
              have HN := hid hN
              clear hN
              go_wp2_with fail
              go_roundw
              case rel => exact ⟨j + 1, place + 1, acc ++ [(tm, place)], A', cp', by simp, by go_num, by go_num, by omega, by omega, by simp; omega, by simpa using HN, Hex2⟩
              case measure => first | (simp [intOf]; done) | (simp [intOf]; omega)
    · have hex := HE.out
      rw [List.drop_eq_nil_of_le (by omega), wordsR_nil, List.append_nil] at hex
      have Hex := hid hex
      clear hex
      go_wp2_with fail
      exact hR'.out _ _ ⟨_, rfl, by have := HR.out.back HK0.out; rw [← Hex.out]; exact this⟩
end Go.Proofs.YtbepgbkbpkaodaaDoor
