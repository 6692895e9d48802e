/- Case plays no part: of the parse alone. -/
import Derived.Test.YtbepgbkbpkaodaaDoorBlankP
import Derived.Test.YtbepgbkbpkaodaaDoorRef5
import Derived.Test.YtbepgbkbpkaodaaDoorRefU
namespace Go.Proofs.YtbepgbkbpkaodaaDoor
open Go.RowKit

def ascI (l : List Int) : Prop := ∀ r ∈ l, 0 ≤ r ∧ r ≤ 127
def foldsL (l : List Int) : List Int := l.map foldM
theorem fold127 {r : Int} (h : 0 ≤ r ∧ r ≤ 127) : foldM r = if 65 ≤ r ∧ r ≤ 90 then r + 32 else r := by rw [foldM_ifs]; omega
theorem class127 {r : Int} (h : 0 ≤ r ∧ r ≤ 127) : classM r = if 48 ≤ r ∧ r ≤ 57 then 2 else if (65 ≤ r ∧ r ≤ 90) ∨ (97 ≤ r ∧ r ≤ 122) then 1 else 0 := by rw [classM_ifs]; omega
theorem fold_rng {r : Int} (h : 0 ≤ r ∧ r ≤ 127) : 0 ≤ foldM r ∧ foldM r ≤ 127 := by rw [fold127 h]; omega
theorem fold_isBl {r : Int} (h : 0 ≤ r ∧ r ≤ 127) : isBl (foldM r) = isBl r := by
  rw [fold127 h]
  split
  · unfold isBl
    rw [show (r + 32 == 32) = false by simp; omega, show (r + 32 == 9) = false by simp; omega, show (r + 32 == 10) = false by simp; omega, show (r + 32 == 13) = false by simp; omega,
      show (r == 32) = false by simp; omega, show (r == 9) = false by simp; omega, show (r == 10) = false by simp; omega, show (r == 13) = false by simp; omega]
  · rfl
theorem fold_isW {r : Int} (h : 0 ≤ r ∧ r ≤ 127) : isW (foldM r) = isW r := by
  unfold isW
  rw [class127 (fold_rng h), class127 h]
  have := fold127 h
  generalize foldM r = x at *
  congr 2
  by_cases h1 : 65 ≤ r ∧ r ≤ 90
  · rw [if_pos h1] at this
    subst this
    rw [if_neg (by omega), if_pos (by omega), if_neg (by omega), if_pos (by omega)]
  · rw [if_neg h1] at this
    subst this
    rfl
theorem fold_eqc {r : Int} (h : 0 ≤ r ∧ r ≤ 127) (c : Int) (hc : ¬ (65 ≤ c ∧ c ≤ 90) ∧ ¬ (97 ≤ c ∧ c ≤ 122)) : (foldM r = c ↔ r = c) := by rw [fold127 h]; omega
theorem fold_idem {r : Int} (h : 0 ≤ r ∧ r ≤ 127) : foldM (foldM r) = foldM r := by
  rw [fold127 (fold_rng h)]
  have := fold127 h
  omega
theorem ascI.tail {a : Int} {l : List Int} (h : ascI (a :: l)) : ascI l := fun r hr => h r (List.mem_cons_of_mem _ hr)
theorem ascI.suf {l x : List Int} (h : ascI l) (hs : x <:+ l) : ascI x := fun r hr => h r (hs.subset hr)
theorem ascI.sub {l x : List Int} (h : ascI l) (hs : x.Sublist l) : ascI x := fun r hr => h r (hs.subset hr)
theorem folds_dw (f : Int → Bool) (hf : ∀ r, 0 ≤ r ∧ r ≤ 127 → f (foldM r) = f r) : ∀ {l : List Int}, ascI l → (foldsL l).dropWhile f = foldsL (l.dropWhile f) ∧ (foldsL l).takeWhile f = foldsL (l.takeWhile f)
  | [], _ => ⟨rfl, rfl⟩
  | a :: l, h => by
    have ha := h a List.mem_cons_self
    have ih := folds_dw f hf h.tail
    show (foldM a :: foldsL l).dropWhile f = _ ∧ (foldM a :: foldsL l).takeWhile f = _
    by_cases hx : f a = true
    · have hx2 : f (foldM a) = true := by rw [hf a ha]; exact hx
      rw [List.dropWhile_cons_of_pos hx2, List.takeWhile_cons_of_pos hx2, List.dropWhile_cons_of_pos hx, List.takeWhile_cons_of_pos hx, ih.1, ih.2]
      exact ⟨rfl, rfl⟩
    · have hx2 : ¬ f (foldM a) = true := by rw [hf a ha]; exact hx
      rw [List.dropWhile_cons_of_neg hx2, List.takeWhile_cons_of_neg hx2, List.dropWhile_cons_of_neg hx, List.takeWhile_cons_of_neg hx]
      exact ⟨rfl, rfl⟩
theorem folds_skip {l : List Int} (h : ascI l) : skipS (foldsL l) = foldsL (skipS l) := (folds_dw isBl (fun _ h => fold_isBl h) h).1
theorem dw_suf {α : Type} (f : α → Bool) (l : List α) : l.dropWhile f <:+ l := List.dropWhile_suffix f
theorem skip_suf (l : List Int) : skipS l <:+ l := dw_suf _ _
theorem after_suf (ch : Int) (l : List Int) : afterS ch l <:+ l := by
  unfold afterS
  split
  · exact (List.tail_suffix _).trans (skip_suf l)
  · exact skip_suf l
def signC (ch : Int) : Prop := ¬ (65 ≤ ch ∧ ch ≤ 90) ∧ ¬ (97 ≤ ch ∧ ch ≤ 122)
theorem folds_head {l : List Int} (h : ascI l) (ch : Int) (hc : signC ch) : ((foldsL l).head? == some ch) = (l.head? == some ch) := by
  cases l with
  | nil => rfl
  | cons a l =>
    have ha := h a List.mem_cons_self
    have := fold_eqc ha ch hc
    show (some (foldM a) == some ch) = (some a == some ch)
    by_cases hx : a = ch
    · rw [this.2 hx, hx]
    · have hy : foldM a ≠ ch := fun e => hx (this.1 e)
      rw [show (some (foldM a) == some ch) = false by simpa using hy, show (some a == some ch) = false by simpa using hx]
theorem folds_sign {l : List Int} (h : ascI l) (ch : Int) (hc : signC ch) : signS ch (foldsL l) = signS ch l := by
  unfold signS
  rw [folds_skip h]
  exact folds_head (h.suf (skip_suf l)) ch hc
theorem folds_after {l : List Int} (h : ascI l) (ch : Int) (hc : signC ch) : afterS ch (foldsL l) = foldsL (afterS ch l) := by
  unfold afterS
  rw [folds_sign h ch hc, folds_skip h]
  split
  · unfold foldsL; rw [List.map_tail]
  · rfl
theorem folds_begin {l : List Int} (h : ascI l) : beginS (foldsL l) = beginS l := by
  cases l with
  | nil => rfl
  | cons a l =>
    have ha := h a List.mem_cons_self
    show (foldM a == 34 || foldM a == 40 || foldM a == 33 || isW (foldM a)) = (a == 34 || a == 40 || a == 33 || isW a)
    have e : ∀ c : Int, signC c → (foldM a == c) = (a == c) := fun c hc => by
      have := fold_eqc ha c hc
      by_cases hx : a = c
      · rw [this.2 hx, hx]
      · rw [show (foldM a == c) = false by simpa using fun e => hx (this.1 e), show (a == c) = false by simpa using hx]
    rw [e 34 (by unfold signC; omega), e 40 (by unfold signC; omega), e 33 (by unfold signC; omega), fold_isW ha]

/-- the bytes of runes that are no more than 127 -/
def ascB (l : List Int) : List UInt8 := l.map fun r => UInt8.ofNat r.toNat
theorem textB_asc : ∀ {l : List Int}, ascI l → textB l = ascB l
  | [], _ => rfl
  | a :: l, h => by
    have ha := h a List.mem_cons_self
    have he : encB a = [UInt8.ofNat a.toNat] := by
      have hv : Utf8.valid a = true := by
        rw [valid_eq]
        simp only [Bool.or_eq_true, Bool.and_eq_true, decide_eq_true_eq]
        omega
      rw [encB_of a a.toNat (by rw [if_pos hv]), if_pos (by omega)]
    rw [textB_cons, he, textB_asc h.tail]; rfl
theorem ofNat_asc {r : Int} (h : 0 ≤ r ∧ r ≤ 127) : ((UInt8.ofNat r.toNat).toNat : Int) = r := by
  rw [UInt8.toNat_ofNat']
  omega
theorem ascB_back : ∀ {l : List Int}, ascI l → (ascB l).map (fun c => (c.toNat : Int)) = l
  | [], _ => rfl
  | a :: l, h => by
    show ((UInt8.ofNat a.toNat).toNat : Int) :: (ascB l).map (fun c => (c.toNat : Int)) = _
    rw [ascB_back h.tail, ofNat_asc (h a List.mem_cons_self)]
theorem runes_text {l : List Int} (h : ascI l) : runesS (textS l) = l := by
  rw [runesS_B]
  show runesB (textB l) = l
  rw [textB_asc h, runesB_all, ascB_back h]
  intro c hc
  unfold ascB at hc
  obtain ⟨r, hr, rfl⟩ := List.mem_map.1 hc
  have h1 := h r hr
  have h2 := ofNat_asc h1
  omega
theorem textS_len {l : List Int} (h : ascI l) : (textS l).size = l.length := by
  rw [textS_size, textB_asc h]
  unfold ascB; simp
theorem folds_asc {l : List Int} (h : ascI l) : ascI (foldsL l) := fun r hr => by
  unfold foldsL at hr
  obtain ⟨x, hx, rfl⟩ := List.mem_map.1 hr
  exact fold_rng (h x hx)
theorem folds_len (l : List Int) : (foldsL l).length = l.length := by unfold foldsL; simp
theorem term_folds {ws : List Int} (h : ascI ws) : termP (foldsL ws) = termP ws := by
  unfold termP foldsL
  rw [List.map_map]
  congr 3
  refine List.map_congr_left fun r hr => ?_
  exact fold_idem (h r hr)
theorem words_folds : ∀ (f p : Nat) {l : List Int}, ascI l → wordsL f p (foldsL l) = wordsL f p l
  | 0, _, _, _ => by unfold wordsL; rfl
  | _ + 1, _, [], _ => rfl
  | f + 1, p, r :: rs, h => by
    have hr := h r List.mem_cons_self
    have hd := folds_dw isW (fun _ h => fold_isW h) h.tail
    show wordsL (f + 1) p (foldM r :: foldsL rs) = _
    have e2 : foldM r :: foldsL (rs.takeWhile isW) = foldsL (r :: rs.takeWhile isW) := rfl
    have e3 : (foldsL (rs.dropWhile isW)).drop 1 = foldsL ((rs.dropWhile isW).drop 1) := by unfold foldsL; rw [List.map_drop]
    have ht := term_folds (ws := r :: rs.takeWhile isW) (h.sub (List.Sublist.cons_cons _ (List.takeWhile_sublist _)))
    have hs : ascI ((rs.dropWhile isW).drop 1) := h.tail.suf ((List.drop_suffix _ _).trans (dw_suf _ _))
    have i1 := words_folds f (p + 1) hs
    have i2 := words_folds f p h.tail
    unfold wordsL
    rw [hd.1, hd.2, fold_isW hr, e2, e3, ht, i1, i2]
theorem wordsR_folds {l : List Int} (h : ascI l) : wordsR 0 (foldsL l) = wordsR 0 l := by
  unfold wordsR
  rw [folds_len]
  exact words_folds _ _ h
theorem leafN_folds (f : Int) {w : List Int} (h : ascI w) : leafN f (textS (foldsL w)) = leafN f (textS w) := by
  unfold leafN
  rw [runes_text h, runes_text (folds_asc h), wordsR_folds h]

def mapP : PRes → PRes
  | .ok (n, x) => .ok (n, foldsL x)
  | .error e => .error e
def FoldOk (f : List Int → PRes) : Prop := ∀ l, ascI l → f (foldsL l) = mapP (f l)
def Suf (f : List Int → PRes) : Prop := ∀ l n x, f l = .ok (n, x) → x <:+ l
theorem tw_asc (f : Int → Bool) {l : List Int} (h : ascI l) : ascI (l.takeWhile f) := h.sub (List.takeWhile_sublist f)
theorem quote_folds : ∀ r : Int, 0 ≤ r ∧ r ≤ 127 → ((· != 34) : Int → Bool) (foldM r) = ((· != 34) : Int → Bool) r := fun r h => by
  have := fold_eqc h 34 (by omega)
  show (foldM r != 34) = (r != 34)
  by_cases hx : r = 34
  · rw [this.2 hx, hx]
  · rw [show (foldM r != 34) = true by simpa using fun e => hx (this.1 e), show (r != 34) = true by simpa using hx]
theorem leafTS_folds (f : Int) {w l : List Int} (hw : ascI w) (hl : ascI l) : leafTS f (textS (foldsL w)) (foldsL l) = mapP (leafTS f (textS w) l) := by
  unfold leafTS
  rw [textS_len hw, textS_len (folds_asc hw), folds_len]
  by_cases h0 : w.length ≠ 0
  · rw [if_pos h0, if_pos h0, leafN_folds f hw]; rfl
  rw [if_neg h0, if_neg h0, folds_sign hl 34 (by unfold signC; omega)]
  by_cases h1 : signS 34 l = true
  · have ha := hl.suf (after_suf 34 l)
    have hq := folds_dw (· != 34) quote_folds ha
    rw [if_pos h1, if_pos h1, folds_after hl 34 (by unfold signC; omega), hq.1, hq.2]
    by_cases h2 : (afterS 34 l).dropWhile (· != 34) ≠ []
    · rw [if_pos h2, if_pos (fun e => h2 (by unfold foldsL at e; simpa using e)), leafN_folds f (tw_asc _ ha)]
      show (Except.ok (_, _) : PRes) = .ok (_, _)
      unfold foldsL
      rw [List.map_tail]
    · rw [if_neg h2, if_neg (fun e => h2 (fun g => e (by rw [g]; rfl)))]; rfl
  · rw [if_neg h1, if_neg h1]; rfl
theorem byte0_asc {a : Int} {l : List Int} (h : ascI (a :: l)) : (((textS (a :: l)).data.toList[0]?.getD 0).toNat : Int) = a := by
  show (((textB (a :: l))[0]?.getD 0).toNat : Int) = a
  rw [textB_asc h]
  exact ofNat_asc (h a List.mem_cons_self)
theorem leafS_folds : FoldOk leafS := by
  intro l h
  have hw := folds_dw isW (fun _ h => fold_isW h) h
  have haw := tw_asc isW h
  have had := h.suf (dw_suf isW l)
  have h58 : ((foldsL (l.dropWhile isW)).head?.getD 0 = 58 ↔ (l.dropWhile isW).head?.getD 0 = 58) := by
    cases hd : l.dropWhile isW with
    | nil => exact Iff.rfl
    | cons a t => exact fold_eqc (had a (by rw [hd]; exact List.mem_cons_self)) 58 (by omega)
  have htl : (foldsL (l.dropWhile isW)).tail = foldsL (l.dropWhile isW).tail := by unfold foldsL; rw [List.map_tail]
  have ht2 : ascI (l.dropWhile isW).tail := had.suf (List.tail_suffix _)
  have hsk := folds_dw isW (fun _ h => fold_isW h) (ht2.suf (skip_suf _))
  have hby : (textS (l.takeWhile isW)).size = 1 → (48 ≤ ((textS (l.takeWhile isW)).data.toList[0]?.getD 0).toNat ∧ ((textS (l.takeWhile isW)).data.toList[0]?.getD 0).toNat ≤ 51 → ((textS (foldsL (l.takeWhile isW))).data.toList[0]?.getD 0).toNat = ((textS (l.takeWhile isW)).data.toList[0]?.getD 0).toNat) ∧
      (48 ≤ ((textS (foldsL (l.takeWhile isW))).data.toList[0]?.getD 0).toNat ∧ ((textS (foldsL (l.takeWhile isW))).data.toList[0]?.getD 0).toNat ≤ 51 → ((textS (foldsL (l.takeWhile isW))).data.toList[0]?.getD 0).toNat = ((textS (l.takeWhile isW)).data.toList[0]?.getD 0).toNat) := by
    intro h1
    rw [textS_len haw] at h1
    cases hx : l.takeWhile isW with
    | nil => rw [hx] at h1; simp at h1
    | cons a t =>
      rw [hx] at haw
      have e1 := byte0_asc haw
      have e2 := byte0_asc (a := foldM a) (l := foldsL t) (folds_asc haw)
      have e3 := fold127 (haw a List.mem_cons_self)
      have ef : foldsL (a :: t) = foldM a :: foldsL t := rfl
      rw [ef]
      constructor
      · rintro ⟨g1, g2⟩; omega
      · rintro ⟨g1, g2⟩; omega
  unfold leafS fieldS
  dsimp only
  rw [hw.1, hw.2, textS_len haw, textS_len (folds_asc haw), folds_len] at *
  by_cases hc : (l.takeWhile isW).length = 1 ∧ 48 ≤ ((textS (l.takeWhile isW)).data.toList[0]?.getD 0).toNat ∧ ((textS (l.takeWhile isW)).data.toList[0]?.getD 0).toNat ≤ 51 ∧ (l.dropWhile isW).head?.getD 0 = 58
  · have hb := (hby hc.1).1 ⟨hc.2.1, hc.2.2.1⟩
    have hc2 : (l.takeWhile isW).length = 1 ∧ 48 ≤ ((textS (foldsL (l.takeWhile isW))).data.toList[0]?.getD 0).toNat ∧ ((textS (foldsL (l.takeWhile isW))).data.toList[0]?.getD 0).toNat ≤ 51 ∧ (foldsL (l.dropWhile isW)).head?.getD 0 = 58 := ⟨hc.1, by rw [hb]; exact hc.2.1, by rw [hb]; exact hc.2.2.1, h58.2 hc.2.2.2⟩
    rw [if_pos (by first | exact hc2 | exact ⟨hc2.1, by omega, by omega, hc2.2.2.2⟩), if_pos (by first | exact hc | exact ⟨hc.1, by omega, by omega, hc.2.2.2⟩)]
    dsimp only
    rw [hb, htl, folds_skip ht2, hsk.1, hsk.2]
    exact leafTS_folds _ (tw_asc _ (ht2.suf (skip_suf _))) ((ht2.suf (skip_suf _)).suf (dw_suf _ _))
  · have hc2 : ¬ ((l.takeWhile isW).length = 1 ∧ 48 ≤ ((textS (foldsL (l.takeWhile isW))).data.toList[0]?.getD 0).toNat ∧ ((textS (foldsL (l.takeWhile isW))).data.toList[0]?.getD 0).toNat ≤ 51 ∧ (foldsL (l.dropWhile isW)).head?.getD 0 = 58) := by
      rintro ⟨g1, g2, g3, g4⟩
      have hb := (hby g1).2 ⟨g2, g3⟩
      exact hc ⟨g1, by rw [← hb]; exact g2, by rw [← hb]; exact g3, h58.1 g4⟩
    rw [if_neg (by first | exact hc2 | exact fun g => hc2 ⟨g.1, by omega, by omega, g.2.2.2⟩), if_neg (by first | exact hc | exact fun g => hc ⟨g.1, by omega, by omega, g.2.2.2⟩)]
    exact leafTS_folds _ haw had
theorem leafTS_suf {f : Int} {t : ByteArray} {l x : List Int} {n : Nd} (h : leafTS f t l = .ok (n, x)) : x <:+ l := by
  unfold leafTS at h
  split at h
  · injection h with h; injection h with _ h; subst h; exact List.suffix_refl _
  split at h
  · split at h
    · injection h with h; injection h with _ h; subst h
      exact ((List.tail_suffix _).trans (dw_suf _ _)).trans (after_suf _ _)
    · cases h
  · cases h
theorem leafS_suf : Suf leafS := by
  intro l n x h
  unfold leafS at h
  cases hf : fieldS l with
  | none => rw [hf] at h; exact (leafTS_suf h).trans (dw_suf _ _)
  | some y =>
    obtain ⟨f, t, l'⟩ := y
    rw [hf] at h
    unfold fieldS at hf
    dsimp only at hf
    split at hf
    · injection hf with hf; injection hf with _ hf; injection hf with _ hf
      subst hf
      exact (((leafTS_suf h).trans (dw_suf _ _)).trans (skip_suf _)).trans ((List.tail_suffix _).trans (dw_suf _ _))
    · cases hf
def MoreOk (more : List Int → Bool × List Int) : Prop := ∀ l, ascI l → more (foldsL l) = ((more l).1, foldsL (more l).2)
theorem loopS_folds {f : List Int → PRes} {more : List Int → Bool × List Int} {kind : Int} (hf : FoldOk f) (hs : Suf f) (hm : MoreOk more) (hms : ∀ l, (more l).2 <:+ l) : ∀ (k : Nat) (kids : List Nd) (l : List Int), ascI l → loopS f more kind k kids (foldsL l) = mapP (loopS f more kind k kids l)
  | 0, _, _, _ => rfl
  | k + 1, kids, l, h => by
    have h2 := h.suf (hms l)
    unfold loopS
    rw [hm l h]
    dsimp only
    by_cases h1 : (more l).1 = true
    · rw [if_pos h1, if_pos h1, hf _ h2]
      cases hx : f (more l).2 with
      | error e => rfl
      | ok y =>
        obtain ⟨n, r⟩ := y
        exact loopS_folds hf hs hm hms k _ r (h2.suf (hs _ _ _ hx))
    · rw [if_neg h1, if_neg h1]; rfl
theorem loopS_suf {f : List Int → PRes} {more : List Int → Bool × List Int} {kind : Int} (hs : Suf f) (hms : ∀ l, (more l).2 <:+ l) : ∀ (k : Nat) (kids : List Nd) (l : List Int) (n : Nd) (x : List Int), loopS f more kind k kids l = .ok (n, x) → x <:+ l
  | 0, _, _, _, _, h => by unfold loopS at h; cases h
  | k + 1, kids, l, n, x, h => by
    unfold loopS at h
    split at h
    · cases hx : f (more l).2 with
      | error e => rw [hx] at h; cases h
      | ok y =>
        obtain ⟨n', r⟩ := y
        rw [hx] at h
        exact ((loopS_suf hs hms k _ _ _ _ h).trans (hs _ _ _ hx)).trans (hms l)
    · injection h with h; injection h with _ h; subst h; exact hms l
theorem listOf_suf {f : List Int → PRes} {more : List Int → Bool × List Int} {kind : Int} (hs : Suf f) (hms : ∀ l, (more l).2 <:+ l) : Suf (listOf f more kind) := by
  intro l n x h
  unfold listOf at h
  cases hx : f l with
  | error e => rw [hx] at h; cases h
  | ok y =>
    obtain ⟨n', r⟩ := y
    rw [hx] at h
    exact (loopS_suf hs hms _ _ _ _ _ h).trans (hs _ _ _ hx)
theorem listOf_folds {f : List Int → PRes} {more : List Int → Bool × List Int} {kind : Int} (hf : FoldOk f) (hs : Suf f) (hm : MoreOk more) (hms : ∀ l, (more l).2 <:+ l) : FoldOk (listOf f more kind) := by
  intro l h
  unfold listOf
  rw [hf l h]
  cases hx : f l with
  | error e => rfl
  | ok y =>
    obtain ⟨n, r⟩ := y
    show loopS f more kind ((foldsL r).length + 1) [n] (foldsL r) = _
    rw [folds_len]
    exact loopS_folds hf hs hm hms _ _ r (h.suf (hs _ _ _ hx))
theorem andM_folds : MoreOk andM := by
  intro l h
  unfold andM
  rw [folds_sign h 38 (by unfold signC; omega), folds_after h 38 (by unfold signC; omega)]
  have h2 := h.suf (after_suf 38 l)
  split
  · rfl
  · rw [folds_skip h2, folds_begin (h2.suf (skip_suf _))]
theorem andM_suf (l : List Int) : (andM l).2 <:+ l := by
  unfold andM
  split
  · exact after_suf _ _
  · exact (skip_suf _).trans (after_suf _ _)
theorem orM_folds : MoreOk orM := by
  intro l h
  unfold orM
  rw [folds_sign h 124 (by unfold signC; omega), folds_after h 124 (by unfold signC; omega)]
theorem orM_suf (l : List Int) : (orM l).2 <:+ l := after_suf _ _
theorem orOf_folds {f : List Int → PRes} (hf : FoldOk f) (hs : Suf f) : FoldOk (orOf f) := listOf_folds (listOf_folds hf hs andM_folds andM_suf) (listOf_suf hs andM_suf) orM_folds orM_suf
theorem orOf_suf {f : List Int → PRes} (hs : Suf f) : Suf (orOf f) := listOf_suf (listOf_suf hs andM_suf) orM_suf
theorem notS_folds : ∀ m, FoldOk (notS m) ∧ Suf (notS m)
  | 0 => by
    constructor
    · intro l h
      have h2 := h.suf (after_suf 33 l)
      unfold notS
      rw [folds_sign h 33 (by unfold signC; omega), folds_after h 33 (by unfold signC; omega), folds_sign h2 40 (by unfold signC; omega), folds_after h2 40 (by unfold signC; omega)]
      split
      · rfl
      split
      · rfl
      exact leafS_folds _ (h2.suf (after_suf _ _))
    · intro l n x h
      unfold notS at h
      split at h
      · cases h
      split at h
      · cases h
      exact ((leafS_suf _ _ _ h).trans (after_suf _ _)).trans (after_suf _ _)
  | m + 1 => by
    obtain ⟨ihf, ihs⟩ := notS_folds m
    constructor
    · intro l h
      have h2 := h.suf (after_suf 33 l)
      have h3 := h2.suf (after_suf 40 _)
      unfold notS
      rw [folds_sign h 33 (by unfold signC; omega), folds_after h 33 (by unfold signC; omega), folds_sign h2 40 (by unfold signC; omega), folds_after h2 40 (by unfold signC; omega)]
      split
      · rw [ihf _ h2]
        cases notS m (afterS 33 l) with
        | error e => rfl
        | ok y => rfl
      split
      · rw [orOf_folds ihf ihs _ h3]
        cases hx : orOf (notS m) (afterS 40 (afterS 33 l)) with
        | error e => rfl
        | ok y =>
          obtain ⟨n, r⟩ := y
          have hr := h3.suf (orOf_suf ihs _ _ _ hx)
          show (if signS 41 (foldsL r) = true then _ else _) = mapP (if signS 41 r = true then _ else _)
          rw [folds_sign hr 41 (by unfold signC; omega), folds_after hr 41 (by unfold signC; omega)]
          split <;> rfl
      · exact leafS_folds _ h3
    · intro l n x h
      unfold notS at h
      split at h
      · cases hx : notS m (afterS 33 l) with
        | error e => rw [hx] at h; cases h
        | ok y =>
          obtain ⟨n', r⟩ := y
          rw [hx] at h
          injection h with h; injection h with _ h; subst h
          exact (ihs _ _ _ hx).trans (after_suf _ _)
      split at h
      · cases hx : orOf (notS m) (afterS 40 (afterS 33 l)) with
        | error e => rw [hx] at h; cases h
        | ok y =>
          obtain ⟨n', r⟩ := y
          rw [hx] at h
          dsimp only at h
          split at h
          · injection h with h; injection h with _ h; subst h
            exact (((after_suf _ _).trans (orOf_suf ihs _ _ _ hx)).trans (after_suf _ _)).trans (after_suf _ _)
          · cases h
      · exact ((leafS_suf _ _ _ h).trans (after_suf _ _)).trans (after_suf _ _)
/-- the sign of an order stands at the end alone -/
def lastAt (l : List Int) : Prop := ∀ a b, l = a ++ 64 :: b → b = []
theorem lastAt.suf {l x : List Int} (h : lastAt l) (hs : x <:+ l) : lastAt x := by
  obtain ⟨p, rfl⟩ := hs
  intro a b e
  exact h (p ++ a) b (by rw [e, List.append_assoc])
theorem limL_folds : ∀ {l : List Int} (acc : Int), ascI l → limL acc (ascB (foldsL l)) = limL acc (ascB l)
  | [], _, _ => rfl
  | a :: l, acc, h => by
    have ha := h a List.mem_cons_self
    have e1 := ofNat_asc ha
    have e2 := ofNat_asc (fold_rng ha)
    have e3 := fold127 ha
    show limL acc (UInt8.ofNat (foldM a).toNat :: ascB (foldsL l)) = limL acc (UInt8.ofNat a.toNat :: ascB l)
    rw [limL_cons, limL_cons, limL_folds _ h.tail]
    generalize (UInt8.ofNat (foldM a).toNat).toNat = x at *
    generalize (UInt8.ofNat a.toNat).toNat = y at *
    by_cases hd : y < 48 ∨ 57 < y
    · rw [if_pos hd, if_pos (by omega)]
    · rw [if_neg hd, if_neg (by omega)]
      have : x = y := by omega
      rw [this]
theorem limitP_folds {w : List Int} (h : ascI w) : limitP (textS (foldsL w)) = limitP (textS w) := by
  have e1 : (textS (foldsL w)).data.toList = ascB (foldsL w) := textB_asc (folds_asc h)
  have e2 : (textS w).data.toList = ascB w := textB_asc h
  unfold limitP limOk
  rw [e1, e2, limL_folds 0 h, textS_len h, textS_len (folds_asc h), folds_len]
  have hb : (((ascB (foldsL w))[0]?.getD 0).toNat == 48) = (((ascB w)[0]?.getD 0).toNat == 48) := by
    cases w with
    | nil => rfl
    | cons a t =>
      have ha := h a List.mem_cons_self
      have e1 := ofNat_asc ha
      have e2 := ofNat_asc (fold_rng ha)
      have e3 := fold127 ha
      show ((UInt8.ofNat (foldM a).toNat).toNat == 48) = ((UInt8.ofNat a.toNat).toNat == 48)
      generalize (UInt8.ofNat (foldM a).toNat).toNat = x at *
      generalize (UInt8.ofNat a.toNat).toNat = y at *
      by_cases hx : y = 48
      · have : x = 48 := by omega
        rw [this, hx]
      · rw [show (x == 48) = false by simp; omega, show (y == 48) = false by simpa using hx]
  rw [hb]
theorem next_folds {l : List Int} (h : ascI l) : nextWS (foldsL l) = textS (foldsL ((skipS l).takeWhile isW)) ∧ restW (foldsL l) = foldsL (restW l) := by
  have := folds_dw isW (fun _ h => fold_isW h) (h.suf (skip_suf l))
  unfold nextWS restW
  rw [folds_skip h, this.1, this.2]
  exact ⟨rfl, rfl⟩
theorem restW_suf (l : List Int) : restW l <:+ l := (dw_suf _ _).trans (skip_suf _)
theorem order_none {l : List Int} (h : lastAt l) (hs : signS 64 l = true) : afterS 64 l = [] := by
  unfold afterS
  rw [if_pos hs]
  unfold signS at hs
  cases hx : skipS l with
  | nil => rfl
  | cons a t =>
    rw [hx] at hs
    have ha : a = 64 := by simpa using hs
    obtain ⟨p, hp⟩ := skip_suf l
    rw [hx, ha] at hp
    exact h p t hp.symm
theorem orderP_nil : orderP (nextWS []) = none := by
  have e : (nextWS []).toList = [] := by rw [ByteArray.toList_eq]; rfl
  unfold orderP
  rw [e]; rfl
theorem tailS_folds : ∀ (k : Nat) (li o : Int) (l : List Int), ascI l → lastAt l → tailS k li o (foldsL l) = tailS k li o l
  | 0, _, _, _, _, _ => rfl
  | k + 1, li, o, l, h, hl => by
    have h2 := h.suf (after_suf 35 l)
    have hl2 := hl.suf (after_suf 35 l)
    have h3 := h2.suf (after_suf 64 _)
    have hn := next_folds h2
    unfold tailS
    rw [folds_sign h 35 (by unfold signC; omega), folds_after h 35 (by unfold signC; omega), folds_sign h2 64 (by unfold signC; omega), folds_after h2 64 (by unfold signC; omega)]
    by_cases g1 : signS 35 l = true
    · rw [if_pos g1, if_pos g1]
      by_cases g2 : 0 ≤ li
      · rw [if_pos g2, if_pos g2]
      rw [if_neg g2, if_neg g2, hn.1, hn.2, limitP_folds (tw_asc _ (h2.suf (skip_suf _)))]
      show _ = match limitP (textS ((skipS (afterS 35 l)).takeWhile isW)) with | none => _ | some n => _
      cases limitP (textS ((skipS (afterS 35 l)).takeWhile isW)) with
      | none => rfl
      | some n => exact tailS_folds k _ _ _ (h2.suf (restW_suf _)) (hl2.suf (restW_suf _))
    rw [if_neg g1, if_neg g1]
    by_cases g3 : signS 64 (afterS 35 l) = true
    · rw [if_pos g3, if_pos g3]
      by_cases g2 : 0 ≤ o
      · rw [if_pos g2, if_pos g2]
      rw [if_neg g2, if_neg g2, order_none hl2 g3]
      show (match orderP (nextWS []) with | none => _ | some n => _) = (match orderP (nextWS []) with | none => _ | some n => _)
      rw [orderP_nil]
    rw [if_neg g3, if_neg g3]
    by_cases g4 : afterS 64 (afterS 35 l) ≠ []
    · rw [if_pos g4, if_pos (fun e => g4 (by unfold foldsL at e; simpa using e))]
    · rw [if_neg g4, if_neg (fun e => g4 (fun g => e (by rw [g]; rfl)))]
theorem parseR_folds {l : List Int} (h : ascI l) (hl : lastAt l) : parseR (foldsL l) = parseR l := by
  obtain ⟨h1, h2⟩ := notS_folds 8
  have hr := orOf_folds h1 h2 l h
  unfold parseR rootS
  rw [hr]
  cases hx : orOf (notS 8) l with
  | error e => rfl
  | ok y =>
    obtain ⟨n, r⟩ := y
    have hs := orOf_suf h2 _ _ _ hx
    show (match tailOf (foldsL r) with | .error e => _ | .ok p => _) = (match tailOf r with | .error e => _ | .ok p => _)
    have : tailOf (foldsL r) = tailOf r := by
      unfold tailOf
      rw [folds_len]
      exact tailS_folds _ _ _ r (h.suf hs) (hl.suf hs)
    rw [this]
/-- case plays no part -/
theorem parse_case (s : ByteArray) (h : ascI (runesS s)) (hl : lastAt (runesS s)) (hs : s.size ≤ 256) : parseS (textS (foldsL (runesS s))) = parseS s := by
  have hn : (runesS s).length ≤ 256 := Nat.le_trans (runesF_len s s.size 0) hs
  unfold parseS
  rw [if_neg (by rw [textS_len (folds_asc h), folds_len]; omega), if_neg (by omega), runes_text (folds_asc h)]
  exact parseR_folds h hl
end Go.Proofs.YtbepgbkbpkaodaaDoor
