/- Layer 17: what is shown of a query is read as it: the parse of the text, in plain terms. -/
import Derived.Test.YtbepgbkbpkaodaaDoorBkA
namespace Go.Proofs.YtbepgbkbpkaodaaDoor
open Go.RowKit

def leafZ (f : Int) (ts : List (Int × ByteArray × Int)) : List Int := (48 + f) :: 58 :: (if ts.length = 1 then leafQZ ts else 34 :: (leafQZ ts ++ [34]))
mutual
def txtZ : Nd → List Int
  | .mk k f ts kids => if k = 1 then leafZ f ts else if k = 4 then 33 :: jz [] (txtLZ kids k) else if k = 2 then jz [32, 38, 32] (txtLZ kids k) else jz [32, 124, 32] (txtLZ kids k)
def txtLZ : List Nd → Int → List (List Int)
  | [], _ => []
  | n :: l, pk => (if brk pk (kindN n) then 40 :: (txtZ n ++ [41]) else txtZ n) :: txtLZ l pk
end
theorem txtZ_mk (k f : Int) (ts : List (Int × ByteArray × Int)) (kids : List Nd) : txtZ (.mk k f ts kids) = if k = 1 then leafZ f ts else if k = 4 then 33 :: jz [] (txtLZ kids k) else if k = 2 then jz [32, 38, 32] (txtLZ kids k) else jz [32, 124, 32] (txtLZ kids k) := by rw [txtZ]
theorem txtLZ_cons (n : Nd) (l : List Nd) (pk : Int) : txtLZ (n :: l) pk = (if brk pk (kindN n) then 40 :: (txtZ n ++ [41]) else txtZ n) :: txtLZ l pk := by rw [txtLZ]
theorem txtLZ_nil (pk : Int) : txtLZ [] pk = [] := by rw [txtLZ]
/-- what a node that may be has, with its depth -/
theorem okN_kids {k f : Int} {ts : List (Int × ByteArray × Int)} {kids : List Nd} {d : Nat} (h : okN (.mk k f ts kids) d = true) :
    d ≤ 8 ∧ ((k = 1 ∧ kids = [] ∧ leafOk f ts = true) ∨ (k ≠ 1 ∧ f = 0 ∧ ts = [] ∧ ((k = 4 ∧ kids.length = 1) ∨ ((k = 2 ∨ k = 3) ∧ 2 ≤ kids.length)) ∧ okL kids (if k = 4 then d + 1 else d) k = true)) := by
  have hd := okN_le h
  rw [okN_mk, Bool.and_eq_true] at h
  have h := h.2
  refine ⟨hd, ?_⟩
  by_cases hk : k = 1
  · rw [if_pos hk, Bool.and_eq_true, beq_iff_eq] at h
    exact Or.inl ⟨hk, List.eq_nil_of_length_eq_zero h.1, h.2⟩
  · rw [if_neg hk, Bool.and_eq_true, Bool.and_eq_true] at h
    have hs := h.1.1
    unfold sevOk at hs
    rw [Bool.and_eq_true, beq_iff_eq, beq_iff_eq] at hs
    refine Or.inr ⟨hk, hs.1, List.eq_nil_of_length_eq_zero hs.2, ?_, h.2⟩
    have h2 := h.1.2
    rw [Bool.or_eq_true] at h2
    rcases h2 with h2 | h2
    · rw [Bool.and_eq_true, beq_iff_eq, beq_iff_eq] at h2; exact Or.inl h2
    · rw [Bool.and_eq_true, Bool.or_eq_true, beq_iff_eq, beq_iff_eq, decide_eq_true_eq] at h2; exact Or.inr h2
theorem okL_mem {kids : List Nd} {d : Nat} {pk : Int} (h : okL kids d pk = true) : ∀ n ∈ kids, okN n (if brk pk (kindN n) then d + 1 else d) = true := by
  induction kids with
  | nil => intro n hn; cases hn
  | cons a l ih =>
    rw [okL_cons, Bool.and_eq_true] at h
    intro n hn
    rcases List.mem_cons.1 hn with rfl | hn
    · exact h.1
    · exact ih h.2 n hn
theorem kid_lt {k f : Int} {ts : List (Int × ByteArray × Int)} {kids : List Nd} {n : Nd} (h : n ∈ kids) : SizeOf.sizeOf n < SizeOf.sizeOf (Nd.mk k f ts kids) := by
  obtain ⟨i, hi⟩ := List.getElem?_of_mem h
  exact Nd.kid_size hi
/-- all fields are none below 0 -/
inductive FieldsOk : Nd → Prop
  | mk (k f : Int) (ts : List (Int × ByteArray × Int)) (kids : List Nd) (h1 : 0 ≤ f) (h2 : ∀ n ∈ kids, FieldsOk n) : FieldsOk (.mk k f ts kids)
theorem NdOk.fields {n : Nd} (h : NdOk n) : FieldsOk n := by
  induction h with
  | mk k f ts kids h1 h2 h3 h5 h4 ih => exact .mk k f ts kids h2.1 ih

theorem leafQZ_mem {f : Int} {ts : List (Int × ByteArray × Int)} (h : leafOk f ts = true) : ∀ r ∈ leafQZ ts, (isW r = true ∨ r = 32) ∧ valR r := by
  unfold leafOk at h
  rw [Bool.and_eq_true] at h
  refine jz_mem (P := fun r => (isW r = true ∨ r = 32) ∧ valR r) (fun r hr => ?_) (fun x hx r hr => ?_)
  · rw [List.mem_singleton] at hr
    subst hr
    exact ⟨Or.inr rfl, by decide, by decide⟩
  · obtain ⟨h1, h2⟩ := outZ_mem f ts 0 h.2 x hx r hr
    exact ⟨Or.inl h1, h2⟩
theorem leafZ_val {f : Int} {ts : List (Int × ByteArray × Int)} (h0 : 0 ≤ f) (h : leafOk f ts = true) : ∀ r ∈ leafZ f ts, valR r := by
  have hq := leafQZ_mem h
  unfold leafOk at h
  rw [Bool.and_eq_true, Bool.and_eq_true, decide_eq_true_eq] at h
  intro r hr
  unfold leafZ at hr
  rcases List.mem_cons.1 hr with rfl | hr
  · exact ⟨by omega, by omega⟩
  rcases List.mem_cons.1 hr with rfl | hr
  · exact ⟨by decide, by decide⟩
  split at hr
  · exact (hq r hr).2
  · rcases List.mem_cons.1 hr with rfl | hr
    · exact ⟨by decide, by decide⟩
    rcases List.mem_append.1 hr with hr | hr
    · exact (hq r hr).2
    · rw [List.mem_singleton] at hr
      subst hr
      exact ⟨by decide, by decide⟩
theorem enc_asc {r : Int} (h0 : 0 ≤ r) (h1 : r ≤ 127) : encB r = [UInt8.ofNat r.toNat] := by
  have hv : Utf8.valid r = true := by
    unfold Utf8.valid
    simp
    omega
  rw [encB_of r r.toNat (by rw [if_pos hv]), if_pos (by omega)]
theorem leafZ_text {f : Int} {ts : List (Int × ByteArray × Int)} (h0 : 0 ≤ f) (h : leafOk f ts = true) : textB (leafZ f ts) = leafX f ts := by
  unfold leafOk at h
  rw [Bool.and_eq_true, Bool.and_eq_true, decide_eq_true_eq] at h
  have hq : textB (leafQZ ts) = leafQ ts := by
    unfold leafQZ leafQ
    rw [jz_text, outZ_text f ts 0 h.2]
    rfl
  unfold leafZ leafX
  rw [textB_cons, textB_cons, enc_asc (by omega) (by omega)]
  show [UInt8.ofNat (48 + f).toNat] ++ ([58] ++ _) = _
  split
  · rw [hq]; rfl
  · rw [textB_cons, textB_app, hq]
    rfl
theorem txtZ_ok : ∀ (N : Nat) (n : Nd), SizeOf.sizeOf n ≤ N → ∀ d, okN n d = true → FieldsOk n → textB (txtZ n) = txtN n ∧ ∀ r ∈ txtZ n, valR r := by
  intro N
  induction N with
  | zero => intro n hn; cases n; simp at hn
  | succ N ih =>
    intro n hn d hok hf
    cases hf with
    | mk k f ts kids hf0 hfk =>
    obtain ⟨hd, h | ⟨h1, h2, h3, h4, h5⟩⟩ := okN_kids hok
    · obtain ⟨rfl, rfl, h3⟩ := h
      rw [txtZ_mk, txtN_mk, if_pos rfl, if_pos rfl]
      exact ⟨leafZ_text hf0 h3, leafZ_val hf0 h3⟩
    · have hk : ∀ n ∈ kids, textB (txtZ n) = txtN n ∧ ∀ r ∈ txtZ n, valR r := fun n hn' => ih n (by have := kid_lt (k := k) (f := f) (ts := ts) hn'; omega) _ (okL_mem h5 n hn') (hfk n hn')
      have hL : ∀ l : List Nd, (∀ n ∈ l, n ∈ kids) → (txtLZ l k).map textB = txtL l k ∧ ∀ x ∈ txtLZ l k, ∀ r ∈ x, valR r := by
        intro l
        induction l with
        | nil => intro _; rw [txtLZ_nil, txtL_nil]; exact ⟨rfl, fun x hx => by cases hx⟩
        | cons a l ihl =>
          intro hm
          obtain ⟨g1, g2⟩ := ihl fun n hn => hm n (List.mem_cons_of_mem _ hn)
          obtain ⟨g3, g4⟩ := hk a (hm a (List.mem_cons_self ..))
          rw [txtLZ_cons, txtL_cons, List.map_cons, g1]
          cases brk k (kindN a) with
          | true =>
            rw [if_pos rfl, if_pos rfl, textB_cons, textB_app, g3]
            refine ⟨rfl, fun x hx r hr => ?_⟩
            rcases List.mem_cons.1 hx with rfl | hx
            · rcases List.mem_cons.1 hr with rfl | hr
              · exact ⟨by decide, by decide⟩
              rcases List.mem_append.1 hr with hr | hr
              · exact g4 r hr
              · rw [List.mem_singleton] at hr
                subst hr
                exact ⟨by decide, by decide⟩
            · exact g2 x hx r hr
          | false =>
            rw [if_neg (by decide), if_neg (by decide), g3]
            refine ⟨rfl, fun x hx r hr => ?_⟩
            rcases List.mem_cons.1 hx with rfl | hx
            · exact g4 r hr
            · exact g2 x hx r hr
      obtain ⟨g1, g2⟩ := hL kids fun n hn => hn
      have hs : ∀ sep : List Int, (∀ r ∈ sep, valR r) → ∀ r ∈ jz sep (txtLZ kids k), valR r := fun sep h => jz_mem h g2
      rw [txtZ_mk, txtN_mk, if_neg h1, if_neg h1]
      by_cases k4 : k = 4
      · rw [if_pos k4, if_pos k4, textB_cons, jz_text, g1]
        refine ⟨rfl, fun r hr => ?_⟩
        rcases List.mem_cons.1 hr with rfl | hr
        · exact ⟨by decide, by decide⟩
        · exact hs [] (fun r hr => by cases hr) r hr
      · rw [if_neg k4, if_neg k4]
        by_cases k2 : k = 2
        · rw [if_pos k2, if_pos k2, jz_text, g1]
          refine ⟨rfl, hs _ fun r hr => ?_⟩
          simp only [List.mem_cons, List.not_mem_nil, or_false] at hr
          rcases hr with rfl | rfl | rfl <;> exact ⟨by decide, by decide⟩
        · rw [if_neg k2, if_neg k2, jz_text, g1]
          refine ⟨rfl, hs _ fun r hr => ?_⟩
          simp only [List.mem_cons, List.not_mem_nil, or_false] at hr
          rcases hr with rfl | rfl | rfl <;> exact ⟨by decide, by decide⟩

def endW (rest : List Int) : Prop := ∀ r, rest.head? = some r → isW r = false
theorem skip_hd {a : Int} {l : List Int} (h : isBl a = false) : skipS (a :: l) = a :: l := List.dropWhile_cons_of_neg (by rw [h]; decide)
theorem sign_hd2 {a : Int} {l : List Int} (h : isBl a = false) (c : Int) : signS c (a :: l) = (a == c) := by
  unfold signS
  rw [skip_hd h]
  by_cases hc : a = c
  · subst hc; simp
  · have e1 : (a == c) = false := by simpa using hc
    rw [e1]
    simpa using hc
theorem after_hd {a : Int} {l : List Int} (h : isBl a = false) : afterS a (a :: l) = l := by
  unfold afterS
  rw [sign_hd2 h, if_pos (by simp), skip_hd h]
  rfl
theorem after_ne {a c : Int} {l : List Int} (h : isBl a = false) (hc : a ≠ c) : afterS c (a :: l) = a :: l := by
  unfold afterS
  rw [sign_hd2 h, if_neg (by simpa using hc), skip_hd h]
theorem isW_bl {r : Int} (h : isW r = true) : isBl r = false ∧ r ≠ 33 ∧ r ≠ 40 ∧ r ≠ 34 := by
  have hc : classM r ≠ 0 := fun e => by unfold isW at h; rw [e] at h; cases h
  refine ⟨?_, fun e => by subst e; exact hc rfl, fun e => by subst e; exact hc rfl, fun e => by subst e; exact hc rfl⟩
  cases hb : isBl r with
  | false => rfl
  | true =>
    unfold isBl at hb
    simp only [Bool.or_eq_true, beq_iff_eq] at hb
    rcases hb with ((rfl | rfl) | rfl) | rfl <;> exact absurd rfl hc
theorem digit_w {f : Int} (h0 : 0 ≤ f) (h3 : f ≤ 3) : isW (48 + f) = true := by
  obtain ⟨n, rfl⟩ := Int.eq_ofNat_of_zero_le h0
  match n, h3 with
  | 0, _ => rfl
  | 1, _ => rfl
  | 2, _ => rfl
  | 3, _ => rfl
  | n + 4, h => omega
theorem leafQ_relT {f : Int} {ts : List (Int × ByteArray × Int)} (h : leafOk f ts = true) : (relT (wordsR 0 (leafQZ ts))).map (fun x => (f, x.1, x.2)) = ts := by
  unfold leafOk at h
  rw [Bool.and_eq_true, Bool.and_eq_true] at h
  have hw := words_terms f ts 0 (by exact h.2)
  have hw : wordsR 0 (leafQZ ts) = ts.map fun t => (t.2.1, t.2.2.toNat) := hw
  rw [hw]
  have hpos : ∀ (ts : List (Int × ByteArray × Int)) (p : Int), 0 ≤ p → termsOk f p ts = true → ∀ t ∈ ts, t.1 = f ∧ 0 ≤ t.2.2 := by
    intro ts
    induction ts with
    | nil => intro p _ _ t ht; cases ht
    | cons a ts ih =>
      intro p hp h t ht
      obtain ⟨af, at', ap⟩ := a
      obtain ⟨g1, _, g2, _, g3⟩ := termsOk_cons h
      rcases List.mem_cons.1 ht with rfl | ht
      · exact ⟨g1, by show 0 ≤ ap; omega⟩
      · exact ih (ap + 1) (by omega) g3 t ht
  have hp := hpos ts 0 (Int.le_refl _) h.2
  cases ts with
  | nil => rfl
  | cons a l =>
    obtain ⟨af, at', ap⟩ := a
    have hd : ap = 0 := by
      have := h.1.2
      simpa [headOk] using this
    subst hd
    have hrr : relT (((af, at', (0 : Int)) :: l).map fun t => (t.2.1, t.2.2.toNat)) = (((af, at', (0 : Int)) :: l).map fun t => (t.2.1, t.2.2.toNat)).map (fun t : ByteArray × Nat => (t.1, (t.2 : Int) - ((0 : Int).toNat : Nat))) := rfl
    rw [hrr, List.map_map, List.map_map]
    have : List.map (((fun x : ByteArray × Int => (f, x.1, x.2)) ∘ (fun t : ByteArray × Nat => (t.1, (t.2 : Int) - ((0 : Int).toNat : Nat)))) ∘ fun t : Int × ByteArray × Int => (t.2.1, t.2.2.toNat)) ((af, at', (0 : Int)) :: l) = List.map id ((af, at', (0 : Int)) :: l) := List.map_congr_left fun t ht => by
      obtain ⟨h1, h2⟩ := hp t ht
      obtain ⟨tf, tt, tp⟩ := t
      subst h1
      show (tf, tt, ((tp.toNat : Nat) : Int) - ((0 : Int).toNat : Nat)) = (tf, tt, tp)
      have h2 : 0 ≤ tp := h2
      have : ((tp.toNat : Nat) : Int) - (((0 : Int).toNat : Nat) : Int) = tp := by omega
      rw [this]
    rw [this, List.map_id]
theorem leaf_read {f : Int} {ts : List (Int × ByteArray × Int)} (h0 : 0 ≤ f) (h : leafOk f ts = true) (rest : List Int) (hr : endW rest) : leafS (leafZ f ts ++ rest) = .ok (.mk 1 f ts [], rest) := by
  have hq := leafQZ_mem h
  have hrel := leafQ_relT h
  have hf3 : f ≤ 3 := by unfold leafOk at h; rw [Bool.and_eq_true, Bool.and_eq_true, decide_eq_true_eq] at h; exact h.1.1
  have hw := digit_w h0 hf3
  have hrun : runesS (textS (leafQZ ts)) = leafQZ ts := by rw [runesS_B]; exact runes_textV _ fun r hr => (hq r hr).2
  have hleaf : leafN f (textS (leafQZ ts)) = .mk 1 f ts [] := by unfold leafN; rw [hrun, hrel]
  have ht1 : (textS [48 + f]).data.toList = [UInt8.ofNat (48 + f).toNat] := by
    show textB [48 + f] = _
    rw [textB_cons, enc_asc (by omega) (by omega)]
    rfl
  have hsz : (textS [48 + f]).size = 1 := by rw [← bsize, ht1]; rfl
  have hb0 : (((textS [48 + f]).data.toList[0]?.getD 0).toNat : Int) = 48 + f := by
    rw [ht1]
    show ((UInt8.ofNat (48 + f).toNat).toNat : Int) = _
    rw [ofNat_n _ (by omega)]
    omega
  have hfield : ∀ X : List Int, fieldS ((48 + f) :: 58 :: X) = some (f, textS ((skipS X).takeWhile isW), (skipS X).dropWhile isW) := fun X => by
    obtain ⟨e1, e2⟩ := tw_allW [48 + f] (58 :: X) (fun r hr => by rw [List.mem_singleton] at hr; subst hr; exact hw) (fun r hr => by injection hr with hr; subst hr; rfl)
    have e1 : ((48 + f) :: 58 :: X).takeWhile isW = [48 + f] := e1
    have e2 : ((48 + f) :: 58 :: X).dropWhile isW = 58 :: X := e2
    unfold fieldS
    rw [e1, e2]
    dsimp only
    rw [if_pos ⟨hsz, by omega, by omega, rfl⟩]
    have : ((((textS [48 + f]).data.toList[0]?.getD 0).toNat : Nat) : Int) - 48 = f := by rw [hb0]; omega
    rw [this]
    rfl
  unfold leafS leafZ
  by_cases h1 : ts.length = 1
  · rw [if_pos h1]
    match ts, h1 with
    | [(tf, tt, tp)], _ =>
      have ho : termsOk f 0 [(tf, tt, tp)] = true := by unfold leafOk at h; rw [Bool.and_eq_true] at h; exact h.2
      have hhd : tp = 0 := by
        unfold leafOk at h
        rw [Bool.and_eq_true, Bool.and_eq_true] at h
        have := h.1.2
        simpa [headOk] using this
      subst hhd
      obtain ⟨_, g1, _, _, _⟩ := termsOk_cons ho
      obtain ⟨ws, z1, z2, _⟩ := wordOk_z g1
      have hQ : leafQZ [(tf, tt, 0)] = ws := by
        show runesS tt ++ [] = ws
        rw [List.append_nil, z1.run]
      rw [hQ] at hleaf ⊢
      have hne := z1.ne
      obtain ⟨a, l, hal⟩ : ∃ a l, ws = a :: l := by
        cases hws : ws with
        | nil => exact absurd hws hne
        | cons a l => exact ⟨a, l, rfl⟩
      have hsk : skipS (ws ++ rest) = ws ++ rest := by
        rw [hal, List.cons_append]
        exact skip_hd (isW_bl (z1.w a (by rw [hal]; exact List.mem_cons_self ..)).1).1
      obtain ⟨e1, e2⟩ := tw_allW ws rest (fun r hr => (z1.w r hr).1) hr
      show (match fieldS ((48 + f) :: 58 :: (ws ++ rest)) with | some (f, t, l') => leafTS f t l' | none => _) = _
      rw [hfield, hsk, e1, e2]
      dsimp only
      unfold leafTS
      have hs : (textS ws).size ≠ 0 := by
        rw [hal, ← bsize]
        show (textB (a :: l)).length ≠ 0
        rw [textB_cons, List.length_append]
        have := encB_pos a
        omega
      rw [if_pos hs, hleaf]
  · rw [if_neg h1]
    show (match fieldS ((48 + f) :: 58 :: (34 :: (leafQZ ts ++ [34] ++ rest))) with | some (f, t, l') => leafTS f t l' | none => _) = _
    have hsk : skipS (34 :: (leafQZ ts ++ [34] ++ rest)) = 34 :: (leafQZ ts ++ [34] ++ rest) := skip_hd rfl
    have e1 : (34 :: (leafQZ ts ++ [34] ++ rest)).takeWhile isW = [] := List.takeWhile_cons_of_neg (by decide)
    have e2 : (34 :: (leafQZ ts ++ [34] ++ rest)).dropWhile isW = 34 :: (leafQZ ts ++ [34] ++ rest) := List.dropWhile_cons_of_neg (by decide)
    rw [hfield, hsk, e1, e2]
    dsimp only
    unfold leafTS
    have e3 : signS 34 (34 :: (leafQZ ts ++ [34] ++ rest)) = true := by rw [sign_hd2 rfl]; rfl
    have hq2 : ∀ (l : List Int), (∀ r ∈ l, r ≠ 34) → (l ++ [34] ++ rest).takeWhile (· != 34) = l ∧ (l ++ [34] ++ rest).dropWhile (· != 34) = 34 :: rest := by
      intro l
      induction l with
      | nil => intro _; exact ⟨List.takeWhile_cons_of_neg (by decide), List.dropWhile_cons_of_neg (by decide)⟩
      | cons a l ih =>
        intro hl
        obtain ⟨i1, i2⟩ := ih fun r hr => hl r (List.mem_cons_of_mem _ hr)
        have ha : (a != 34) = true := by simpa using hl a (List.mem_cons_self ..)
        have j1 : (a :: (l ++ [34] ++ rest)).takeWhile (· != 34) = a :: (l ++ [34] ++ rest).takeWhile (· != 34) := List.takeWhile_cons_of_pos ha
        have j2 : (a :: (l ++ [34] ++ rest)).dropWhile (· != 34) = (l ++ [34] ++ rest).dropWhile (· != 34) := List.dropWhile_cons_of_pos ha
        rw [List.cons_append, List.cons_append, j1, j2, i1, i2]
        exact ⟨rfl, rfl⟩
    obtain ⟨i1, i2⟩ := hq2 (leafQZ ts) fun r hr => by
      rcases (hq r hr).1 with h | rfl
      · exact (isW_bl h).2.2.2
      · decide
    rw [if_neg (by show ¬ (0 ≠ 0); decide), if_pos e3, after_hd rfl, i1, i2, if_pos (List.cons_ne_nil _ _), hleaf]
    rfl
end Go.Proofs.YtbepgbkbpkaodaaDoor
