/- Layer 17 (query): the parse, on what is left of the runes; nodes in memory. -/
import Derived.Test.YtbepgbkbpkaodaaDoorQryL
namespace Go.Proofs.YtbepgbkbpkaodaaDoor
open Go.RowKit

/-- a node: its kind, its field, its terms, its kids -/
inductive Nd where
  | mk (kind field : Int) (terms : List (Int × ByteArray × Int)) (kids : List Nd)
def tokG (t : Int × ByteArray × Int) : List Value := [.int .u8 t.1, .string t.2.1, .int .i64 t.2.2]
/-- a node's cells, and all that it leads to within K -/
inductive NodeV (w : World) (K : Nat → Prop) : Nd → List Value → Prop
  | mk (k f : Int) (terms : List (Int × ByteArray × Int)) (kids : List Nd) (css : List (List Value)) (v1 v2 : Value)
      (h1 : SlAt w K 3 v1 terms.length (terms.flatMap tokG)) (h2 : SlAt w K 4 v2 kids.length css.flatten) (hl : css.length = kids.length)
      (hk : ∀ (i : Nat) (n : Nd) (cs : List Value), kids[i]? = some n → css[i]? = some cs → NodeV w K n cs) : NodeV w K (.mk k f terms kids) [.int .i64 k, .int .u8 f, v1, v2]
theorem NodeV.keep {w w' : World} {K K' : Nat → Prop} {n : Nd} {cs : List Value} (h : NodeV w K n cs) (k : Keeps K w w') (hK : ∀ b, K b → K' b) : NodeV w' K' n cs := by
  induction h with
  | mk kd f terms kids css v1 v2 h1 h2 hl hk ih =>
    refine NodeV.mk kd f terms kids css v1 v2 ?_ ?_ hl (fun i n cs h3 h4 => ih i n cs h3 h4)
    · obtain ⟨A, cap, e, a, b, c, d⟩ := h1.keep k (fun x hx => hx)
      exact ⟨A, cap, e, a, b, c, fun hn => by obtain ⟨b', o, e', hb, hc⟩ := d hn; exact ⟨b', o, e', hK _ hb, hc⟩⟩
    · obtain ⟨A, cap, e, a, b, c, d⟩ := h2.keep k (fun x hx => hx)
      exact ⟨A, cap, e, a, b, c, fun hn => by obtain ⟨b', o, e', hb, hc⟩ := d hn; exact ⟨b', o, e', hK _ hb, hc⟩⟩
theorem NodeV.keepK {w w' : World} {K K' : Nat → Prop} {n : Nd} {cs : List Value} (h : NodeV w K n cs) (k : Keeps K' w w') (hK : ∀ b, K b → K' b) : NodeV w' K n cs := h.keep (k.mono hK) (fun _ h => h)
theorem NodeV.form {w : World} {K : Nat → Prop} {n : Nd} {cs : List Value} (h : NodeV w K n cs) : ∃ k f A1 n1 c1 A2 n2 c2, cs = [.int .i64 k, .int .u8 f, .slice A1 n1 c1, .slice A2 n2 c2] := by
  cases h with
  | mk k f terms kids css v1 v2 h1 h2 hl hk =>
    obtain ⟨A1, c1, rfl, _⟩ := h1
    obtain ⟨A2, c2, rfl, _⟩ := h2
    exact ⟨k, f, A1, _, c1, A2, _, c2, rfl⟩
theorem NodeV.len {w : World} {K : Nat → Prop} {n : Nd} {cs : List Value} (h : NodeV w K n cs) : cs.length = 4 := by
  obtain ⟨_, _, _, _, _, _, _, _, rfl⟩ := h.form; rfl

abbrev PRes := Except Int (Nd × List Int)
def skipS (l : List Int) : List Int := l.dropWhile isBl
def signS (ch : Int) (l : List Int) : Bool := (skipS l).head? == some ch
def afterS (ch : Int) (l : List Int) : List Int := if signS ch l then (skipS l).tail else skipS l
def beginS (l : List Int) : Bool := match l.head? with | none => false | some c => c == 34 || c == 40 || c == 33 || isW c
theorem drop_tw {α : Type} (f : α → Bool) (l : List α) : l.drop (l.takeWhile f).length = l.dropWhile f := by
  induction l with
  | nil => rfl
  | cons a l ih =>
    by_cases h : f a = true
    · rw [List.takeWhile_cons_of_pos h, List.dropWhile_cons_of_pos h, List.length_cons, List.drop_succ_cons, ih]
    · rw [List.takeWhile_cons_of_neg h, List.dropWhile_cons_of_neg h]; rfl
theorem drop_skip (rs : List Int) (p : Nat) : rs.drop (skipB rs p) = skipS (rs.drop p) := by
  unfold skipB skipS
  rw [← List.drop_drop, drop_tw]
theorem drop_word (rs : List Int) (p : Nat) : rs.drop (wordE rs p) = (rs.drop p).dropWhile isW := by
  unfold wordE
  rw [← List.drop_drop, drop_tw]
theorem drop_quote (rs : List Int) (p : Nat) : rs.drop (quoteE rs p) = (rs.drop p).dropWhile (· != 34) := by
  unfold quoteE
  rw [← List.drop_drop, drop_tw]
theorem head_drop (rs : List Int) (p : Nat) : (rs.drop p).head? = rs[p]? := by rw [List.head?_eq_getElem?, List.getElem?_drop]; rfl
theorem sign_conv (rs : List Int) (p : Nat) (ch : Int) : signB rs p ch = signS ch (rs.drop p) := by
  unfold signB signS
  rw [← drop_skip, head_drop]
theorem drop_sign (rs : List Int) (p : Nat) (ch : Int) : rs.drop (signP rs p ch) = afterS ch (rs.drop p) := by
  unfold signP afterS
  rw [sign_conv, ← drop_skip]
  split
  · rw [← List.drop_one, List.drop_drop]
  · rfl
theorem begin_conv (rs : List Int) (q : Nat) : beginB rs q = beginS (rs.drop q) := by
  unfold beginB beginS
  rw [head_drop]
  by_cases h : q < rs.length
  · have hg := List.getElem?_eq_getElem h
    have hr : runeAt rs q = rs[q] := by unfold runeAt; rw [hg]; rfl
    rw [hr, hg, decide_eq_true h]; rfl
  · rw [List.getElem?_eq_none (by omega), decide_eq_false h]; rfl

/-- a leaf of a field and a text -/
def leafN (f : Int) (t : ByteArray) : Nd := .mk 1 f ((relT (wordsR 0 (runesS t))).map fun x => (f, x.1, x.2)) []
def fieldS (l : List Int) : Option (Int × ByteArray × List Int) :=
  let t1 := textS (l.takeWhile isW)
  let b0 := (t1.data.toList[0]?.getD 0).toNat
  let l1 := l.dropWhile isW
  if t1.size = 1 ∧ 48 ≤ b0 ∧ b0 ≤ 51 ∧ l1.head?.getD 0 = 58 then some ((b0 : Int) - 48, textS ((skipS l1.tail).takeWhile isW), (skipS l1.tail).dropWhile isW) else none
def leafTS (f : Int) (t : ByteArray) (l : List Int) : PRes :=
  if t.size ≠ 0 then .ok (leafN f t, l)
  else if signS 34 l = true then (if (afterS 34 l).dropWhile (· != 34) ≠ [] then .ok (leafN f (textS ((afterS 34 l).takeWhile (· != 34))), ((afterS 34 l).dropWhile (· != 34)).tail) else .error 8)
  else .error 8
def leafS (l : List Int) : PRes :=
  match fieldS l with
  | some (f, t, l') => leafTS f t l'
  | none => leafTS 0 (textS (l.takeWhile isW)) (l.dropWhile isW)
def conv (rs : List Int) : Except Int ((Int × ByteArray) × Nat) → PRes
  | .ok ((f, t), q) => .ok (leafN f t, rs.drop q)
  | .error e => .error e
theorem leafT_conv (rs : List Int) (f : Int) (t : ByteArray) (p : Nat) : conv rs (leafT rs f t p) = leafTS f t (rs.drop p) := by
  unfold leafT leafTS
  by_cases h0 : t.size ≠ 0
  · rw [if_pos h0, if_pos h0]; rfl
  rw [if_neg h0, if_neg h0, sign_conv]
  by_cases h1 : signS 34 (rs.drop p) = true
  · rw [if_pos h1, if_pos h1, ← drop_sign, ← drop_quote]
    by_cases h2 : quoteE rs (signP rs p 34) < rs.length
    · rw [if_pos h2, if_pos (by intro h; rw [List.drop_eq_nil_iff] at h; omega)]
      show (Except.ok _ : PRes) = _
      rw [List.tail_drop]
    · rw [if_neg h2, if_neg (by intro h; apply h; rw [List.drop_eq_nil_iff]; omega)]; rfl
  · rw [if_neg h1, if_neg h1]; rfl
theorem leaf_conv (rs : List Int) (p : Nat) : conv rs (leafP rs p) = leafS (rs.drop p) := by
  have e1 : runeAt rs (wordE rs p) = ((rs.drop p).dropWhile isW).head?.getD 0 := by rw [← drop_word, head_drop]; rfl
  have e2 : nextW rs (wordE rs p + 1) = textS ((skipS ((rs.drop p).dropWhile isW).tail).takeWhile isW) := by
    unfold nextW
    rw [drop_skip, ← List.drop_one, ← drop_word, List.drop_drop]
  have e3 : rs.drop (wordE rs (skipB rs (wordE rs p + 1))) = (skipS ((rs.drop p).dropWhile isW).tail).dropWhile isW := by
    rw [drop_word, drop_skip, ← List.drop_one, ← drop_word, List.drop_drop]
  unfold leafP leafS fieldP fieldS
  dsimp only
  rw [e1, e2]
  by_cases h : (textS (List.takeWhile isW (List.drop p rs))).size = 1 ∧ 48 ≤ (((textS (List.takeWhile isW (List.drop p rs))).data.toList[0]?.getD 0).toNat) ∧ (((textS (List.takeWhile isW (List.drop p rs))).data.toList[0]?.getD 0).toNat) ≤ 51 ∧ ((List.dropWhile isW (List.drop p rs)).head?.getD 0) = 58
  · rw [if_pos (by first | exact h | exact ⟨h.1, by omega, by omega, h.2.2.2⟩), if_pos (by first | exact h | exact ⟨h.1, by omega, by omega, h.2.2.2⟩)]
    dsimp only
    rw [leafT_conv, e3]
  · rw [if_neg (by first | exact h | exact fun g => h ⟨g.1, by omega, by omega, g.2.2.2⟩), if_neg (by first | exact h | exact fun g => h ⟨g.1, by omega, by omega, g.2.2.2⟩)]
    dsimp only
    rw [leafT_conv, drop_word]

def severalN (kind : Int) : List Nd → Nd
  | [n] => n
  | kids => .mk kind 0 [] kids
def loopS (f : List Int → PRes) (more : List Int → Bool × List Int) (kind : Int) : Nat → List Nd → List Int → PRes
  | 0, _, _ => .error 0
  | k + 1, kids, l => if (more l).1 = true then (match f (more l).2 with | .error e => .error e | .ok (n, r) => loopS f more kind k (kids ++ [n]) r) else .ok (severalN kind kids, (more l).2)
def andM (l : List Int) : Bool × List Int := if signS 38 l = true then (true, afterS 38 l) else (beginS (skipS (afterS 38 l)), skipS (afterS 38 l))
def orM (l : List Int) : Bool × List Int := (signS 124 l, afterS 124 l)
def listOf (f : List Int → PRes) (more : List Int → Bool × List Int) (kind : Int) (l : List Int) : PRes :=
  match f l with
  | .error e => .error e
  | .ok (n, r) => loopS f more kind (r.length + 1) [n] r
def andOf (f : List Int → PRes) : List Int → PRes := listOf f andM 2
def orOf (f : List Int → PRes) : List Int → PRes := listOf (andOf f) orM 3
def notS : Nat → List Int → PRes
  | 0, l => if signS 33 l = true then .error 9 else if signS 40 (afterS 33 l) = true then .error 9 else leafS (afterS 40 (afterS 33 l))
  | m + 1, l => if signS 33 l = true then (match notS m (afterS 33 l) with | .error e => .error e | .ok (n, r) => .ok (.mk 4 0 [] [n], r))
    else if signS 40 (afterS 33 l) = true then (match orOf (notS m) (afterS 40 (afterS 33 l)) with | .error e => .error e | .ok (n, r) => if signS 41 r = true then .ok (n, afterS 41 r) else .error 8)
    else leafS (afterS 40 (afterS 33 l))

/-- each parse takes a rune at least -/
def Prog (f : List Int → PRes) : Prop := ∀ l n r, f l = .ok (n, r) → r.length < l.length
theorem dw_le {α : Type} (f : α → Bool) (l : List α) : (l.dropWhile f).length ≤ l.length := (List.dropWhile_sublist f).length_le
theorem skipS_le (l : List Int) : (skipS l).length ≤ l.length := dw_le _ _
theorem afterS_le (ch : Int) (l : List Int) : (afterS ch l).length ≤ l.length := by
  have := skipS_le l
  unfold afterS
  split
  · rw [List.length_tail]; omega
  · exact this
theorem afterS_lt {ch : Int} {l : List Int} (h : signS ch l = true) : (afterS ch l).length < l.length := by
  have := skipS_le l
  unfold afterS
  rw [if_pos h]
  unfold signS at h
  cases hs : skipS l with
  | nil => rw [hs] at h; cases h
  | cons a t => rw [hs] at this; simp at this ⊢; omega
theorem textS_nil : (textS []).size = 0 := rfl
theorem tw_ne {f : Int → Bool} {l : List Int} (h : (textS (l.takeWhile f)).size ≠ 0) : (l.dropWhile f).length < l.length := by
  have he : (l.takeWhile f).length + (l.dropWhile f).length = l.length := by rw [← List.length_append, List.takeWhile_append_dropWhile]
  cases hl : l.takeWhile f with
  | nil => rw [hl] at h; exact absurd textS_nil h
  | cons a t => rw [hl] at he; simp at he; omega
theorem leafTS_prog {f : Int} {t : ByteArray} {l : List Int} {n : Nd} {r : List Int} (h : leafTS f t l = .ok (n, r)) : r.length ≤ l.length ∧ (t.size = 0 → r.length < l.length) := by
  unfold leafTS at h
  by_cases h0 : t.size ≠ 0
  · rw [if_pos h0] at h
    injection h with h; injection h with _ h
    subst h
    exact ⟨Nat.le_refl _, fun e => absurd e h0⟩
  rw [if_neg h0] at h
  by_cases h1 : signS 34 l = true
  · rw [if_pos h1] at h
    split at h
    · injection h with h; injection h with _ h
      subst h
      have h2 := afterS_lt h1
      have h3 := dw_le (· != 34) (afterS 34 l)
      rw [List.length_tail]
      exact ⟨by omega, fun _ => by omega⟩
    · cases h
  · rw [if_neg h1] at h; cases h
theorem leafS_prog : Prog leafS := by
  intro l n r h
  unfold leafS at h
  cases hf : fieldS l with
  | none =>
    rw [hf] at h
    dsimp only at h
    obtain ⟨h1, h2⟩ := leafTS_prog h
    have h3 := dw_le isW l
    by_cases h0 : (textS (l.takeWhile isW)).size = 0
    · have := h2 h0; omega
    · have := tw_ne h0; omega
  | some x =>
    obtain ⟨f, t, l'⟩ := x
    rw [hf] at h
    dsimp only at h
    obtain ⟨h1, h2⟩ := leafTS_prog h
    unfold fieldS at hf
    dsimp only at hf
    split at hf
    · rename_i hc
      injection hf with hf; injection hf with _ hf; injection hf with _ hf
      subst hf
      have := tw_ne (f := isW) (l := l) (by omega)
      have h5 := dw_le isW (skipS (l.dropWhile isW).tail)
      have h6 := skipS_le (l.dropWhile isW).tail
      rw [List.length_tail] at h6
      omega
    · cases hf
theorem loopS_more {f : List Int → PRes} {more : List Int → Bool × List Int} {kind : Int} (hf : Prog f) (hm : ∀ l, (more l).2.length ≤ l.length) : ∀ (k : Nat) (kids : List Nd) (l : List Int), l.length < k → loopS f more kind k kids l = loopS f more kind (l.length + 1) kids l
  | 0, _, _, h => absurd h (Nat.not_lt_zero _)
  | k + 1, kids, l, h => by
    unfold loopS
    by_cases h1 : (more l).1 = true
    · rw [if_pos h1, if_pos h1]
      cases hr : f (more l).2 with
      | error e => rfl
      | ok x =>
        obtain ⟨n, r⟩ := x
        dsimp only
        have h2 := hf _ _ _ hr
        have h3 := hm l
        rw [loopS_more hf hm k _ r (by omega)]
        by_cases h4 : l.length = r.length + 1
        · rw [h4]
        · rw [loopS_more hf hm l.length _ r (by omega)]
    · rw [if_neg h1, if_neg h1]
  termination_by k => k
theorem loopS_next {f : List Int → PRes} {more : List Int → Bool × List Int} {kind : Int} (hf : Prog f) (hm : ∀ l, (more l).2.length ≤ l.length) {kids : List Nd} {l r : List Int} {n : Nd} (h1 : (more l).1 = true) (hr : f (more l).2 = .ok (n, r)) : loopS f more kind (l.length + 1) kids l = loopS f more kind (r.length + 1) (kids ++ [n]) r := by
  have h2 := hf _ _ _ hr
  have h3 := hm l
  show (if (more l).1 = true then _ else _) = _
  rw [if_pos h1, hr]
  exact loopS_more hf hm _ _ _ (by omega)
theorem loopS_prog {f : List Int → PRes} {more : List Int → Bool × List Int} {kind : Int} (hf : Prog f) (hm : ∀ l, (more l).2.length ≤ l.length) : ∀ (k : Nat) (kids : List Nd) (l : List Int) (n : Nd) (r : List Int), loopS f more kind k kids l = .ok (n, r) → r.length ≤ l.length
  | 0, _, _, _, _, h => by unfold loopS at h; cases h
  | k + 1, kids, l, n, r, h => by
    unfold loopS at h
    have h3 := hm l
    by_cases h1 : (more l).1 = true
    · rw [if_pos h1] at h
      cases hr : f (more l).2 with
      | error e => rw [hr] at h; cases h
      | ok x =>
        obtain ⟨n', r'⟩ := x
        rw [hr] at h
        have h2 := hf _ _ _ hr
        have h4 := loopS_prog hf hm k _ r' n r h
        omega
    · rw [if_neg h1] at h
      injection h with h; injection h with _ h
      subst h; exact h3
theorem listOf_prog {f : List Int → PRes} {more : List Int → Bool × List Int} {kind : Int} (hf : Prog f) (hm : ∀ l, (more l).2.length ≤ l.length) : Prog (listOf f more kind) := by
  intro l n r h
  unfold listOf at h
  cases hr : f l with
  | error e => rw [hr] at h; cases h
  | ok x =>
    obtain ⟨n', r'⟩ := x
    rw [hr] at h
    have h2 := hf _ _ _ hr
    have h4 := loopS_prog hf hm _ _ r' n r h
    omega
theorem andM_le (l : List Int) : (andM l).2.length ≤ l.length := by
  unfold andM
  split
  · exact afterS_le _ _
  · exact Nat.le_trans (skipS_le _) (afterS_le _ _)
theorem orM_le (l : List Int) : (orM l).2.length ≤ l.length := afterS_le _ _
theorem andOf_prog {f : List Int → PRes} (hf : Prog f) : Prog (andOf f) := listOf_prog hf andM_le
theorem orOf_prog {f : List Int → PRes} (hf : Prog f) : Prog (orOf f) := listOf_prog (andOf_prog hf) orM_le
theorem notS_prog : ∀ m, Prog (notS m)
  | 0 => by
    intro l n r h
    unfold notS at h
    split at h
    · cases h
    split at h
    · cases h
    have h1 := leafS_prog _ _ _ h
    have h2 := afterS_le 40 (afterS 33 l)
    have h3 := afterS_le 33 l
    omega
  | m + 1 => by
    intro l n r h
    have h3 := afterS_le 33 l
    have h4 := afterS_le 40 (afterS 33 l)
    unfold notS at h
    split at h
    · cases hr : notS m (afterS 33 l) with
      | error e => rw [hr] at h; cases h
      | ok x =>
        obtain ⟨n', r'⟩ := x
        rw [hr] at h
        injection h with h; injection h with _ h
        subst h
        have := notS_prog m _ _ _ hr
        omega
    split at h
    · cases hr : orOf (notS m) (afterS 40 (afterS 33 l)) with
      | error e => rw [hr] at h; cases h
      | ok x =>
        obtain ⟨n', r'⟩ := x
        rw [hr] at h
        dsimp only at h
        split at h
        · injection h with h; injection h with _ h
          subst h
          have := orOf_prog (notS_prog m) _ _ _ hr
          have h5 := afterS_le 41 r'
          omega
        · cases h
    · have h1 := leafS_prog _ _ _ h
      omega

/-- what a parse of a reader's runes leaves -/
def PrsPost (w : World) (b : Nat) (A : Option Addr) (c : Nat) (rs : List Int) (res : PRes) (e : Ending) (w' : World) : Prop :=
  (match res with
    | .ok (n, l) => ∃ (cs : List Value) (q : Nat), e = .returned (.agg cs.toArray) ∧ NodeV w' (fun x => w.heap.size ≤ x ∧ x < w'.heap.size) n cs ∧ Rd w' b A c rs q ∧ rs.drop q = l
    | .error k => e = thrown k) ∧ Mv b w w'
/-- a row of kids that grows, and what they lead to -/
structure KidsR (B : Nat) (w : World) (v : Value) (kids : List Nd) (css : List (List Value)) : Prop where
  own : w.ownsRow B 26 4 v kids.length css.flatten
  len : css.length = kids.length
  nod : ∀ (i : Nat) (n : Nd) (cs : List Value), kids[i]? = some n → css[i]? = some cs → NodeV w (fun x => B ≤ x ∧ x < w.heap.size ∧ v.ownBlock ≠ some x) n cs
end Go.Proofs.YtbepgbkbpkaodaaDoor
