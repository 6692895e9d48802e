/- Layer 17: a query that was read may be; in plain terms. -/
import Derived.Test.YtbepgbkbpkaodaaDoorBkC
namespace Go.Proofs.YtbepgbkbpkaodaaDoor
open Go.RowKit

/-- what a rune is written as -/
def codeR (r : Int) : Int := if Utf8.valid r then r else 65533
theorem valid_rng {r : Int} (h : Utf8.valid r = true) : 0 ≤ r ∧ (r < 55296 ∨ (57344 ≤ r ∧ r ≤ 1114111)) := by
  unfold Utf8.valid at h
  simp at h
  omega
set_option maxRecDepth 100000 in
set_option maxHeartbeats 2000000 in
theorem dec_encN (n : Nat) (hn : n < 55296 ∨ (57344 ≤ n ∧ n ≤ 1114111)) (m : List UInt8) (L : List UInt8)
    (hL : L = if n < 128 then [UInt8.ofNat n] else if n < 2048 then [UInt8.ofNat (192 + n / 64), UInt8.ofNat (128 + n % 64)] else if n < 65536 then [UInt8.ofNat (224 + n / 4096), UInt8.ofNat (128 + n / 64 % 64), UInt8.ofNat (128 + n % 64)] else [UInt8.ofNat (240 + n / 262144), UInt8.ofNat (128 + n / 4096 % 64), UInt8.ofNat (128 + n / 64 % 64), UInt8.ofNat (128 + n % 64)]) :
    dec0 (L ++ m) = (n, L.length) := by
  subst hL
  by_cases h1 : n < 128
  · rw [if_pos h1]
    have e0 : gB ([UInt8.ofNat n] ++ m) 0 = n := ofNat_n n (by omega)
    unfold dec0 Lib.decodeN
    rw [e0, if_pos h1]
    rfl
  · rw [if_neg h1]
    by_cases h2 : n < 2048
    · rw [if_pos h2]
      have e0 : gB ([UInt8.ofNat (192 + n / 64), UInt8.ofNat (128 + n % 64)] ++ m) 0 = 192 + n / 64 := ofNat_n _ (by omega)
      have e1 : gB ([UInt8.ofNat (192 + n / 64), UInt8.ofNat (128 + n % 64)] ++ m) 1 = 128 + n % 64 := ofNat_n _ (by omega)
      have el : ([UInt8.ofNat (192 + n / 64), UInt8.ofNat (128 + n % 64)] ++ m).length = m.length + 2 := by simp
      unfold dec0 Lib.decodeN
      rw [e0, e1, el, if_neg (by omega), if_pos (by omega), if_pos (by omega)]
      show (_, 2) = (_, 2)
      congr 1
      omega
    · rw [if_neg h2]
      by_cases h3 : n < 65536
      · rw [if_pos h3]
        have e0 : gB ([UInt8.ofNat (224 + n / 4096), UInt8.ofNat (128 + n / 64 % 64), UInt8.ofNat (128 + n % 64)] ++ m) 0 = 224 + n / 4096 := ofNat_n _ (by omega)
        have e1 : gB ([UInt8.ofNat (224 + n / 4096), UInt8.ofNat (128 + n / 64 % 64), UInt8.ofNat (128 + n % 64)] ++ m) 1 = 128 + n / 64 % 64 := ofNat_n _ (by omega)
        have e2 : gB ([UInt8.ofNat (224 + n / 4096), UInt8.ofNat (128 + n / 64 % 64), UInt8.ofNat (128 + n % 64)] ++ m) 2 = 128 + n % 64 := ofNat_n _ (by omega)
        have el : ([UInt8.ofNat (224 + n / 4096), UInt8.ofNat (128 + n / 64 % 64), UInt8.ofNat (128 + n % 64)] ++ m).length = m.length + 3 := by simp
        unfold dec0 Lib.decodeN
        rw [e0, e1, e2, el, if_neg (by omega), if_neg (by omega), if_pos (by omega), if_pos (by omega)]
        show (_, 3) = (_, 3)
        congr 1
        omega
      · rw [if_neg h3]
        have e0 : gB ([UInt8.ofNat (240 + n / 262144), UInt8.ofNat (128 + n / 4096 % 64), UInt8.ofNat (128 + n / 64 % 64), UInt8.ofNat (128 + n % 64)] ++ m) 0 = 240 + n / 262144 := ofNat_n _ (by omega)
        have e1 : gB ([UInt8.ofNat (240 + n / 262144), UInt8.ofNat (128 + n / 4096 % 64), UInt8.ofNat (128 + n / 64 % 64), UInt8.ofNat (128 + n % 64)] ++ m) 1 = 128 + n / 4096 % 64 := ofNat_n _ (by omega)
        have e2 : gB ([UInt8.ofNat (240 + n / 262144), UInt8.ofNat (128 + n / 4096 % 64), UInt8.ofNat (128 + n / 64 % 64), UInt8.ofNat (128 + n % 64)] ++ m) 2 = 128 + n / 64 % 64 := ofNat_n _ (by omega)
        have e3 : gB ([UInt8.ofNat (240 + n / 262144), UInt8.ofNat (128 + n / 4096 % 64), UInt8.ofNat (128 + n / 64 % 64), UInt8.ofNat (128 + n % 64)] ++ m) 3 = 128 + n % 64 := ofNat_n _ (by omega)
        have el : ([UInt8.ofNat (240 + n / 262144), UInt8.ofNat (128 + n / 4096 % 64), UInt8.ofNat (128 + n / 64 % 64), UInt8.ofNat (128 + n % 64)] ++ m).length = m.length + 4 := by simp
        unfold dec0 Lib.decodeN
        rw [e0, e1, e2, e3, el, if_neg (by omega), if_neg (by omega), if_neg (by omega), if_pos (by omega), if_pos (by omega)]
        show (_, 4) = (_, 4)
        congr 1
        omega
theorem runesB_encR (r : Int) (m : List UInt8) : runesB (encB r ++ m) = codeR r :: runesB m := by
  have hp := encB_pos r
  obtain ⟨n, hn1, hn2, hn3⟩ : ∃ n : Nat, n = (if Utf8.valid r then r.toNat else 65533) ∧ (n : Int) = codeR r ∧ (n < 55296 ∨ (57344 ≤ n ∧ n ≤ 1114111)) := by
    unfold codeR
    cases hv : Utf8.valid r with
    | true =>
      have := valid_rng hv
      exact ⟨_, rfl, by simp; omega, by simp; omega⟩
    | false => exact ⟨_, rfl, by simp, by simp⟩
  have hd := dec_encN n hn3 m (encB r) (encB_of r n hn1)
  cases he : encB r with
  | nil => rw [he] at hp; cases hp
  | cons c t =>
    rw [he] at hd
    rw [List.cons_append] at hd ⊢
    rw [runesB_cons, hd]
    dsimp only
    rw [hn2]
    congr 2
    show (c :: (t ++ m)).drop (c :: t).length = m
    rw [← List.cons_append, List.drop_left]
theorem runes_textR : ∀ l : List Int, runesB (textB l) = l.map codeR
  | [] => rfl
  | r :: l => by rw [textB_cons, runesB_encR, runes_textR l]; rfl

def chainW : Nat → List (ByteArray × Nat) → Prop
  | _, [] => True
  | p, x :: l => p ≤ x.2 ∧ chainW (x.2 + 1) l
theorem termP_len (v : List Int) (hw : ∀ r ∈ v, isW r = true) : (termP v).size ≤ 4 * v.length := by
  obtain ⟨k, h1, h2⟩ := fitL_pre 16 (v.map foldM) []
  rw [List.nil_append] at h1
  rw [termP_fit v hw, h1]
  show (textB ((v.map foldM).take k)).length ≤ _
  have := textB_len ((v.map foldM).take k)
  rw [List.length_take, List.length_map] at this
  omega
theorem wordOk_of {v : List Int} (hne : v ≠ []) (hw : ∀ r ∈ v, isW r = true) (hs : stopP (termP v) = false) : wordOk (termP v) = true := by
  obtain ⟨ws, h1, h2, h3⟩ := termP_z v hne hw
  have h4 := h1.words hs 0 [] (fun r hr => by cases hr)
  rw [List.append_nil] at h4
  unfold wordOk
  rw [h1.run, h4]
  show ((wordsR 1 []).length + 1 == 1 && _ == _) = true
  rw [wordsR_nil]
  simp
theorem words_props : ∀ (N : Nat) (l : List Int) (p : Nat), l.length ≤ N → chainW p (wordsR p l) ∧ (∀ x ∈ wordsR p l, wordOk x.1 = true ∧ x.1.size ≤ 16 ∧ x.2 < p + l.length) ∧ (wordsR p l).length + sumL (fun x => x.1.size) (wordsR p l) ≤ 5 * l.length
  | _, [], p, _ => by rw [wordsR_nil]; exact ⟨trivial, (fun x hx => by cases hx), Nat.le_refl _⟩
  | 0, r :: l, _, h => by simp at h
  | N + 1, r :: l, p, h => by
    rw [List.length_cons] at h
    rw [wordsR_cons]
    have hmono : ∀ (q p : Nat) (W : List (ByteArray × Nat)), q ≤ p → chainW p W → chainW q W := fun q p W h1 h2 => by
      cases W with
      | nil => trivial
      | cons x W => exact ⟨Nat.le_trans h1 h2.1, h2.2⟩
    by_cases hr : isW r = true
    · rw [if_pos hr]
      have hlen : (l.takeWhile isW).length + ((l.dropWhile isW).drop 1).length ≤ l.length := by
        have he : (l.takeWhile isW).length + (l.dropWhile isW).length = l.length := by rw [← List.length_append, List.takeWhile_append_dropWhile]
        rw [List.length_drop]
        omega
      have hw : ∀ y ∈ r :: l.takeWhile isW, isW y = true := fun y hy => by
        rcases List.mem_cons.1 hy with rfl | hy
        · exact hr
        · exact tw_all isW l y hy
      obtain ⟨h1, h2, h3⟩ := words_props N ((l.dropWhile isW).drop 1) (p + 1) (by omega)
      by_cases hs : stopP (termP (r :: l.takeWhile isW)) = true
      · rw [if_pos hs]
        refine ⟨hmono _ _ _ (Nat.le_succ _) h1, fun x hx => ?_, by rw [List.length_cons]; omega⟩
        obtain ⟨a, b, c⟩ := h2 x hx
        exact ⟨a, b, by rw [List.length_cons]; omega⟩
      · rw [if_neg hs]
        have hsz := termP_len (r :: l.takeWhile isW) hw
        obtain ⟨_, _, _, hsz2⟩ := termP_z (r :: l.takeWhile isW) (List.cons_ne_nil _ _) hw
        rw [List.length_cons] at hsz
        refine ⟨⟨Nat.le_refl _, h1⟩, fun x hx => ?_, ?_⟩
        · rcases List.mem_cons.1 hx with rfl | hx
          · exact ⟨wordOk_of (List.cons_ne_nil _ _) hw (by simpa using hs), hsz2, by rw [List.length_cons]; show p < _; omega⟩
          · obtain ⟨a, b, c⟩ := h2 x hx
            exact ⟨a, b, by rw [List.length_cons]; omega⟩
        · rw [List.length_cons, List.length_cons, sumL]
          dsimp only
          omega
    · rw [if_neg hr]
      obtain ⟨h1, h2, h3⟩ := words_props N l p (by omega)
      exact ⟨h1, fun x hx => by obtain ⟨a, b, c⟩ := h2 x hx; exact ⟨a, b, by rw [List.length_cons]; omega⟩, by rw [List.length_cons]; omega⟩
theorem chain_terms (f : Int) (h : Nat) : ∀ (W : List (ByteArray × Nat)) (p : Nat), chainW p W → (∀ x ∈ W, wordOk x.1 = true ∧ x.2 ≤ h + 256) → termsOk f ((p : Int) - (h : Int)) (W.map fun x => (f, x.1, (x.2 : Int) - (h : Int))) = true
  | [], _, _, _ => rfl
  | x :: W, p, h1, h2 => by
    obtain ⟨a, b⟩ := h2 x (List.mem_cons_self ..)
    have ih := chain_terms f h W (x.2 + 1) h1.2 fun y hy => h2 y (List.mem_cons_of_mem _ hy)
    have e : ((x.2 + 1 : Nat) : Int) - (h : Int) = ((x.2 : Int) - (h : Int)) + 1 := by omega
    rw [e] at ih
    have h0 : termsOk f ((p : Int) - (h : Int)) ((x :: W).map fun x => (f, x.1, (x.2 : Int) - (h : Int))) = (f == f && wordOk x.1 && decide ((p : Int) - (h : Int) ≤ (x.2 : Int) - (h : Int)) && decide ((x.2 : Int) - (h : Int) ≤ 256) && termsOk f (((x.2 : Int) - (h : Int)) + 1) (W.map fun x => (f, x.1, (x.2 : Int) - (h : Int)))) := rfl
    have := h1.1
    rw [h0, ih, a, decide_eq_true (by omega), decide_eq_true (by omega)]
    simp
/-- what is read of a text -/
structure Good (Q : Nd → Prop) (n : Nd) (c : Nat) : Prop where
  q : Q n
  ok : NdOk n
  tot : ∃ t, Tot n t ∧ t + 1 ≤ 8 * c
theorem textsN_map (W : List (ByteArray × Nat)) (g : ByteArray × Nat → Int × ByteArray × Int) (hg : ∀ x, (g x).2.1 = x.1) : textsN (W.map g) = sumL (fun x => x.1.size) W := by
  induction W with
  | nil => rfl
  | cons x W ih =>
    unfold textsN at ih ⊢
    rw [List.map_cons, sumL, sumL, ih, hg]
theorem leaf_good {f : Int} (h0 : 0 ≤ f) (h3 : f ≤ 3) {v : List Int} (hv : v.length ≤ 256) {c : Nat} (hc : v.length ≤ c) (hc0 : 0 < c) {d : Nat} (hd : d ≤ 8) : Good (fun n => kindN n = 1 ∧ okN n d = true) (leafN f (textS v)) c := by
  have hrun : runesS (textS v) = v.map codeR := by rw [runesS_B]; exact runes_textR v
  have hvl : (v.map codeR).length = v.length := List.length_map ..
  obtain ⟨g1, g2, g3⟩ := words_props _ (v.map codeR) 0 (Nat.le_refl _)
  rw [hvl] at g3
  have g2 : ∀ x ∈ wordsR 0 (v.map codeR), wordOk x.1 = true ∧ x.1.size ≤ 16 ∧ x.2 < 0 + v.length := fun x hx => by have := g2 x hx; rw [hvl] at this; exact this
  have hlf : leafN f (textS v) = .mk 1 f ((relT (wordsR 0 (v.map codeR))).map fun x => (f, x.1, x.2)) [] := by unfold leafN; rw [hrun]
  rw [hlf]
  generalize wordsR 0 (v.map codeR) = W at *
  obtain ⟨h, hh⟩ : ∃ h : Nat, h = (W.head?.map (·.2)).getD 0 := ⟨_, rfl⟩
  have hrel : (relT W).map (fun x => (f, x.1, x.2)) = W.map fun x => (f, x.1, (x.2 : Int) - (h : Int)) := by
    unfold relT
    rw [List.map_map, hh]
    rfl
  rw [hrel]
  have hle : h ≤ 256 := by
    cases W with
    | nil => have : h = 0 := hh; omega
    | cons y l =>
      have e1 : h = y.2 := hh
      have := (g2 y (List.mem_cons_self ..)).2.2
      omega
  have hch : chainW h W := by
    cases W with
    | nil => trivial
    | cons x l =>
      have : h = x.2 := hh
      subst this
      exact ⟨Nat.le_refl _, g1.2⟩
  have hto := chain_terms f h W h hch fun x hx => by obtain ⟨a, _, b⟩ := g2 x hx; exact ⟨a, by omega⟩
  have hz : ((h : Int) - (h : Int)) = 0 := by omega
  rw [hz] at hto
  have hhd : headOk (W.map fun x => (f, x.1, (x.2 : Int) - (h : Int))) = true := by
    cases W with
    | nil => rfl
    | cons x l =>
      have : h = x.2 := hh
      subst this
      show ((x.2 : Int) - (x.2 : Int) == 0) = true
      rw [hz]
      rfl
  refine ⟨⟨rfl, ?_⟩, NdOk.mk 1 f _ [] (by decide) ⟨h0, by omega⟩ (fun t ht => ?_) ⟨by rw [List.length_map]; omega, by decide⟩ (fun n hn => by cases hn), ?_⟩
  · rw [okN_mk, if_pos rfl, decide_eq_true hd]
    unfold leafOk
    rw [decide_eq_true h3, hhd, hto]
    rfl
  · obtain ⟨x, hx, rfl⟩ := List.mem_map.1 ht
    obtain ⟨a, b, e⟩ := g2 x hx
    exact ⟨⟨h0, by show f ≤ 255; omega⟩, by show x.1.size ≤ _; omega, by show -9223372036854775808 ≤ (x.2 : Int) - (h : Int); omega, by show (x.2 : Int) - (h : Int) ≤ 9223372036854775807; omega⟩
  · refine ⟨_, Tot.mk 1 f _ [] [] rfl (fun i n m hi => by simp at hi), ?_⟩
    rw [List.length_map, textsN_map W _ (fun x => rfl), sumL]
    omega
theorem leafTS_shape {f : Int} {t : ByteArray} {l r : List Int} {n : Nd} (h : leafTS f t l = .ok (n, r)) : (n = leafN f t ∧ r = l) ∨ ∃ v, n = leafN f (textS v) ∧ v.length + r.length ≤ l.length := by
  unfold leafTS at h
  by_cases h0 : t.size ≠ 0
  · rw [if_pos h0] at h
    injection h with h; injection h with h1 h2
    exact Or.inl ⟨h1.symm, h2.symm⟩
  rw [if_neg h0] at h
  by_cases h1 : signS 34 l = true
  · rw [if_pos h1] at h
    split at h
    · injection h with h; injection h with h1 h2
      refine Or.inr ⟨_, h1.symm, ?_⟩
      rw [← h2, List.length_tail]
      have := afterS_le 34 l
      have he : ((afterS 34 l).takeWhile (· != 34)).length + ((afterS 34 l).dropWhile (· != 34)).length = (afterS 34 l).length := by rw [← List.length_append, List.takeWhile_append_dropWhile]
      omega
    · cases h
  · rw [if_neg h1] at h; cases h
theorem leafS_good {l r : List Int} {n : Nd} (hl : l.length ≤ 256) (h : leafS l = .ok (n, r)) {d : Nat} (hd : d ≤ 8) : Good (fun n => kindN n = 1 ∧ okN n d = true) n (l.length - r.length) := by
  have hp := leafS_prog _ _ _ h
  unfold leafS at h
  cases hf : fieldS l with
  | none =>
    rw [hf] at h
    dsimp only at h
    have he : (l.takeWhile isW).length + (l.dropWhile isW).length = l.length := by rw [← List.length_append, List.takeWhile_append_dropWhile]
    rcases leafTS_shape h with ⟨rfl, rfl⟩ | ⟨v, rfl, hv⟩
    · exact leaf_good (by decide) (by decide) (by omega) (by omega) (by omega) hd
    · exact leaf_good (by decide) (by decide) (by omega) (by omega) (by omega) hd
  | some x =>
    obtain ⟨f, t, l'⟩ := x
    rw [hf] at h
    dsimp only at h
    unfold fieldS at hf
    dsimp only at hf
    split at hf
    · rename_i hc
      injection hf with hf; injection hf with hf1 hf; injection hf with hf2 hf3
      have he : ((skipS (l.dropWhile isW).tail).takeWhile isW).length + ((skipS (l.dropWhile isW).tail).dropWhile isW).length = (skipS (l.dropWhile isW).tail).length := by rw [← List.length_append, List.takeWhile_append_dropWhile]
      have h6 := skipS_le (l.dropWhile isW).tail
      rw [List.length_tail] at h6
      have h7 := dw_le isW l
      subst hf1 hf2 hf3
      rcases leafTS_shape h with ⟨rfl, rfl⟩ | ⟨v, rfl, hv⟩
      · exact leaf_good (by omega) (by omega) (by omega) (by omega) (by omega) hd
      · exact leaf_good (by omega) (by omega) (by omega) (by omega) (by omega) hd
    · cases hf
/-- a reader of parts -/
def GoodF (Q : Nd → Prop) (f : List Int → PRes) : Prop := ∀ l n r, l.length ≤ 256 → f l = .ok (n, r) → r.length < l.length ∧ Good Q n (l.length - r.length)
def Many (Q : Nd → Prop) (kind : Int) (n : Nd) : Prop := Q n ∨ ∃ kids, n = .mk kind 0 [] kids ∧ 2 ≤ kids.length ∧ ∀ k ∈ kids, Q k
theorem several_good {Q : Nd → Prop} {kind : Int} (hk : -9223372036854775808 ≤ kind ∧ kind ≤ 9223372036854775807) {kids : List Nd} {ns : List Nat} {c : Nat} (h0 : kids ≠ []) (hq : ∀ k ∈ kids, Q k ∧ NdOk k) (hl : ns.length = kids.length) (ht : ∀ (i : Nat) (n : Nd) (m : Nat), kids[i]? = some n → ns[i]? = some m → Tot n m) (hs : sumL id ns + kids.length ≤ 8 * c) (hc : c ≤ 256) : Good (Many Q kind) (severalN kind kids) c := by
  match kids, ns, h0, hl with
  | [n], [m], _, _ =>
    obtain ⟨h1, h2⟩ := hq n (List.mem_cons_self ..)
    refine ⟨Or.inl h1, h2, m, ht 0 n m rfl rfl, ?_⟩
    have : m + 0 + 1 ≤ 8 * c := hs
    omega
  | n :: n' :: l, ns, _, hl =>
    have hlen : (n :: n' :: l).length = l.length + 2 := rfl
    refine ⟨Or.inr ⟨_, rfl, by omega, fun k hk => (hq k hk).1⟩, NdOk.mk kind 0 [] _ hk (by decide) (fun t ht => by cases ht) ⟨by decide, by omega⟩ (fun k hk => (hq k hk).2), _, Tot.mk kind 0 [] _ ns hl ht, ?_⟩
    have : textsN [] = 0 := rfl
    rw [this, List.length_nil]
    omega
theorem loop_good {Q : Nd → Prop} {f : List Int → PRes} {more : List Int → Bool × List Int} {kind : Int} (hk : -9223372036854775808 ≤ kind ∧ kind ≤ 9223372036854775807) (hf : GoodF Q f) (hm : ∀ l, (more l).2.length ≤ l.length) (L : Nat) (hL : L ≤ 256) : ∀ (k : Nat) (kids : List Nd) (ns : List Nat) (l : List Int) (n : Nd) (r : List Int), kids ≠ [] → (∀ k ∈ kids, Q k ∧ NdOk k) → ns.length = kids.length → (∀ (i : Nat) (n : Nd) (m : Nat), kids[i]? = some n → ns[i]? = some m → Tot n m) → sumL id ns + kids.length + 8 * l.length ≤ 8 * L →
    loopS f more kind k kids l = .ok (n, r) → Good (Many Q kind) n (L - r.length) ∧ r.length ≤ l.length
  | 0, _, _, _, _, _, _, _, _, _, _, h => by unfold loopS at h; cases h
  | k + 1, kids, ns, l, n, r, h0, hq, hl, ht, hs, h => by
    unfold loopS at h
    have h3 := hm l
    by_cases h1 : (more l).1 = true
    · rw [if_pos h1] at h
      cases hr : f (more l).2 with
      | error e => rw [hr] at h; cases h
      | ok x =>
        obtain ⟨n', r'⟩ := x
        rw [hr] at h
        dsimp only at h
        obtain ⟨g0, g1, g2, m, g3, g4⟩ := hf _ _ _ (by omega) hr
        obtain ⟨a, b⟩ := loop_good hk hf hm L hL k (kids ++ [n']) (ns ++ [m]) r' n r (by simp) (fun x hx => by
          rcases List.mem_append.1 hx with hx | hx
          · exact hq x hx
          · rw [List.mem_singleton] at hx; subst hx; exact ⟨g1, g2⟩) (by rw [List.length_append, List.length_append, hl]; rfl) (fun i x y hx hy => by
          rcases Nat.lt_or_ge i kids.length with hi | hi
          · rw [List.getElem?_append_left hi] at hx
            rw [List.getElem?_append_left (by omega)] at hy
            exact ht i x y hx hy
          · rw [List.getElem?_append_right hi] at hx
            rw [List.getElem?_append_right (by omega), hl] at hy
            cases hz : i - kids.length with
            | zero =>
              rw [hz] at hx hy
              injection hx with hx
              injection hy with hy
              subst hx hy
              exact g3
            | succ j => rw [hz] at hx; simp at hx) (by
          have : sumL id (ns ++ [m]) = sumL id ns + m := sumL_snoc id ns m
          rw [this, List.length_append, List.length_singleton]
          omega) h
        exact ⟨a, by omega⟩
    · rw [if_neg h1] at h
      injection h with h; injection h with h5 h6
      subst h5 h6
      exact ⟨several_good hk h0 hq hl ht (by omega) (by omega), h3⟩
theorem list_good {Q : Nd → Prop} {f : List Int → PRes} {more : List Int → Bool × List Int} {kind : Int} (hk : -9223372036854775808 ≤ kind ∧ kind ≤ 9223372036854775807) (hf : GoodF Q f) (hm : ∀ l, (more l).2.length ≤ l.length) : GoodF (Many Q kind) (listOf f more kind) := by
  intro l n r hl h
  unfold listOf at h
  cases hr : f l with
  | error e => rw [hr] at h; cases h
  | ok x =>
    obtain ⟨n', r'⟩ := x
    rw [hr] at h
    dsimp only at h
    obtain ⟨g0, g1, g2, m, g3, g4⟩ := hf _ _ _ hl hr
    obtain ⟨a, b⟩ := loop_good hk hf hm l.length hl _ [n'] [m] r' n r (by simp) (fun x hx => by rw [List.mem_singleton] at hx; subst hx; exact ⟨g1, g2⟩) rfl (fun i x y hx hy => by
      cases i with
      | zero =>
        injection hx with hx
        injection hy with hy
        subst hx hy
        exact g3
      | succ j => simp at hx) (by
      have : sumL id [m] = m := by show m + 0 = m; rfl
      rw [this, List.length_singleton]
      omega) h
    exact ⟨by omega, a⟩
theorem GoodF.mono {Q Q' : Nd → Prop} {f : List Int → PRes} (h : GoodF Q f) (hq : ∀ n, Q n → Q' n) : GoodF Q' f := fun l n r hl he => by
  obtain ⟨a, b, c, d⟩ := h l n r hl he
  exact ⟨a, hq n b, c, d⟩
theorem okN_mono {n : Nd} {d : Nat} (h : okN n (d + 1) = true) : okN n d = true := by
  have h8 := okN_le h
  have hr : rankN (kindN n) ≤ 2 := by unfold rankN; split <;> (try split) <;> omega
  have h1 := (deep_ok _ n (Nat.le_refl _) (d + 1) 40 (by omega)).1 h
  exact (deep_ok _ n (Nat.le_refl _) d 40 (by omega)).2 (by omega)
def QN (d : Nat) (n : Nd) : Prop := okN n (if kindN n = 2 ∨ kindN n = 3 then d + 1 else d) = true
def QA (d : Nat) (n : Nd) : Prop := okN n (if kindN n = 3 then d + 1 else d) = true
theorem okL_of {kids : List Nd} {d : Nat} {pk : Int} (h : ∀ n ∈ kids, okN n (if brk pk (kindN n) then d + 1 else d) = true) : okL kids d pk = true := by
  induction kids with
  | nil => rw [okL_nil]
  | cons a l ih => rw [okL_cons, h a (List.mem_cons_self ..), ih fun n hn => h n (List.mem_cons_of_mem _ hn)]; rfl
theorem many_and {d : Nat} {n : Nd} (h : Many (QN d) 2 n) : QA d n := by
  rcases h with h | ⟨kids, rfl, h2, h3⟩
  · unfold QN at h
    unfold QA
    by_cases k3 : kindN n = 3
    · rw [if_pos k3]; rw [if_pos (Or.inr k3)] at h; exact h
    · rw [if_neg k3]
      by_cases k2 : kindN n = 2
      · rw [if_pos (Or.inl k2)] at h; exact okN_mono h
      · rw [if_neg (by omega)] at h; exact h
  · unfold QA
    rw [if_neg (by show ¬ (2 : Int) = 3; decide), okN_mk, if_neg (by decide), if_neg (by decide)]
    have hL : okL kids d 2 = true := okL_of fun n hn => by
      have := h3 n hn
      unfold QN at this
      cases hb : brk 2 (kindN n) with
      | true =>
        rw [if_pos rfl]
        rw [if_pos (by have := brk_true.1 hb; omega)] at this
        exact this
      | false =>
        rw [if_neg (by decide)]
        rw [if_neg (fun h => by rw [brk_true.2 (by omega)] at hb; cases hb)] at this
        exact this
    have hd : d ≤ 8 := by
      cases kids with
      | nil => simp at h2
      | cons a l => exact okL_ne hL
    rw [hL, decide_eq_true hd, decide_eq_true h2]
    rfl
theorem many_or {d : Nat} {n : Nd} (h : Many (QA d) 3 n) : okN n d = true := by
  rcases h with h | ⟨kids, rfl, h2, h3⟩
  · unfold QA at h
    by_cases k3 : kindN n = 3
    · rw [if_pos k3] at h; exact okN_mono h
    · rw [if_neg k3] at h; exact h
  · rw [okN_mk, if_neg (by decide), if_neg (by decide)]
    have hL : okL kids d 3 = true := okL_of fun n hn => by
      have := h3 n hn
      unfold QA at this
      cases hb : brk 3 (kindN n) with
      | true =>
        rw [if_pos rfl]
        rw [if_pos (by have := brk_true.1 hb; omega)] at this
        exact this
      | false =>
        rw [if_neg (by decide)]
        rw [if_neg (fun h => by rw [brk_true.2 (Or.inl h)] at hb; cases hb)] at this
        exact this
    have hd : d ≤ 8 := by
      cases kids with
      | nil => simp at h2
      | cons a l => exact okL_ne hL
    rw [hL, decide_eq_true hd, decide_eq_true h2]
    rfl
theorem and_good {d : Nat} {f : List Int → PRes} (h : GoodF (QN d) f) : GoodF (QA d) (andOf f) := (list_good (by decide) h andM_le).mono fun _ => many_and
theorem or_good {d : Nat} {f : List Int → PRes} (h : GoodF (QN d) f) : GoodF (fun n => okN n d = true) (orOf f) := (list_good (by decide) (and_good h) orM_le).mono fun _ => many_or
theorem leaf_goodF {d : Nat} (hd : d ≤ 8) (a b : Int) : GoodF (QN d) (fun l => leafS (afterS a (afterS b l))) := fun l n r hl h => by
  have h1 := afterS_le a (afterS b l)
  have h2 := afterS_le b l
  have h3 := leafS_prog _ _ _ h
  obtain ⟨⟨k, q⟩, g2, t, g3, g4⟩ := leafS_good (by omega) h hd
  exact ⟨by omega, by unfold QN; rw [if_neg (by omega)]; exact q, g2, t, g3, by omega⟩
theorem not_good : ∀ (m d : Nat), m + d = 8 → GoodF (QN d) (notS m)
  | 0, d, hd => fun l n r hl h => by
    unfold notS at h
    by_cases h1 : signS 33 l = true
    · rw [if_pos h1] at h; cases h
    rw [if_neg h1] at h
    by_cases h2 : signS 40 (afterS 33 l) = true
    · rw [if_pos h2] at h; cases h
    rw [if_neg h2] at h
    exact leaf_goodF (by omega) 40 33 l n r hl h
  | m + 1, d, hd => fun l n r hl h => by
    unfold notS at h
    by_cases h1 : signS 33 l = true
    · rw [if_pos h1] at h
      have h5 := afterS_lt h1
      cases hr : notS m (afterS 33 l) with
      | error e => rw [hr] at h; cases h
      | ok x =>
        obtain ⟨n', r'⟩ := x
        rw [hr] at h
        dsimp only at h
        injection h with h; injection h with h6 h7
        subst h6 h7
        obtain ⟨g0, g1, g2, t, g3, g4⟩ := not_good m (d + 1) (by omega) _ _ _ (by omega) hr
        refine ⟨by omega, ?_, NdOk.mk 4 0 [] [n'] (by decide) (by decide) (fun t ht => by cases ht) ⟨by decide, by show 1 ≤ _; decide⟩ (fun k hk => by rw [List.mem_singleton] at hk; subst hk; exact g2), _, Tot.mk 4 0 [] [n'] [t] rfl (fun i x y hx hy => by
          cases i with
          | zero =>
            injection hx with hx
            injection hy with hy
            subst hx hy
            exact g3
          | succ j => simp at hx), ?_⟩
        · unfold QN at g1 ⊢
          rw [if_neg (by show ¬ ((4 : Int) = 2 ∨ (4 : Int) = 3); decide), okN_mk, if_neg (by decide), if_pos rfl]
          have hL : okL [n'] (d + 1) 4 = true := okL_of fun x hx => by
            rw [List.mem_singleton] at hx
            subst hx
            cases hb : brk 4 (kindN x) with
            | true =>
              rw [if_pos rfl]
              rw [if_pos (by have := brk_true.1 hb; omega)] at g1
              exact g1
            | false =>
              rw [if_neg (by decide)]
              rw [if_neg (fun h => by rw [brk_true.2 (by omega)] at hb; cases hb)] at g1
              exact g1
          rw [hL, decide_eq_true (by omega : d ≤ 8)]
          rfl
        · have e1 : textsN [] = 0 := rfl
          have e2 : sumL id [t] = t := rfl
          rw [e1, e2, List.length_nil]
          omega
    rw [if_neg h1] at h
    by_cases h2 : signS 40 (afterS 33 l) = true
    · rw [if_pos h2] at h
      have h5 := afterS_lt h2
      have h6 := afterS_le 33 l
      cases hr : orOf (notS m) (afterS 40 (afterS 33 l)) with
      | error e => rw [hr] at h; cases h
      | ok x =>
        obtain ⟨n', r'⟩ := x
        rw [hr] at h
        dsimp only at h
        by_cases h7 : signS 41 r' = true
        · rw [if_pos h7] at h
          injection h with h; injection h with h8 h9
          subst h8 h9
          obtain ⟨g0, g1, g2, t, g3, g4⟩ := or_good (not_good m (d + 1) (by omega)) _ _ _ (by omega) hr
          have h10 := afterS_lt h7
          refine ⟨by omega, ?_, g2, t, g3, by omega⟩
          unfold QN
          split
          · exact g1
          · exact okN_mono g1
        · rw [if_neg h7] at h; cases h
    rw [if_neg h2] at h
    exact leaf_goodF (by omega) 40 33 l n r hl h

theorem limL_pos : ∀ (l : List UInt8) (acc n : Int), 0 ≤ acc → limL acc l = some n → 0 ≤ n
  | [], acc, n, h0, h => by injection h with h; omega
  | b :: l, acc, n, h0, h => by
    rw [limL_cons] at h
    split at h
    · cases h
    · exact limL_pos l _ n (by omega) h
theorem limit_rng {t : ByteArray} {k : Int} (h : limitP t = some k) : 0 ≤ k ∧ k ≤ 64 := by
  unfold limitP at h
  cases hl : limL 0 t.data.toList with
  | none => rw [hl] at h; cases h
  | some n =>
    rw [hl] at h
    dsimp only at h
    split at h
    · rename_i hk
      injection h with h
      subst h
      refine ⟨limL_pos _ 0 n (by decide) hl, ?_⟩
      unfold limOk at hk
      simp only [Bool.not_eq_true', Bool.or_eq_false_iff, decide_eq_false_iff_not] at hk
      omega
    · cases h
theorem order_rng {t : ByteArray} {k : Int} (h : orderP t = some k) : k = 0 ∨ k = 1 := by
  unfold orderP at h
  split at h
  · injection h with h; exact Or.inr h.symm
  · split at h
    · injection h with h; exact Or.inl h.symm
    · cases h
theorem tail_rng : ∀ (k : Nat) (li o : Int) (l : List Int) (a b : Int), li ≤ 64 → o ≤ 1 → -1 ≤ o → tailS k li o l = .ok (a, b) → a ≤ 64 ∧ b ≤ 1 ∧ -1 ≤ b
  | 0, _, _, _, _, _, _, _, _, h => by unfold tailS at h; cases h
  | k + 1, li, o, l, a, b, h1, h2, h3, h => by
    unfold tailS at h
    by_cases c1 : signS 35 l = true
    · rw [if_pos c1] at h
      by_cases c2 : 0 ≤ li
      · rw [if_pos c2] at h; cases h
      rw [if_neg c2] at h
      cases hl : limitP (nextWS (afterS 35 l)) with
      | none => rw [hl] at h; cases h
      | some n =>
        rw [hl] at h
        exact tail_rng k n o _ a b (limit_rng hl).2 h2 h3 h
    rw [if_neg c1] at h
    by_cases c2 : signS 64 (afterS 35 l) = true
    · rw [if_pos c2] at h
      by_cases c3 : 0 ≤ o
      · rw [if_pos c3] at h; cases h
      rw [if_neg c3] at h
      cases hl : orderP (nextWS (afterS 64 (afterS 35 l))) with
      | none => rw [hl] at h; cases h
      | some n =>
        rw [hl] at h
        have := order_rng hl
        exact tail_rng k li n _ a b h1 (by omega) (by omega) h
    rw [if_neg c2] at h
    split at h
    · cases h
    · injection h with h; injection h with h4 h5
      subst h4 h5
      exact ⟨h1, h2, h3⟩
theorem runesU_len : ∀ (f : Nat) (m : List UInt8), (runesU f m).length ≤ f := by
  intro f
  induction f with
  | zero => intro m; exact Nat.le_refl _
  | succ f ih =>
    intro m
    cases m with
    | nil => exact Nat.zero_le _
    | cons c m =>
      have := ih ((c :: m).drop (dec0 (c :: m)).2)
      show (_ :: runesU f ((c :: m).drop (dec0 (c :: m)).2)).length ≤ f + 1
      rw [List.length_cons]
      omega
/-- a query that was read may be -/
theorem parse_may {s : ByteArray} {n : Nd} {li o : Int} (h : parseS s = .ok (n, li, o)) : mayQ n li o = true ∧ NdOk n ∧ ∃ m, Tot n m ∧ m < 3000 := by
  unfold parseS at h
  by_cases h1 : 256 < s.size
  · rw [if_pos h1] at h; cases h
  rw [if_neg h1] at h
  have hl : (runesS s).length ≤ 256 := by
    rw [runesS_B]
    have := runesU_len s.data.toList.length s.data.toList
    rw [bsize] at this
    show (runesU s.data.toList.length s.data.toList).length ≤ 256
    rw [bsize]
    omega
  unfold parseR at h
  cases hr : rootS (runesS s) with
  | error e => rw [hr] at h; cases h
  | ok x =>
    obtain ⟨n', l'⟩ := x
    rw [hr] at h
    dsimp only at h
    cases ht : tailOf l' with
    | error e => rw [ht] at h; cases h
    | ok p =>
      obtain ⟨a, b⟩ := p
      rw [ht] at h
      dsimp only at h
      injection h with h; injection h with h2 h; injection h with h3 h4
      subst h2
      obtain ⟨g1, g2, g3⟩ := tail_rng _ _ _ _ a b (by decide) (by decide) (by decide) ht
      obtain ⟨k0, k1, k2, m, k3, k4⟩ := or_good (not_good 8 0 rfl) _ _ _ hl hr
      refine ⟨?_, k2, m, k3, by omega⟩
      unfold mayQ
      rw [k1, ← h3, ← h4]
      have e1 : 0 ≤ (if a < 0 then (10 : Int) else a) := by split <;> omega
      have e2 : (if a < 0 then (10 : Int) else a) ≤ 64 := by split <;> omega
      have e3 : max b 0 = 0 ∨ max b 0 = 1 := by omega
      show (decide (0 ≤ (if a < 0 then (10 : Int) else a)) && decide ((if a < 0 then (10 : Int) else a) ≤ 64) && (max b 0 == 0 || max b 0 == 1) && true) = true
      rw [decide_eq_true e1, decide_eq_true e2]
      rcases e3 with e | e <;> rw [e] <;> rfl
end Go.Proofs.YtbepgbkbpkaodaaDoor
