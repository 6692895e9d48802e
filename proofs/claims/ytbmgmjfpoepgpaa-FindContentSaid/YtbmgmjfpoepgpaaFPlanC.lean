/- Plain: a key's list is found in a segment's table. -/
import Derived.Test.YtbmgmjfpoepgpaaFPlanB
namespace Go.Proofs.Ytbmgmjfpoepgpaa
open Go.RowKit

/-- within so many accesses -/
def Tree.ReadsN {α : Type} (cs : List Int) (t : Tree α) (N : Nat) (Q : α → Prop) : Prop := ∃ x n, t.ideal cs = some (x, cs, n) ∧ n ≤ N ∧ Q x
theorem readsN_ret {α : Type} {cs : List Int} {Q : α → Prop} {x : α} {N : Nat} (h : Q x) : (Tree.ret x).ReadsN cs N Q := ⟨x, 0, rfl, Nat.zero_le _, h⟩
theorem readsN_bind {α β : Type} {cs : List Int} {Q : β → Prop} {t : Tree α} {f : α → Tree β} {N1 N2 : Nat} (h : t.ReadsN cs N1 fun x => (f x).ReadsN cs N2 Q) : (t.bind f).ReadsN cs (N1 + N2) Q := by
  obtain ⟨x, n, h1, hn, y, k, h2, hk, h3⟩ := h
  exact ⟨y, k + n, by rw [Tree.ideal_bind, h1]; simp [h2], by omega, h3⟩
theorem readsN_load {α : Type} {cs : List Int} {Q : α → Prop} {a : Int} {i : Nat} {v : Int} {k : Int → Tree α} {N : Nat} (ha : a = (i : Int)) (hv : cs[i]? = some v) (h : (k v).ReadsN cs N Q) : (Tree.load a k).ReadsN cs (N + 1) Q := by
  obtain ⟨x, n, h1, hn, h2⟩ := h
  have hlt := (List.getElem?_eq_some_iff.1 hv).1
  refine ⟨x, n + 1, ?_, by omega, h2⟩
  unfold Tree.ideal
  have e : cs.getD a.toNat 0 = v := by rw [ha, Int.toNat_natCast, List.getD_eq_getElem?_getD, hv]; rfl
  rw [if_pos (by omega), e, h1]; rfl
theorem readsN_off {α : Type} {cs : List Int} {Q : α → Prop} {k : Bool → Tree α} {N : Nat} (h : (k false).ReadsN cs N Q) : (Tree.off k).ReadsN cs N Q := h
theorem readsN_mono {α : Type} {cs : List Int} {Q Q' : α → Prop} {t : Tree α} {N N' : Nat} (h : t.ReadsN cs N Q) (hN : N ≤ N') (hq : ∀ x, Q x → Q' x) : t.ReadsN cs N' Q' := by
  obtain ⟨x, n, h1, hn, h2⟩ := h
  exact ⟨x, n, h1, by omega, hq x h2⟩
theorem readsN_of {α : Type} {cs : List Int} {Q : α → Prop} {t : Tree α} {N : Nat} (h : t.Reads cs Q) (hc : t.Cost (fun _ c => c ≤ 0 + N) 0) : t.ReadsN cs N Q := by
  obtain ⟨x, n, h1, h2⟩ := h
  exact ⟨x, n, h1, by have := (Tree.cost_ideal _ _ _ _ _ _ hc h1).1; omega, h2⟩
theorem bl_irr : ∀ l : List UInt8, Op.bytesLess l l = false
  | [] => rfl
  | a :: l => by
    unfold Op.bytesLess
    rw [bl_irr l]
    have : decide (a < a) = false := decide_eq_false (UInt8.lt_irrefl a)
    rw [this]; simp
theorem bl_trans : ∀ a b c : List UInt8, Op.bytesLess a b = true → Op.bytesLess b c = true → Op.bytesLess a c = true
  | [], [], _, h, _ => by cases h
  | [], _ :: _, [], _, h => by cases h
  | [], _ :: _, _ :: _, _, _ => rfl
  | _ :: _, [], _, h, _ => by cases h
  | _ :: _, _ :: _, [], _, h => by cases h
  | x :: a, y :: b, z :: c, h, k => by
    unfold Op.bytesLess at h k ⊢
    rw [Bool.or_eq_true, Bool.and_eq_true, decide_eq_true_eq, beq_iff_eq] at h k ⊢
    rcases h with h | ⟨rfl, h⟩
    · rcases k with k | ⟨rfl, k⟩
      · exact Or.inl (UInt8.lt_trans h k)
      · exact Or.inl h
    · rcases k with k | ⟨rfl, k⟩
      · exact Or.inl k
      · exact Or.inr ⟨rfl, bl_trans a b c h k⟩
theorem ltB_irr (a : ByteArray) : ltB a a = false := bl_irr _
theorem ltB_trans {a b c : ByteArray} (h : ltB a b = true) (k : ltB b c = true) : ltB a c = true := bl_trans _ _ _ h k
/-- keys, the least first -/
def UpK (ks : List ByteArray) : Prop := ∀ (i : Nat) (a b : ByteArray), ks[i]? = some a → ks[i + 1]? = some b → ltB a b = true
theorem UpK.lt {ks : List ByteArray} (h : UpK ks) : ∀ (i j : Nat) (a b : ByteArray), i < j → ks[i]? = some a → ks[j]? = some b → ltB a b = true := by
  intro i j a b hij ha
  induction j generalizing b with
  | zero => omega
  | succ j ih =>
    intro hb
    have hj : j < ks.length := by have := (List.getElem?_eq_some_iff.1 hb).1; omega
    have h0 : ks[j]? = some ks[j] := List.getElem?_eq_getElem hj
    have h1 := h j _ _ h0 hb
    by_cases e : i = j
    · subst e
      rw [ha] at h0; injection h0 with h0
      rw [h0]; exact h1
    · exact ltB_trans (ih _ (by omega) h0) h1
theorem reads_termL {cs : List Int} {a docs : Nat} {ks : List ByteArray} {recs vals : Nat → Int} (hK : UpK ks) (hr : ∀ i, i < ks.length → cs[a + 2 + 4 * docs + 2 * i]? = some (recs i)) (hv : ∀ i, i < ks.length → cs[a + 2 + 4 * docs + 2 * i + 1]? = some (vals i))
    (hk : ∀ i k, ks[i]? = some k → (readD (recs i)).ReadsN cs 6 fun x => x = k) (p : Nat) (key : ByteArray) (hp : ks[p]? = some key) :
    ∀ (f lo hi : Nat), lo ≤ p → p < hi → hi ≤ ks.length → hi ≤ lo + f → (termL a docs key f lo hi).ReadsN cs (8 * (hi - lo)) fun v => v = vals p
  | 0, lo, hi, h1, h2, _, h4 => by omega
  | f + 1, lo, hi, h1, h2, h3, h4 => by
    unfold termL
    rw [if_pos (by omega), show 8 * (hi - lo) = 6 + (8 * (hi - lo) - 7) + 1 by omega]
    obtain ⟨mid, hm⟩ : ∃ mid, mid = (lo + hi) / 2 := ⟨_, rfl⟩
    have hmI : ((lo : Int) + (hi : Int)) / 2 = (mid : Int) := by omega
    rw [hmI]
    have hml : mid < ks.length := by omega
    have hgm : ks[mid]? = some ks[mid] := List.getElem?_eq_getElem hml
    generalize ks[mid] = km at hgm
    refine readsN_load (i := a + 2 + 4 * docs + 2 * mid) (by simp) (hr mid hml) ?_
    refine readsN_bind (N1 := 6) (N2 := 8 * (hi - lo) - 7) (readsN_mono (hk mid km hgm) (Nat.le_refl _) fun x hx => ?_)
    subst hx
    refine readsN_off ?_
    rw [if_neg (by decide)]
    by_cases e : x.toList = key.toList
    · rw [if_pos e]
      have hmp : mid = p := by
        rcases Nat.lt_trichotomy mid p with h | h | h
        · have := hK.lt mid p _ _ h hgm hp
          unfold ltB at this
          rw [e, bl_irr] at this; cases this
        · exact h
        · have := hK.lt p mid _ _ h hp hgm
          unfold ltB at this
          rw [e, bl_irr] at this; cases this
      subst hmp
      exact readsN_mono (readsN_load (Q := fun v => v = vals mid) (N := 0) (i := a + 2 + 4 * docs + 2 * mid + 1) (by simp) (hv mid hml) (readsN_ret rfl)) (by omega) (fun _ h => h)
    · rw [if_neg e]
      by_cases hl : ltB x key = true
      · rw [if_pos hl]
        have hmp : mid < p := by
          rcases Nat.lt_trichotomy mid p with h | h | h
          · exact h
          · subst h
            rw [hgm] at hp; injection hp with hp
            exact absurd (by rw [hp]) e
          · have := ltB_trans hl (hK.lt p mid _ _ h hp hgm)
            rw [ltB_irr] at this; cases this
        have := reads_termL hK hr hv hk p key hp f (mid + 1) hi (by omega) h2 h3 (by omega)
        refine readsN_mono ?_ (show 8 * (hi - (mid + 1)) ≤ _ by omega) (fun _ h => h)
        simpa using this
      · rw [if_neg hl]
        have hmp : p < mid := by
          rcases Nat.lt_trichotomy mid p with h | h | h
          · exact absurd (hK.lt mid p _ _ h hgm hp) hl
          · subst h
            rw [hgm] at hp; injection hp with hp
            exact absurd (by rw [hp]) e
          · exact h
        exact readsN_mono (reads_termL hK hr hv hk p key hp f lo mid h1 hmp (by omega) (by omega)) (by omega) (fun _ h => h)
theorem reads_termL_none {cs : List Int} {a docs : Nat} {ks : List ByteArray} {recs vals : Nat → Int} (hr : ∀ i, i < ks.length → cs[a + 2 + 4 * docs + 2 * i]? = some (recs i)) (hv : ∀ i, i < ks.length → cs[a + 2 + 4 * docs + 2 * i + 1]? = some (vals i))
    (hk : ∀ i k, ks[i]? = some k → (readD (recs i)).ReadsN cs 6 fun x => x = k) (key : ByteArray) (hp : ∀ k ∈ ks, k.toList ≠ key.toList) :
    ∀ (f lo hi : Nat), hi ≤ ks.length → (termL a docs key f lo hi).ReadsN cs (8 * (hi - lo)) fun v => v = 0
  | 0, lo, hi, _ => readsN_ret rfl
  | f + 1, lo, hi, h3 => by
    unfold termL
    by_cases hlt : lo < hi
    · rw [if_pos (by omega), show 8 * (hi - lo) = 6 + (8 * (hi - lo) - 7) + 1 by omega]
      obtain ⟨mid, hm⟩ : ∃ mid, mid = (lo + hi) / 2 := ⟨_, rfl⟩
      have hmI : ((lo : Int) + (hi : Int)) / 2 = (mid : Int) := by omega
      rw [hmI]
      have hml : mid < ks.length := by omega
      have hgm : ks[mid]? = some ks[mid] := List.getElem?_eq_getElem hml
      generalize ks[mid] = km at hgm
      refine readsN_load (i := a + 2 + 4 * docs + 2 * mid) (by simp) (hr mid hml) ?_
      refine readsN_bind (N1 := 6) (N2 := 8 * (hi - lo) - 7) (readsN_mono (hk mid km hgm) (Nat.le_refl _) fun x hx => ?_)
      subst hx
      refine readsN_off ?_
      rw [if_neg (by decide), if_neg (hp _ (List.mem_of_getElem? hgm))]
      split
      · have := reads_termL_none hr hv hk key hp f (mid + 1) hi h3
        refine readsN_mono ?_ (show 8 * (hi - (mid + 1)) ≤ _ by omega) (fun _ h => h)
        simpa using this
      · exact readsN_mono (reads_termL_none hr hv hk key hp f lo mid (by omega)) (by omega) (fun _ h => h)
    · rw [if_neg (by omega)]
      exact readsN_ret rfl
theorem reads_term {cs : List Int} {a docs : Nat} {ks : List ByteArray} {recs vals : Nat → Int} (h0 : cs[a]? = some ((docs : Int) + 1)) (h1 : cs[a + 1]? = some (ks.length : Int)) (hd : docs ≤ 64) (hn : ks.length ≤ 256) (hK : UpK ks) (hr : ∀ i, i < ks.length → cs[a + 2 + 4 * docs + 2 * i]? = some (recs i)) (hv : ∀ i, i < ks.length → cs[a + 2 + 4 * docs + 2 * i + 1]? = some (vals i))
    (hk : ∀ i k, ks[i]? = some k → (readD (recs i)).ReadsN cs 6 fun x => x = k) (p : Nat) (key : ByteArray) (hp : ks[p]? = some key) : (termT a key).ReadsN cs (8 * ks.length + 2) fun v => v = vals p := by
  have hlt := (List.getElem?_eq_some_iff.1 hp).1
  unfold termT
  refine readsN_load (i := a) rfl h0 (readsN_load (i := a + 1) (by simp) h1 ?_)
  rw [if_neg (by omega), show (docs : Int) + 1 - 1 = (docs : Int) by omega]
  exact reads_termL hK hr hv hk p key hp 257 0 ks.length (Nat.zero_le _) hlt (Nat.le_refl _) (by omega)
theorem reads_term_none {cs : List Int} {a docs : Nat} {ks : List ByteArray} {recs vals : Nat → Int} (h0 : cs[a]? = some ((docs : Int) + 1)) (h1 : cs[a + 1]? = some (ks.length : Int)) (hd : docs ≤ 64) (hn : ks.length ≤ 256) (hr : ∀ i, i < ks.length → cs[a + 2 + 4 * docs + 2 * i]? = some (recs i)) (hv : ∀ i, i < ks.length → cs[a + 2 + 4 * docs + 2 * i + 1]? = some (vals i))
    (hk : ∀ i k, ks[i]? = some k → (readD (recs i)).ReadsN cs 6 fun x => x = k) (key : ByteArray) (hp : ∀ k ∈ ks, k.toList ≠ key.toList) : (termT a key).ReadsN cs (8 * ks.length + 2) fun v => v = 0 := by
  unfold termT
  refine readsN_load (i := a) rfl h0 (readsN_load (i := a + 1) (by simp) h1 ?_)
  rw [if_neg (by omega), show (docs : Int) + 1 - 1 = (docs : Int) by omega]
  exact reads_termL_none hr hv hk key hp 257 0 ks.length (Nat.le_refl _)
theorem reads_docs {cs : List Int} {a docs : Nat} (h0 : cs[a]? = some ((docs : Int) + 1)) : (docsT a).Reads cs fun v => v = docs := by
  unfold docsT
  exact reads_load (i := a) rfl h0 (reads_ret (by omega))
/-- a record that lies there is read -/
theorem reads_rec {cs : List Int} {a : Nat} {t : ByteArray} (ht : t.size ≤ 17) (h1 : cs[a + 1]? = some (t.size : Int)) (h2 : ∀ j c, (packC (bsL t))[j]? = some c → cs[a + 2 + j]? = some c) : (readD a).Reads cs fun x => x = t := by
  unfold readD
  refine reads_load (i := a + 1) (by simp) h1 (reads_off ?_)
  rw [if_neg (by rintro (h | h); cases h; omega), Int.toNat_natCast]
  have hl : (packC (bsL t)).length = (t.size + 3) / 4 := by rw [packC_len, bsL_len]
  have := loadsD_ideal (cs := cs) (a := a) (packC (bsL t)) 0 (fun j c hj => h2 j c hj)
  rw [hl] at this
  refine reads_bind ⟨_, _, this, reads_ret ?_⟩
  apply bsL_inj
  rw [bsL_unpack]
  have := unpack_pack (bsL t) (bsL_range t)
  rw [bsL_len] at this
  exact this
theorem reads_recN {cs : List Int} {a : Nat} {t : ByteArray} (ht : t.size ≤ 17) (h1 : cs[a + 1]? = some (t.size : Int)) (h2 : ∀ j c, (packC (bsL t))[j]? = some c → cs[a + 2 + j]? = some c) : (readD a).ReadsN cs 6 fun x => x = t :=
  readsN_of (reads_rec ht h1 h2) (cost_read _ 0)
end Go.Proofs.Ytbmgmjfpoepgpaa
