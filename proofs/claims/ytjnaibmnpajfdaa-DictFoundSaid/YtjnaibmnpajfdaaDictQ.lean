/- Plain laws: a Find of a dictionary, step by step, while the table grows. -/
import Derived.Test.YtjnaibmnpajfdaaDictP
namespace Go.Proofs.Ytjnaibmnpajfdaa
open Go.RowKit

theorem Tab.le_refl (t : Tab) : t.le t := fun _ _ h => h
theorem Tab.le_trans {a b c : Tab} (h : a.le b) (k : b.le c) : a.le c := fun i e x => k i e (h i e x)

section
variable (s : Int) (n h : Nat) (key : List Int)
def hitD (f i a : Nat) (ok : Bool) : Tree (Int × Int) := if ok = true then .ret ((a : Int), (((h + i) % n : Nat) : Int)) else findD s n h (packC key) key.length f (i + 1)
def lenD (f i a : Nat) : Tree (Int × Int) :=
  .load ((a : Int) + 1) fun ln => if ln ≠ (key.length : Int) then findD s n h (packC key) key.length f (i + 1) else (cmpD a (packC key) 0).bind (hitD s n h key f i a)
def restD (f i a j : Nat) : Tree (Int × Int) := (cmpD a ((packC key).drop j) j).bind (hitD s n h key f i a)

inductive FindAt (t0 t : Tab) : Tree (Int × Int) → Nat → Prop
  | slot (f i : Nat) (hf : i + (f + 1) = n) (hv : ∀ j, j < i → ∀ a, t0 ((h + j) % n) ≠ some (key, a)) : FindAt t0 t (findD s n h (packC key) key.length (f + 1) i) ((f + 1) * 27)
  | len (f i : Nat) (k : List Int) (a : Nat) (hf : i + (f + 1) = n) (hv : ∀ j, j < i → ∀ a, t0 ((h + j) % n) ≠ some (key, a)) (ht : t ((h + i) % n) = some (k, a)) : FindAt t0 t (lenD s n h key f i a) (f * 27 + 26)
  | cmp (f i : Nat) (k : List Int) (a j : Nat) (hf : i + (f + 1) = n) (hv : ∀ j, j < i → ∀ a, t0 ((h + j) % n) ≠ some (key, a)) (ht : t ((h + i) % n) = some (k, a)) (hl : k.length = key.length)
      (hj : j < (packC key).length) (hc : ∀ j', j' < j → (packC k)[j']? = (packC key)[j']?) : FindAt t0 t (restD s n h key f i a j) (f * 27 + 25 - j)
end

theorem FindAt.mono {s : Int} {n h : Nat} {key : List Int} {t0 t t' : Tab} {r : Tree (Int × Int)} {d : Nat} (H : FindAt s n h key t0 t r d) (hle : t.le t') : FindAt s n h key t0 t' r d := by
  cases H with
  | slot f i hf hv => exact .slot f i hf hv
  | len f i k a hf hv ht => exact .len f i k a hf hv (hle _ _ ht)
  | cmp f i k a j hf hv ht hl hj hc => exact .cmp f i k a j hf hv (hle _ _ ht) hl hj hc

/-- what a Find may answer -/
def FinD (n : Nat) (key : List Int) (t0 t : Tab) (x : Int) : Prop := (x = 0 ∧ ∀ i, i < n → ∀ a, t0 i ≠ some (key, a)) ∨ (x ≠ 0 ∧ ∃ i a : Nat, i < n ∧ t i = some (key, a) ∧ x = a)

theorem FindAt.next {s : Int} {n : Nat} {hash : List Int → Nat} {key : List Int} {t0 t : Tab} (hn : n ≤ 16) (W0 : WF t0 n hash) (hle : t0.le t) {f i : Nat} {k : List Int} {a : Nat} (hf : i + (f + 1) = n)
    (hv : ∀ j, j < i → ∀ a, t0 ((hash key + j) % n) ≠ some (key, a)) (ht : t ((hash key + i) % n) = some (k, a)) (hk : k ≠ key) :
    (∃ x y, (findD s n (hash key) (packC key) key.length f (i + 1)).norm = .ret (x, y) ∧ FinD n key t0 t x) ∨
    (∃ d', (findD s n (hash key) (packC key) key.length f (i + 1)).norm.isRet = false ∧ d' ≤ f * 27 ∧ FindAt s n (hash key) key t0 t (findD s n (hash key) (packC key) key.length f (i + 1)).norm d') := by
  have hv' : ∀ j, j < i + 1 → ∀ a, t0 ((hash key + j) % n) ≠ some (key, a) := by
    intro j hj b e
    rcases Nat.lt_or_ge j i with h | h
    · exact hv j h b e
    · have : j = i := by omega
      subst this
      have := hle _ _ e
      rw [ht] at this; injection this with this; injection this with this _
      exact hk this
  cases f with
  | zero =>
    refine Or.inl ⟨0, -1, rfl, Or.inl ⟨rfl, fun i0 hi0 b e => ?_⟩⟩
    obtain ⟨j, hj, hj2, _⟩ := W0.path i0 key b hi0 e
    exact hv' j (by omega) b (by rw [hj2]; exact e)
  | succ f => exact Or.inr ⟨_, rfl, Nat.le_refl _, .slot f (i + 1) (by omega) hv'⟩

theorem FindAt.step {cs : List Int} {s n lo hi : Nat} {hash : List Int → Nat} {key : List Int} {t0 t : Tab} {r : Tree (Int × Int)} {d : Nat} (H : FindAt s n (hash key) key t0 t r d) (R : Rep cs s n t lo hi)
    (hn0 : 0 < n) (hn : n ≤ 16) (W0 : WF t0 n hash) (hle : t0.le t) (hb : ∀ x ∈ key, Byte x) (hk100 : key.length ≤ 100) :
    ∃ (a : Nat) (g : Int → Tree (Int × Int)), r = .load a g ∧ a < cs.length ∧
      ((∃ x y, (g (cs.getD a 0)).norm = .ret (x, y) ∧ FinD n key t0 t x) ∨ (∃ d', (g (cs.getD a 0)).norm.isRet = false ∧ d' < d ∧ FindAt s n (hash key) key t0 t (g (cs.getD a 0)).norm d')) := by
  have hL : (packC key).length ≤ 25 := by rw [packC_len]; omega
  cases H with
  | slot f i hf hv =>
    have hlt : (hash key + i) % n < n := Nat.mod_lt _ hn0
    refine ⟨s + (hash key + i) % n, fun a => .off fun o => if o = true then .ret (0, -1) else if a = 0 then .ret (0, (((hash key + i) % n : Nat) : Int)) else
      .load (a + 1) fun ln => if ln ≠ (key.length : Int) then findD s n (hash key) (packC key) key.length f (i + 1) else
        (cmpD a (packC key) 0).bind fun ok => if ok = true then .ret (a, (((hash key + i) % n : Nat) : Int)) else findD s n (hash key) (packC key) key.length f (i + 1), ?_, by have := R.len; omega, ?_⟩
    · conv => lhs; unfold findD
      rw [Int.natCast_add]
    · cases e : t ((hash key + i) % n) with
      | none =>
        have := (getD_of (R.void _ hlt e)).2
        rw [this]
        refine Or.inl ⟨0, (((hash key + i) % n : Nat) : Int), rfl, Or.inl ⟨rfl, fun i0 hi0 b eb => ?_⟩⟩
        obtain ⟨j, hj, hj2, hj3⟩ := W0.path i0 key b hi0 eb
        rcases Nat.lt_trichotomy j i with h | h | h
        · exact hv j h b (by rw [hj2]; exact eb)
        · subst h
          have := hle _ _ (by rw [hj2]; exact eb : t0 ((hash key + j) % n) = some (key, b))
          rw [e] at this; cases this
        · obtain ⟨k', a', p1, _⟩ := hj3 i h
          have := hle _ _ p1
          rw [e] at this; cases this
      | some p =>
        obtain ⟨k, a⟩ := p
        have hv0 := (getD_of (R.slot _ _ _ hlt e)).2
        have hr := R.lies _ _ _ hlt e
        have hpos := R.pos
        rw [hv0]
        have hne : ¬ ((a : Int) = 0) := by omega
        have hg : (Tree.off fun o => if o = true then Tree.ret ((0 : Int), (-1 : Int)) else if (a : Int) = 0 then .ret ((0 : Int), (((hash key + i) % n : Nat) : Int)) else lenD s n (hash key) key f i a).norm = lenD s n (hash key) key f i a := by
          show (if false = true then _ else if (a : Int) = 0 then _ else lenD s n (hash key) key f i a : Tree (Int × Int)).norm = _
          rw [if_neg (by decide), if_neg hne]; rfl
        refine Or.inr ⟨f * 27 + 26, ?_, by omega, ?_⟩
        · show (Tree.off fun o => if o = true then Tree.ret ((0 : Int), (-1 : Int)) else if (a : Int) = 0 then .ret ((0 : Int), (((hash key + i) % n : Nat) : Int)) else lenD s n (hash key) key f i a).norm.isRet = false
          rw [hg]; rfl
        · have := FindAt.len (s := s) (h := hash key) (t := t) f i k a hf hv e
          rw [← hg] at this
          exact this
  | len f i k a hf hv ht =>
    have hlt : (hash key + i) % n < n := Nat.mod_lt _ hn0
    have hs := getD_of (R.size _ _ _ hlt ht)
    have hr := R.lies _ _ _ hlt ht
    refine ⟨a + 1, _, rfl, hs.1, ?_⟩
    rw [hs.2]
    by_cases hl : k.length = key.length
    · rw [if_neg (by simp [hl])]
      cases hC : packC key with
      | nil =>
        have hz : key.length = 0 := by
          have := congrArg List.length hC
          rw [packC_len] at this; simp at this; omega
        have hkk : k = key := by
          have h1 : k = [] := List.length_eq_zero_iff.1 (by omega)
          have h2 : key = [] := List.length_eq_zero_iff.1 hz
          rw [h1, h2]
        refine Or.inl ⟨a, (((hash key + i) % n : Nat) : Int), rfl, Or.inr ⟨by have := R.pos; omega, _, a, hlt, ht.trans (by rw [hkk]), rfl⟩⟩
      | cons c L =>
        refine Or.inr ⟨f * 27 + 25, rfl, by omega, ?_⟩
        have := FindAt.cmp (s := s) (h := hash key) (t := t) f i k a 0 hf hv ht hl (by rw [hC]; simp) (fun j' hj' => by omega)
        unfold restD at this
        rw [List.drop_zero, hC] at this
        exact this
    · rw [if_pos (by omega)]
      rcases FindAt.next (s := s) hn W0 hle hf hv ht (fun e => hl (by rw [e])) with h | ⟨d', h1, h2, h3⟩
      · exact Or.inl h
      · exact Or.inr ⟨d', h1, by omega, h3⟩
  | cmp f i k a j hf hv ht hl hj hc =>
    have hlt : (hash key + i) % n < n := Nat.mod_lt _ hn0
    have hr := R.lies _ _ _ hlt ht
    have hpl : (packC k).length = (packC key).length := by rw [packC_len, packC_len, hl]
    have hd : (packC key).drop j = (packC key)[j] :: (packC key).drop (j + 1) := List.drop_eq_getElem_cons hj
    have hkj : (packC k)[j]? = some ((packC k)[j]'(by omega)) := List.getElem?_eq_getElem (by omega)
    have hs := getD_of (R.key _ _ _ hlt ht j _ hkj)
    refine ⟨a + 2 + j, fun x => (if x ≠ (packC key)[j] then Tree.ret false else .off fun o => if o = true then .ret false else cmpD a ((packC key).drop (j + 1)) (j + 1)).bind (hitD s n (hash key) key f i a), ?_, hs.1, ?_⟩
    · unfold restD; rw [hd]; rfl
    · rw [hs.2]
      dsimp only
      by_cases hx : (packC k)[j]'(by omega) = (packC key)[j]
      · rw [if_neg (by simp [hx])]
        have hnm : ((Tree.off fun o => if o = true then Tree.ret false else cmpD a ((packC key).drop (j + 1)) (j + 1)).bind (hitD s n (hash key) key f i a)).norm = (restD s n (hash key) key f i a (j + 1)).norm := rfl
        have hc' : ∀ j', j' < j + 1 → (packC k)[j']? = (packC key)[j']? := by
          intro j' h'
          rcases Nat.lt_or_ge j' j with h | h
          · exact hc j' h
          · have : j' = j := by omega
            subst this
            rw [hkj, hx, List.getElem?_eq_getElem hj]
        rw [hnm]
        rcases Nat.lt_or_ge (j + 1) (packC key).length with h | h
        · have hd2 : (packC key).drop (j + 1) = (packC key)[j + 1] :: (packC key).drop (j + 1 + 1) := List.drop_eq_getElem_cons h
          have hr2 : (restD s n (hash key) key f i a (j + 1)).norm = restD s n (hash key) key f i a (j + 1) := by unfold restD; rw [hd2]; rfl
          rw [hr2]
          refine Or.inr ⟨f * 27 + 25 - (j + 1), ?_, by omega, .cmp f i k a (j + 1) hf hv ht hl h hc'⟩
          unfold restD; rw [hd2]; rfl
        · have hd2 : (packC key).drop (j + 1) = [] := List.drop_of_length_le h
          have hkk : k = key := packC_inj hr.2.2.2 hb hl (List.ext_getElem? fun m => by
            rcases Nat.lt_or_ge m (j + 1) with h' | h'
            · exact hc' m h'
            · rw [List.getElem?_eq_none (by omega), List.getElem?_eq_none (by omega)])
          refine Or.inl ⟨a, (((hash key + i) % n : Nat) : Int), ?_, Or.inr ⟨by have := R.pos; omega, _, a, hlt, ht.trans (by rw [hkk]), rfl⟩⟩
          unfold restD; rw [hd2]; rfl
      · rw [if_pos hx]
        have hkne : k ≠ key := fun e => hx (by simp [e])
        rcases FindAt.next (s := s) hn W0 hle hf hv ht hkne with h | ⟨d', h1, h2, h3⟩
        · exact Or.inl h
        · exact Or.inr ⟨d', h1, by omega, h3⟩

/-- one Step of a run of Find, on its way -/
theorem find_step {T : Tree (Int × Int)} {S : St} {rest : Tree (Int × Int)} {s n lo hi : Nat} {hash : List Int → Nat} {key : List Int} {t0 t : Tab} {d : Nat} (hw : Way T S rest) (H : FindAt s n (hash key) key t0 t rest d) (R : Rep S.m.cells s n t lo hi)
    (hn0 : 0 < n) (hn : n ≤ 16) (W0 : WF t0 n hash) (hle : t0.le t) (hb : ∀ x ∈ key, Byte x) (hk100 : key.length ≤ 100) :
    (S.step T).2.m.cells = S.m.cells ∧ (S.step T).2.r.log.length = S.r.log.length + 1 ∧
      (((S.step T).2.r.over = true ∧ FinD n key t0 t (S.step T).1.1) ∨ ((S.step T).2.r.over = false ∧ ∃ rest' d', d' < d ∧ Way T (S.step T).2 rest' ∧ FindAt s n (hash key) key t0 t rest' d')) := by
  obtain ⟨a, g, rfl, ha, hg⟩ := H.step R hn0 hn W0 hle hb hk100
  have hin : S.m.inb (a : Int) = true := (inb_iff _ _).2 ⟨by omega, by omega⟩
  have hv : S.m.at (a : Int) = S.m.cells.getD a 0 := by unfold MemS.at; rw [Int.toNat_natCast]
  rw [← hv] at hg
  obtain ⟨w1, w2⟩ := way_load hw hin
  refine ⟨by rw [w1]; simp [MemS.load, hin], by rw [w1]; simp, ?_⟩
  rcases hg with ⟨x, y, h1, h2⟩ | ⟨d', h1, h2, h3⟩
  · refine Or.inl ⟨by rw [w1, h1]; rfl, ?_⟩
    rw [w2 _ h1]; exact h2
  · exact Or.inr ⟨by rw [w1]; exact h1, _, d', h2, way_next_load hw hin h1, h3⟩

/-- its beginning -/
theorem FindAt.start (s : Int) (n : Nat) (h : Nat) (key : List Int) (t : Tab) (hn : 0 < n) : FindAt s n h key t t (findD s n h (packC key) key.length n 0) (n * 27) := by
  obtain ⟨f, rfl⟩ : ∃ f, n = f + 1 := ⟨n - 1, by omega⟩
  exact .slot f 0 (by omega) (fun j hj => by omega)
end Go.Proofs.Ytjnaibmnpajfdaa
