/- Plain: two ways to look whether an order respects a history. -/
import Derived.Test.YtbmgmjfpoepgpaaOrdA
namespace Go.Proofs.Ytbmgmjfpoepgpaa

def respOf (l : List DoneM) (i : Nat) : Int := match l[i]? with | some d => d.resp | none => 0
def invOf (l : List DoneM) (i : Nat) : Int := match l[i]? with | some d => d.inv | none => 0
/-- the place k is a number of the history, and a new one -/
def InOk (n : Nat) (ord : List Int) (k : Nat) : Prop := ∃ i : Nat, ord[k]? = some (i : Int) ∧ i < n ∧ (i : Int) ∉ ord.take k
/-- .. and none ahead was begun behind its end -/
def Fine (l : List DoneM) (ord : List Int) (k : Nat) : Prop := ∀ u i j : Nat, u < k → ord[k]? = some (i : Int) → ord[u]? = some (j : Int) → ¬ (respOf l i ≤ invOf l j)
def Aud (l : List DoneM) (ord : List Int) : Prop := ord.length = l.length ∧ ∀ k, k < ord.length → InOk l.length ord k ∧ Fine l ord k
/-- where a number stands, from 1 on; 0: nowhere -/
def atOf (ord : List Int) (i : Nat) : Nat := match ord.findIdx? (fun x => decide (x = (i : Int))) with | some p => p + 1 | none => 0
def Ref (l : List DoneM) (ord : List Int) : Prop := ord.length = l.length ∧ (∀ k, k < ord.length → InOk l.length ord k) ∧ ∀ i j, i < l.length → j < l.length → ¬ (respOf l i ≤ invOf l j ∧ atOf ord j < atOf ord i)

theorem atOf_snoc {ord : List Int} {k x : Nat} (hk : ord[k]? = some (x : Int)) (hn : (x : Int) ∉ ord.take k) (i : Nat) : atOf (ord.take (k + 1)) i = if i = x then k + 1 else atOf (ord.take k) i := by
  obtain ⟨hl, e⟩ := List.getElem?_eq_some_iff.1 hk
  rw [List.take_succ_eq_append_getElem hl, e]
  unfold atOf
  rw [List.findIdx?_append]
  have hlen : (ord.take k).length = k := by rw [List.length_take]; omega
  by_cases hix : i = x
  · subst hix
    have h0 : (ord.take k).findIdx? (fun y => decide (y = (i : Int))) = none := by
      rw [List.findIdx?_eq_none_iff]
      intro y hy
      simp only [decide_eq_false_iff_not]
      intro h; exact hn (h ▸ hy)
    rw [h0, if_pos rfl]
    simp [hlen]
  · rw [if_neg hix]
    have h1 : [(x : Int)].findIdx? (fun y => decide (y = (i : Int))) = none := by
      rw [List.findIdx?_eq_none_iff]
      intro y hy
      simp at hy
      subst hy
      simp only [decide_eq_false_iff_not]; omega
    rw [h1]
    cases (ord.take k).findIdx? (fun y => decide (y = (i : Int))) <;> rfl
theorem atOf_nil (i : Nat) : atOf [] i = 0 := rfl
theorem atOf_zero {ord : List Int} {i : Nat} : atOf ord i = 0 ↔ (i : Int) ∉ ord := by
  unfold atOf
  cases h : ord.findIdx? (fun x => decide (x = (i : Int))) with
  | none =>
    rw [List.findIdx?_eq_none_iff] at h
    simp only [true_iff]
    intro hm; have := h _ hm; simp at this
  | some p =>
    obtain ⟨hp, h1, _⟩ := List.findIdx?_eq_some_iff_getElem.1 h
    simp only [decide_eq_true_eq] at h1
    constructor
    · intro h; simp at h
    · intro hn; exact absurd (h1 ▸ List.getElem_mem hp) hn
/-- a number stands where it was read -/
theorem atOf_at {n : Nat} {ord : List Int} (hall : ∀ k, k < ord.length → InOk n ord k) {k i : Nat} (hk : ord[k]? = some (i : Int)) : atOf ord i = k + 1 := by
  unfold atOf
  have hl := (List.getElem?_eq_some_iff.1 hk)
  cases h : ord.findIdx? (fun x => decide (x = (i : Int))) with
  | none =>
    rw [List.findIdx?_eq_none_iff] at h
    have := h _ (List.mem_of_getElem? hk)
    simp at this
  | some p =>
    obtain ⟨hp, h1, h2⟩ := List.findIdx?_eq_some_iff_getElem.1 h
    simp only [decide_eq_true_eq] at h1
    have hpk : p = k := by
      rcases Nat.lt_trichotomy p k with h3 | h3 | h3
      · obtain ⟨i', hi', _, hn⟩ := hall k hl.1
        rw [hk] at hi'; injection hi' with hi'
        rw [← hi', ← h1] at hn
        exact absurd (List.mem_take_iff_getElem.2 ⟨p, by omega, rfl⟩) hn
      · exact h3
      · have := h2 k h3
        rw [hl.2] at this; simp at this
    rw [hpk]

theorem pigeon : ∀ (n : Nat) (xs : List Nat), xs.Nodup → (∀ x ∈ xs, x < n) → xs.length ≤ n
  | 0, [], _, _ => Nat.le_refl _
  | 0, x :: xs, _, h => absurd (h x (List.mem_cons_self ..)) (by omega)
  | n + 1, xs, hd, h => by
    have h1 := pigeon n (xs.erase n) (hd.erase n) (fun x hx => by
      have h2 := (hd.mem_erase_iff.1 hx)
      have := h x h2.2
      have := h2.1
      omega)
    rw [List.length_erase] at h1
    split at h1 <;> omega
/-- all numbers stand somewhere -/
theorem all_there {n : Nat} {ord : List Int} (hn : ord.length = n) (hall : ∀ k, k < ord.length → InOk n ord k) {j : Nat} (hj : j < n) : ∃ k : Nat, ord[k]? = some (j : Int) := by
  apply Classical.byContradiction
  intro hno
  have hnat : ∀ k (h : k < ord.length), ∃ i : Nat, ord[k] = (i : Int) := fun k h => by
    obtain ⟨i, hi, _⟩ := hall k h
    rw [List.getElem?_eq_getElem h] at hi; injection hi with hi
    exact ⟨i, hi⟩
  have hp : (ord.map Int.toNat).Pairwise (· ≠ ·) := by
    rw [List.pairwise_iff_getElem]
    intro a b ha hb hab
    rw [List.length_map] at ha hb
    rw [List.getElem_map, List.getElem_map]
    intro e
    obtain ⟨ia, hia⟩ := hnat a ha
    obtain ⟨ib, hib⟩ := hnat b hb
    rw [hia, hib] at e
    obtain ⟨i', hi', _, hm⟩ := hall b hb
    rw [List.getElem?_eq_getElem hb, hib] at hi'; injection hi' with hi'
    refine hm (List.mem_take_iff_getElem.2 ⟨a, by omega, ?_⟩)
    rw [hia]; simp at e; omega
  have hj2 : j ∉ ord.map Int.toNat := by
    intro hm
    obtain ⟨x, hx, e⟩ := List.mem_map.1 hm
    obtain ⟨k, hk, rfl⟩ := List.getElem_of_mem hx
    obtain ⟨i, hi⟩ := hnat k hk
    refine hno ⟨k, ?_⟩
    rw [List.getElem?_eq_getElem hk, hi]
    rw [hi] at e; simp at e; rw [e]
  have h1 := pigeon n (j :: ord.map Int.toNat) (List.nodup_cons.2 ⟨hj2, hp⟩) (fun x hx => by
    rcases List.mem_cons.1 hx with e | e
    · omega
    · obtain ⟨y, hy, rfl⟩ := List.mem_map.1 e
      obtain ⟨k, hk, rfl⟩ := List.getElem_of_mem hy
      obtain ⟨i, hi, hin, _⟩ := hall k hk
      rw [List.getElem?_eq_getElem hk] at hi; injection hi with hi
      rw [hi]; simpa using hin)
  rw [List.length_cons, List.length_map] at h1
  omega

theorem aud_ref (l : List DoneM) (ord : List Int) : Aud l ord ↔ Ref l ord := by
  constructor
  · rintro ⟨hlen, h⟩
    refine ⟨hlen, fun k hk => (h k hk).1, fun i j hi hj hc => ?_⟩
    have hall := fun k hk => (h k hk).1
    obtain ⟨k, hk⟩ := all_there hlen hall hi
    obtain ⟨u, hu⟩ := all_there hlen hall hj
    rw [atOf_at hall hk, atOf_at hall hu] at hc
    exact (h k (List.getElem?_eq_some_iff.1 hk).1).2 u i j (by omega) hk hu hc.1
  · rintro ⟨hlen, hall, h⟩
    refine ⟨hlen, fun k hk => ⟨hall k hk, fun u i j huk hi hj hc => ?_⟩⟩
    have key : ∀ k i : Nat, ord[k]? = some (i : Int) → i < l.length := fun k i hi => by
      obtain ⟨i', hi', hn, _⟩ := hall k (List.getElem?_eq_some_iff.1 hi).1
      rw [hi] at hi'; injection hi' with hi'; omega
    refine h i j (key k i hi) (key u j hj) ⟨hc, ?_⟩
    rw [atOf_at hall hi, atOf_at hall hj]; omega
end Go.Proofs.Ytbmgmjfpoepgpaa
