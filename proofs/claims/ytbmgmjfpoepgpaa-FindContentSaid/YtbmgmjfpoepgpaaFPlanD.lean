/- Plain: what lies where in cells with records and an image. -/
import Derived.Test.YtbmgmjfpoepgpaaFGreat
namespace Go.Proofs.Ytbmgmjfpoepgpaa
open Go.RowKit

theorem get_app {α : Type} {a b c : List α} {n j : Nat} (hn : a.length = n) : (a ++ (b ++ c))[n + j]? = (b ++ c)[j]? := by rw [List.getElem?_append_right (by omega), hn, Nat.add_sub_cancel_left]
theorem get_app1 {α : Type} {a b : List α} {n j : Nat} (hn : a.length = n) : (a ++ b)[n + j]? = b[j]? := by rw [List.getElem?_append_right (by omega), hn, Nat.add_sub_cancel_left]
theorem get_left {α : Type} {a b : List α} {j : Nat} {x : α} (h : a[j]? = some x) : (a ++ b)[j]? = some x := by rw [List.getElem?_append_left (List.getElem?_eq_some_iff.1 h).1]; exact h
theorem split_at {α : Type} {l : List α} {i : Nat} {x : α} (h : l[i]? = some x) : l = l.take i ++ x :: l.drop (i + 1) := by
  obtain ⟨hi, rfl⟩ := List.getElem?_eq_some_iff.1 h
  rw [← List.drop_eq_getElem_cons hi, List.take_append_drop]
theorem cellsR_split {ls : List LstM} {i : Nat} {l : LstM} (h : ls[i]? = some l) : ∃ rest, cellsR ls = cellsR (ls.take i) ++ (recC l.key ++ rest) := by
  refine ⟨(ls.drop (i + 1)).flatMap fun l => recC l.key, ?_⟩
  conv => lhs; rw [split_at h]
  unfold cellsR
  simp
theorem tabL_get {base : Nat} {ls : List LstM} {i : Nat} {l : LstM} (h : ls[i]? = some l) : ∀ n, i < n → n ≤ ls.length → (tabL base ls n)[2 * i]? = some l.rcd ∧ (tabL base ls n)[2 * i + 1]? = some ((base + (bodyL (ls.take i)).length : Nat) : Int)
  | 0, hi, _ => by omega
  | n + 1, hi, hn => by
    have hg : ls[n]? = some (ls[n]'hn) := List.getElem?_eq_getElem _
    have hl := tabL_len (base := base) (ls := ls) n (Nat.le_of_succ_le hn)
    rw [tabL_next hg]
    by_cases e : i = n
    · subst e
      rw [h] at hg; injection hg with hg
      rw [← hg, ← hl]
      refine ⟨?_, ?_⟩
      · rw [List.getElem?_append_right (Nat.le_refl _), Nat.sub_self]; rfl
      · rw [List.getElem?_append_right (by omega), Nat.add_sub_cancel_left]; rfl
    · obtain ⟨h1, h2⟩ := tabL_get (base := base) h n (by omega) (Nat.le_of_succ_le hn)
      exact ⟨get_left h1, get_left h2⟩
theorem bodyL_get {ls : List LstM} {i j : Nat} {l : LstM} {x : Int} (h : ls[i]? = some l) (hx : (encL l.ents)[j]? = some x) : (bodyL ls)[(bodyL (ls.take i)).length + j]? = some x := by
  have e : bodyL ls = bodyL (ls.take i) ++ (encL l.ents ++ bodyL (ls.drop (i + 1))) := by
    conv => lhs; rw [split_at h]
    unfold bodyL
    simp
  rw [e, get_app rfl]
  exact get_left hx

theorem outP_get {ls : List LstM} {i : Nat} {l : LstM} (h : ls[i]? = some l) : ∀ n, i < n → n ≤ ls.length → (outP ls n)[i]? = some ⟨l.key, ((cellsR (ls.take i)).length : Int), l.ents⟩
  | 0, hi, _ => by omega
  | n + 1, hi, hn => by
    have hg : ls[n]? = some (ls[n]'hn) := List.getElem?_eq_getElem _
    have hl := outP_len (ls := ls) n (Nat.le_of_succ_le hn)
    rw [outP_next hg]
    by_cases e : i = n
    · subst e
      rw [h] at hg; injection hg with hg
      rw [← hg, List.getElem?_append_right (by omega), hl, Nat.sub_self]; rfl
    · exact get_left (outP_get h n (by omega) (Nat.le_of_succ_le hn))

/-- everything that was laid -/
def allC (rn : Nat) (rc : List Int) (ls : List LstM) : List Int := cellsR ls ++ makeL (cellsR ls).length rn rc (outP ls ls.length)
def addrL (rn : Nat) (ls : List LstM) (i : Nat) : Nat := baseL (cellsR ls).length rn (outP ls ls.length) + (bodyL ((outP ls ls.length).take i)).length
section
variable {rn : Nat} {rc : List Int} {ls : List LstM}
theorem all_mk (k : Nat) : (allC rn rc ls)[(cellsR ls).length + k]? = (makeL (cellsR ls).length rn rc (outP ls ls.length))[k]? := get_app1 rfl
theorem all_docs : (allC rn rc ls)[(cellsR ls).length]? = some ((rn : Int) + 1) := all_mk 0
theorem all_terms : (allC rn rc ls)[(cellsR ls).length + 1]? = some (ls.length : Int) := by
  rw [all_mk 1]
  show some ((outP ls ls.length).length : Int) = _
  rw [outP_len _ (Nat.le_refl _)]
theorem mk_tail {at' : Nat} (hrc : rc.length = 4 * rn) {out : List LstM} (k : Nat) : (makeL at' rn rc out)[2 + 4 * rn + k]? = (tabL (baseL at' rn out) out out.length ++ bodyL out)[k]? := by
  unfold makeL
  rw [show 2 + 4 * rn + k = (4 * rn + k) + 1 + 1 by omega, List.getElem?_cons_succ, List.getElem?_cons_succ, get_app hrc]
theorem all_tab (hrc : rc.length = 4 * rn) {i : Nat} {l : LstM} (h : ls[i]? = some l) : (allC rn rc ls)[(cellsR ls).length + 2 + 4 * rn + 2 * i]? = some ((cellsR (ls.take i)).length : Int) ∧ (allC rn rc ls)[(cellsR ls).length + 2 + 4 * rn + 2 * i + 1]? = some (addrL rn ls i : Int) := by
  have hi := (List.getElem?_eq_some_iff.1 h).1
  have ho := outP_get h ls.length hi (Nat.le_refl _)
  have hl := outP_len (ls := ls) ls.length (Nat.le_refl _)
  obtain ⟨h1, h2⟩ := tabL_get (base := baseL (cellsR ls).length rn (outP ls ls.length)) ho (outP ls ls.length).length (by omega) (Nat.le_refl _)
  refine ⟨?_, ?_⟩
  · rw [show (cellsR ls).length + 2 + 4 * rn + 2 * i = (cellsR ls).length + (2 + 4 * rn + 2 * i) by omega, all_mk, mk_tail hrc]
    exact get_left h1
  · rw [show (cellsR ls).length + 2 + 4 * rn + 2 * i + 1 = (cellsR ls).length + (2 + 4 * rn + (2 * i + 1)) by omega, all_mk, mk_tail hrc]
    exact get_left h2
theorem all_list (hrc : rc.length = 4 * rn) {i : Nat} {l : LstM} (h : ls[i]? = some l) (j : Nat) (x : Int) (hx : (encL l.ents)[j]? = some x) : (allC rn rc ls)[addrL rn ls i + j]? = some x := by
  have hi := (List.getElem?_eq_some_iff.1 h).1
  have ho := outP_get h ls.length hi (Nat.le_refl _)
  have hl := outP_len (ls := ls) ls.length (Nat.le_refl _)
  have ht := tabL_len (base := baseL (cellsR ls).length rn (outP ls ls.length)) (ls := outP ls ls.length) (outP ls ls.length).length (Nat.le_refl _)
  have hb := bodyL_get (ls := outP ls ls.length) (l := ⟨l.key, ((cellsR (ls.take i)).length : Int), l.ents⟩) ho hx
  unfold addrL baseL
  rw [show (cellsR ls).length + 2 + 4 * rn + 2 * (outP ls ls.length).length + (bodyL ((outP ls ls.length).take i)).length + j = (cellsR ls).length + (2 + 4 * rn + (2 * (outP ls ls.length).length + ((bodyL ((outP ls ls.length).take i)).length + j))) by omega, all_mk, mk_tail hrc, get_app1 ht]
  exact hb
theorem all_rec {i : Nat} {l : LstM} (h : ls[i]? = some l) (j : Nat) (x : Int) (hx : (recC l.key)[j]? = some x) : (allC rn rc ls)[(cellsR (ls.take i)).length + j]? = some x := by
  obtain ⟨rest, e⟩ := cellsR_split h
  unfold allC
  refine get_left ?_
  conv => lhs; rw [e]
  rw [get_app rfl]
  exact get_left hx
theorem all_key (hk : ∀ l ∈ ls, l.key.size ≤ 17) {i : Nat} {l : LstM} (h : ls[i]? = some l) : (readD ((cellsR (ls.take i)).length : Int)).ReadsN (allC rn rc ls) 6 fun x => x = l.key :=
  reads_recN (hk l (List.mem_of_getElem? h)) (all_rec h 1 _ rfl) (fun j c hj => by rw [Nat.add_assoc]; exact all_rec h (2 + j) c (by rw [Nat.add_comm]; exact hj))
theorem out_may {i : Nat} {l : LstM} (hM : MayL rn (outP ls ls.length)) (h : ls[i]? = some l) : 0 < l.ents.length ∧ MayE l.ents ∧ (∀ (k : Nat) (e : EntM), l.ents[k]? = some e → e.doc < rn) := by
  have hi := (List.getElem?_eq_some_iff.1 h).1
  have ho := outP_get h ls.length hi (Nat.le_refl _)
  obtain ⟨_, _, _, h4, h5, h6⟩ := hM.2.2 i _ ho
  exact ⟨h4, h5, h6⟩
theorem keys_up (hM : MayL rn (outP ls ls.length)) : UpK (ls.map LstM.key) := by
  intro i a b ha hb
  rw [List.getElem?_map] at ha hb
  obtain ⟨l, hl, rfl⟩ := Option.map_eq_some_iff.1 ha
  obtain ⟨l', hl', rfl⟩ := Option.map_eq_some_iff.1 hb
  have hi := (List.getElem?_eq_some_iff.1 hl).1
  have hi' := (List.getElem?_eq_some_iff.1 hl').1
  have ho := outP_get hl ls.length hi (Nat.le_refl _)
  have ho' := outP_get hl' ls.length hi' (Nat.le_refl _)
  exact (hM.2.2 (i + 1) _ ho').1 ⟨l.key, ((cellsR (ls.take i)).length : Int), l.ents⟩ (by omega) (by rw [Nat.add_sub_cancel]; exact ho)
/-- a key's list is found -/
theorem all_term (hrc : rc.length = 4 * rn) (hM : MayL rn (outP ls ls.length)) (hk : ∀ l ∈ ls, l.key.size ≤ 17) {i : Nat} {l : LstM} (h : ls[i]? = some l) : (termT ((cellsR ls).length : Int) l.key).ReadsN (allC rn rc ls) 2050 fun v => v = (addrL rn ls i : Int) := by
  have hl := outP_len (ls := ls) ls.length (Nat.le_refl _)
  have h256 := hM.2.1
  refine readsN_mono (reads_term (cs := allC rn rc ls) (a := (cellsR ls).length) (docs := rn) (ks := ls.map LstM.key) (recs := fun i => ((cellsR (ls.take i)).length : Int)) (vals := fun i => (addrL rn ls i : Int)) all_docs (by rw [all_terms]; simp) hM.1 (by simp; omega) (keys_up hM) (fun i hi => ?_) (fun i hi => ?_) (fun i k hik => ?_) i l.key (by rw [List.getElem?_map, h]; rfl)) (by simp; omega) (fun _ h => h)
  · exact (all_tab hrc (List.getElem?_eq_getElem (by simpa using hi))).1
  · exact (all_tab hrc (List.getElem?_eq_getElem (by simpa using hi))).2
  · rw [List.getElem?_map] at hik
    obtain ⟨l', hl', rfl⟩ := Option.map_eq_some_iff.1 hik
    exact all_key hk hl'
theorem all_reads (hrc : rc.length = 4 * rn) (hM : MayL rn (outP ls ls.length)) {i : Nat} {l : LstM} (h : ls[i]? = some l) (most : Int) (hmost : -9223372036854775808 ≤ most ∧ most ≤ 9223372036854775807) : (listT (addrL rn ls i : Int) most).ReadsN (allC rn rc ls) 20660 fun y => y = belowL l.ents most :=
  readsN_of (reads_list (out_may hM h).2.1 most hmost (all_list hrc h)) (cost_list _ _ 0)

/-! ### how many cells, and that they are cells -/
theorem entry_len2 {es : List EntM} (hM : MayE es) {i : Nat} {e : EntM} (h : es[i]? = some e) : (entryB es i e).length ≤ 6 * (1 + e.pos.length) := by
  obtain ⟨o1, o2, o3, o4, o5, o6⟩ := hM.2 i e h
  have hg : (gapB es i e).toNat ≤ 65535 := by
    unfold gapB
    split
    · omega
    · cases hp : es[i - 1]? with
      | none => simp; omega
      | some d => have := (hM.2 _ _ hp).1; simp; omega
  have h1 := vlq_len3 hg
  have h2 := vlq_len3 (n := e.pos.length) (by omega)
  have hch : PosCh 0 e.pos := by
    have := posCh_of o6 0 0 (fun x hx => (o6 0 x hx).1)
    simpa using this
  have h3 := posB_len (Int.le_refl 0) hch
  unfold entryB
  simp; omega
theorem totE_cons (e : EntM) (es : List EntM) : totE (e :: es) = (1 + e.pos.length) + totE es := by simp [totE]
theorem encB_len2 {es : List EntM} (hM : MayE es) : ∀ (f i : Nat), (encB es f i).length ≤ 6 * totE (es.drop i)
  | 0, _ => Nat.zero_le _
  | f + 1, i => by
    unfold encB
    have h := encB_len2 hM f (i + 1)
    by_cases hi : i < es.length
    · have hg : es[i]? = some es[i] := List.getElem?_eq_getElem hi
      have h2 := entry_len2 hM hg
      rw [hg, List.drop_eq_getElem_cons hi, totE_cons]
      dsimp only
      rw [List.length_append]
      omega
    · rw [List.getElem?_eq_none (by omega)]
      rw [List.drop_of_length_le (show es.length ≤ i + 1 by omega)] at h
      rw [List.drop_of_length_le (show es.length ≤ i by omega)]
      simpa using h
theorem totE_ge (es : List EntM) : es.length ≤ totE es := by
  unfold totE
  induction es with
  | nil => exact Nat.le_refl _
  | cons e es ih => simp; omega
theorem encL_len2 {es : List EntM} (hM : MayE es) : (encL es).length ≤ 3 + 3 * totE es := by
  have h1 := encB_len2 hM es.length 0
  have h2 := totE_ge es
  rw [List.drop_zero] at h1
  unfold encL skips
  simp [packC_len]
  omega
theorem body_len2 : ∀ (ls : List LstM), (∀ l ∈ ls, MayE l.ents) → (bodyL ls).length ≤ 3 * totL ls
  | [], _ => Nat.le_refl _
  | l :: ls, h => by
    have h1 := encL_len2 (h l (by simp))
    have h2 := body_len2 ls (fun x hx => h x (by simp [hx]))
    have e : bodyL (l :: ls) = encL l.ents ++ bodyL ls := rfl
    rw [e, List.length_append]
    unfold totL at h2 ⊢
    simp at h2 ⊢
    omega
theorem cellsR_len2 : ∀ (ls : List LstM), (∀ l ∈ ls, l.key.size ≤ 17) → (ls.flatMap fun l => recC l.key).length ≤ 7 * ls.length
  | [], _ => Nat.le_refl _
  | l :: ls, h => by
    have h1 := h l (by simp)
    have h2 := cellsR_len2 ls (fun x hx => h x (by simp [hx]))
    have e : ((l :: ls).flatMap fun l => recC l.key) = recC l.key ++ (ls.flatMap fun l => recC l.key) := rfl
    have e2 : (recC l.key).length = 2 + (l.key.size + 3) / 4 := by simp [recC, packC_len, bsL_len]; omega
    rw [e, List.length_append, e2, List.length_cons]
    omega
theorem outP_mem : ∀ n, n ≤ ls.length → ∀ x ∈ outP ls n, ∃ l ∈ ls, x.key = l.key ∧ x.ents = l.ents
  | 0, _, x, hx => by cases hx
  | i + 1, h, x, hx => by
    have hg : ls[i]? = some (ls[i]'h) := List.getElem?_eq_getElem _
    rw [outP_next hg] at hx
    rcases List.mem_append.1 hx with hx | hx
    · exact outP_mem i (Nat.le_of_succ_le h) x hx
    · rcases List.mem_singleton.1 hx with rfl
      exact ⟨ls[i], List.getElem_mem _, rfl, rfl⟩
theorem totL_out : ∀ n, n ≤ ls.length → totL (outP ls n) = totL (ls.take n)
  | 0, _ => rfl
  | i + 1, h => by
    have hg : ls[i]? = some (ls[i]'h) := List.getElem?_eq_getElem _
    rw [outP_next hg, totL_next hg, ← totL_out i (Nat.le_of_succ_le h)]
    unfold totL
    simp
theorem may_small (hM : MayL rn (outP ls ls.length)) : smallL ls := by
  intro l hl e he
  obtain ⟨i, hi, rfl⟩ := List.getElem_of_mem hl
  obtain ⟨k, hk, rfl⟩ := List.getElem_of_mem he
  have := (out_may hM (List.getElem?_eq_getElem hi)).2.1.2 k _ (List.getElem?_eq_getElem hk)
  exact this.2.2.2.2.1
theorem all_len (hrc : rc.length = 4 * rn) (hM : MayL rn (outP ls ls.length)) (hk : ∀ l ∈ ls, l.key.size ≤ 17) (h3 : ls.length ≤ 300) (ht : totL ls ≤ 4096) : (allC rn rc ls).length ≤ 20000 ∧ (cellsR ls).length ≤ 2101 ∧ ∀ i, addrL rn ls i ≤ 40000 := by
  have h1 := cellsR_len2 ls hk
  have hol := outP_len (ls := ls) ls.length (Nat.le_refl _)
  have hmE : ∀ l ∈ outP ls ls.length, MayE l.ents := by
    intro l hl
    obtain ⟨i, hi, rfl⟩ := List.getElem_of_mem hl
    exact (hM.2.2 i _ (List.getElem?_eq_getElem hi)).2.2.2.2.1
  have h2 := body_len2 (outP ls ls.length) hmE
  have h5 := tabL_len (base := baseL (cellsR ls).length rn (outP ls ls.length)) (ls := outP ls ls.length) (outP ls ls.length).length (Nat.le_refl _)
  have h6 := hM.1
  have h7 := totL_out (ls := ls) ls.length (Nat.le_refl _)
  rw [List.take_length] at h7
  have hc : (cellsR ls).length ≤ 2101 := by show (0 :: ls.flatMap fun l => recC l.key).length ≤ 2101; rw [List.length_cons]; omega
  refine ⟨?_, hc, fun i => ?_⟩
  · unfold allC makeL
    simp
    omega
  · have h8 : (bodyL ((outP ls ls.length).take i)).length ≤ (bodyL (outP ls ls.length)).length := by
      have e : bodyL (outP ls ls.length) = bodyL ((outP ls ls.length).take i) ++ bodyL ((outP ls ls.length).drop i) := by
        unfold bodyL
        rw [← List.flatMap_append, List.take_append_drop]
      rw [e]; simp
    unfold addrL baseL
    omega
theorem u32_of {x : Int} (h : 0 ≤ x ∧ x ≤ 4294967295) : U32 x := h
theorem encL_u32 {es : List EntM} (hM : MayE es) : ∀ x ∈ encL es, U32 x := by
  intro x hx
  have h64 := hM.1
  unfold encL at hx
  rcases List.mem_cons.1 hx with rfl | hx
  · exact u32_of (by omega)
  · rcases List.mem_append.1 hx with hx | hx
    · unfold skips at hx
      obtain ⟨b, hb, rfl⟩ := List.mem_map.1 hx
      have hb := List.mem_range.1 hb
      have hl := encB_len hM (4 * b) 0
      have hls : min (4 * b + 3) (es.length - 1) < es.length := by omega
      have hg : es[min (4 * b + 3) (es.length - 1)]? = some (es[min (4 * b + 3) (es.length - 1)]'hls) := List.getElem?_eq_getElem _
      have hd := (hM.2 _ _ hg).1
      have hd2 := (hM.2 _ _ hg).2.1
      unfold skipV
      rw [docAt_of hg]
      exact u32_of (by omega)
    · exact packC_range (encB_byte es _ _) x hx
theorem all_u32 (hrc : rc.length = 4 * rn) (hu : ∀ x ∈ rc, U32 x) (hM : MayL rn (outP ls ls.length)) (hk : ∀ l ∈ ls, l.key.size ≤ 17) (h3 : ls.length ≤ 300) (ht : totL ls ≤ 4096) : ∀ x ∈ allC rn rc ls, U32 x := by
  have hlen := all_len hrc hM hk h3 ht
  have hol := outP_len (ls := ls) ls.length (Nat.le_refl _)
  have h6 := hM.1
  intro x hx
  unfold allC at hx
  rcases List.mem_append.1 hx with hx | hx
  · unfold cellsR at hx
    rcases List.mem_cons.1 hx with rfl | hx
    · exact u32_of (by decide)
    · obtain ⟨l, hl, hx⟩ := List.mem_flatMap.1 hx
      have := hk l hl
      unfold recC at hx
      rcases List.mem_cons.1 hx with rfl | hx
      · exact u32_of (by decide)
      · rcases List.mem_cons.1 hx with rfl | hx
        · exact u32_of (by omega)
        · exact packC_range (fun y hy => bsL_range l.key y hy) x hx
  · unfold makeL at hx
    rcases List.mem_cons.1 hx with rfl | hx
    · exact u32_of (by omega)
    rcases List.mem_cons.1 hx with rfl | hx
    · exact u32_of (by omega)
    rcases List.mem_append.1 hx with hx | hx
    · exact hu x hx
    rcases List.mem_append.1 hx with hx | hx
    · unfold tabL at hx
      obtain ⟨k, hk2, hx⟩ := List.mem_flatMap.1 hx
      have hk2 := List.mem_range.1 hk2
      have hg : (outP ls ls.length)[k]? = some ((outP ls ls.length)[k]'hk2) := List.getElem?_eq_getElem _
      have ho := (hM.2.2 k _ hg)
      unfold tabE at hx
      rw [hg] at hx
      simp only [List.mem_cons, List.not_mem_nil, or_false] at hx
      rcases hx with rfl | rfl
      · exact u32_of (by have := ho.2.1; have := ho.2.2.1; omega)
      · have := hlen.2.2 k
        unfold addrL at this
        exact u32_of (by omega)
    · unfold bodyL at hx
      obtain ⟨l, hl, hx⟩ := List.mem_flatMap.1 hx
      obtain ⟨i, hi, rfl⟩ := List.getElem_of_mem hl
      exact encL_u32 (hM.2.2 i _ (List.getElem?_eq_getElem hi)).2.2.2.2.1 x hx
end
end Go.Proofs.Ytbmgmjfpoepgpaa
