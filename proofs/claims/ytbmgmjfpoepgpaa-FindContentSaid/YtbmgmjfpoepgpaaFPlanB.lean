/- Plain: what is read of a list's cells, a segment's table. -/
import Derived.Test.YtbmgmjfpoepgpaaFPlanA
import Derived.Test.YtbmgmjfpoepgpaaFRefD
namespace Go.Proofs.Ytbmgmjfpoepgpaa
open Go.RowKit

/-- the program reads these cells to the end -/
def Tree.Reads {α : Type} (cs : List Int) (t : Tree α) (Q : α → Prop) : Prop := ∃ x n, t.ideal cs = some (x, cs, n) ∧ Q x
theorem reads_ret {α : Type} {cs : List Int} {Q : α → Prop} {x : α} (h : Q x) : (Tree.ret x).Reads cs Q := ⟨x, 0, rfl, h⟩
theorem reads_bind {α β : Type} {cs : List Int} {Q : β → Prop} {t : Tree α} {f : α → Tree β} (h : t.Reads cs fun x => (f x).Reads cs Q) : (t.bind f).Reads cs Q := by
  obtain ⟨x, n, h1, y, k, h2, h3⟩ := h
  exact ⟨y, k + n, by rw [Tree.ideal_bind, h1]; simp [h2], h3⟩
theorem reads_load {α : Type} {cs : List Int} {Q : α → Prop} {a : Int} {i : Nat} {v : Int} {k : Int → Tree α} (ha : a = (i : Int)) (hv : cs[i]? = some v) (h : (k v).Reads cs Q) : (Tree.load a k).Reads cs Q := by
  obtain ⟨x, n, h1, h2⟩ := h
  have hlt := (List.getElem?_eq_some_iff.1 hv).1
  refine ⟨x, n + 1, ?_, h2⟩
  unfold Tree.ideal
  have e : cs.getD a.toNat 0 = v := by rw [ha, Int.toNat_natCast, List.getD_eq_getElem?_getD, hv]; rfl
  rw [if_pos (by omega), e, h1]; rfl
theorem reads_off {α : Type} {cs : List Int} {Q : α → Prop} {k : Bool → Tree α} (h : (k false).Reads cs Q) : (Tree.off k).Reads cs Q := h
theorem reads_mono {α : Type} {cs : List Int} {Q Q' : α → Prop} {t : Tree α} (h : t.Reads cs Q) (hq : ∀ x, Q x → Q' x) : t.Reads cs Q' := by
  obtain ⟨x, n, h1, h2⟩ := h
  exact ⟨x, n, h1, hq x h2⟩

/-- where a reader of these bytes stands -/
structure RdAt (cs : List Int) (base : Nat) (bs : List Int) (x : RdM) (rest : List Int) : Prop where
  hbase : x.base = (base : Int)
  rest : bs.drop x.at' = rest
  cells : ∀ q, q < (bs.length + 3) / 4 → cs[base + q]? = some (pc bs bs.length q)
  cell : x.cell = -1 ∨ ∃ q : Nat, x.cell = (q : Int) ∧ x.have' = pc bs bs.length q
  byte : ∀ b ∈ bs, Byte b
theorem byteOf_pc {bs : List Int} (h : ∀ b ∈ bs, Byte b) {i : Nat} (hi : i < bs.length) : byteOf (pc bs bs.length (i / 4)) i = bs.getD i 0 := by
  have hu := unpack_pack bs h
  have h1 : (unpackL (packC bs) bs.length).getD i 0 = bs.getD i 0 := by rw [hu]
  have hq : i / 4 < (bs.length + 3) / 4 := by omega
  have hc : (packC bs).getD (i / 4) 0 = pc bs bs.length (i / 4) := by unfold packC; rw [List.getD_eq_getElem?_getD, pcs_get _ _ _ _ hq]; rfl
  rw [← h1, List.getD_eq_getElem?_getD]
  simp only [unpackL, List.getElem?_map, List.getElem?_range hi, Option.map_some, Option.getD_some, hc]
  rfl
theorem reads_next {cs : List Int} {base : Nat} {bs : List Int} {x : RdM} {b : Int} {rest : List Int} (h : RdAt cs base bs x (b :: rest)) : (nextT x).Reads cs fun y => y.1 = b ∧ RdAt cs base bs y.2 rest := by
  have hlt : x.at' < bs.length := by
    have := congrArg List.length h.rest
    simp at this; omega
  have hd := h.rest
  rw [List.drop_eq_getElem_cons hlt] at hd
  injection hd with hb hr
  have hg : bs.getD x.at' 0 = b := by rw [List.getD_eq_getElem?_getD, List.getElem?_eq_getElem hlt]; exact hb
  have hby := byteOf_pc h.byte hlt
  rw [hg] at hby
  have hq : x.at' / 4 < (bs.length + 3) / 4 := by omega
  unfold nextT
  split
  · rename_i e
    rcases h.cell with h1 | ⟨q, h1, h2⟩
    · omega
    · obtain rfl : q = x.at' / 4 := by omega
      exact reads_ret ⟨by rw [h2]; exact hby, ⟨h.hbase, hr, h.cells, Or.inr ⟨_, h1, h2⟩, h.byte⟩⟩
  · refine reads_load (i := base + x.at' / 4) (by rw [h.hbase]; simp) (h.cells _ hq) ?_
    exact reads_ret ⟨hby, ⟨h.hbase, hr, h.cells, Or.inr ⟨_, rfl, rfl⟩, h.byte⟩⟩
theorem reads_num {cs : List Int} {base : Nat} {bs : List Int} {x : RdM} {n : Nat} (hn : n ≤ 65535) {rest : List Int} (h : RdAt cs base bs x (vlq n ++ rest)) : (numT x).Reads cs fun y => y.1 = (n : Int) ∧ RdAt cs base bs y.2 rest := by
  unfold numT
  by_cases h1 : n > 127
  · rw [vlq_big h1] at h
    refine reads_bind (reads_mono (reads_next h) fun y hy => ?_)
    obtain ⟨hy1, hy2⟩ := hy
    rw [if_neg (by rw [hy1]; omega)]
    by_cases h2 : n / 128 > 127
    · rw [vlq_big h2] at hy2
      refine reads_bind (reads_mono (reads_next hy2) fun z hz => ?_)
      obtain ⟨hz1, hz2⟩ := hz
      rw [if_neg (by rw [hz1]; omega)]
      rw [vlq_small (by omega)] at hz2
      refine reads_bind (reads_mono (reads_next hz2) fun u hu => ?_)
      obtain ⟨hu1, hu2⟩ := hu
      rw [if_pos (by rw [hu1]; omega)]
      exact reads_ret ⟨by simp only [numAdd, hy1, hz1, hu1]; omega, hu2⟩
    · rw [vlq_small h2] at hy2
      refine reads_bind (reads_mono (reads_next hy2) fun z hz => ?_)
      obtain ⟨hz1, hz2⟩ := hz
      rw [if_pos (by rw [hz1]; omega)]
      exact reads_ret ⟨by simp only [numAdd, hy1, hz1]; omega, hz2⟩
  · rw [vlq_small h1] at h
    refine reads_bind (reads_mono (reads_next h) fun y hy => ?_)
    obtain ⟨hy1, hy2⟩ := hy
    rw [if_pos (by rw [hy1]; omega)]
    exact reads_ret ⟨by simp only [numAdd, hy1]; omega, hy2⟩

/-- no one less than the one ahead -/
def PosCh : Int → List Int → Prop
  | _, [] => True
  | q, p :: ps => q ≤ p ∧ p ≤ 65535 ∧ PosCh p ps
theorem posCh_of {ps : List Int} (h : posOk ps) : ∀ (k : Nat) (q : Int), (∀ x, ps[k]? = some x → q ≤ x) → PosCh q (ps.drop k) := by
  intro k q hq
  obtain ⟨n, hn⟩ : ∃ n, n = ps.length - k := ⟨_, rfl⟩
  induction n generalizing k q with
  | zero => rw [List.drop_of_length_le (by omega)]; trivial
  | succ n ih =>
    have hk : k < ps.length := by omega
    rw [List.drop_eq_getElem_cons hk]
    have hg : ps[k]? = some ps[k] := List.getElem?_eq_getElem hk
    obtain ⟨h0, h1, _⟩ := h k _ hg
    refine ⟨hq _ hg, h1, ih (k + 1) _ (fun x hx => ?_) (by omega)⟩
    exact Int.le_of_lt ((h (k + 1) x hx).2.2 _ (by omega) hg)
theorem reads_pos {cs : List Int} {base : Nat} {bs : List Int} : ∀ (ps : List Int) (q : Int) (acc : List Int) (x : RdM) (rest : List Int), 0 ≤ q → PosCh q ps → RdAt cs base bs x (posB q ps ++ rest) → (posL ps.length q acc x).Reads cs fun y => y.1 = acc ++ ps ∧ RdAt cs base bs y.2 rest
  | [], q, acc, x, rest, _, _, h => reads_ret ⟨by simp, h⟩
  | p :: ps, q, acc, x, rest, h0, ⟨h1, h2, h3⟩, h => by
    unfold posB at h
    rw [List.append_assoc] at h
    show ((numT x).bind _).Reads cs _
    refine reads_bind (reads_mono (reads_num (by omega) h) fun y hy => ?_)
    obtain ⟨hy1, hy2⟩ := hy
    have e : q + y.1 = p := by rw [hy1]; omega
    simp only [e]
    exact reads_mono (reads_pos ps p _ _ rest (by omega) h3 hy2) fun z hz => ⟨by rw [hz.1]; simp, hz.2⟩

/-- the bytes of the entries from i on -/
def encB (es : List EntM) : Nat → Nat → List Int
  | 0, _ => []
  | f + 1, i => (match es[i]? with | some e => entryB es i e | none => []) ++ encB es f (i + 1)
def docAt (es : List EntM) (i : Nat) : Int := ((es[i]?).map EntM.doc).getD 0
theorem docAt_of {es : List EntM} {i : Nat} {e : EntM} (h : es[i]? = some e) : docAt es i = e.doc := by simp [docAt, h]
theorem MayE.up {es : List EntM} (h : MayE es) : ∀ (i j : Nat), i < j → j < es.length → docAt es i < docAt es j := by
  intro i j hij hj
  induction j with
  | zero => omega
  | succ j ih =>
    have h1 : es[j + 1]? = some es[j + 1] := List.getElem?_eq_getElem hj
    have h0 : es[j]? = some (es[j]'(by omega)) := List.getElem?_eq_getElem _
    have := (h.2 (j + 1) _ h1).2.2.1 _ (by omega) h0
    rw [docAt_of h1]
    rw [← docAt_of h0] at this
    by_cases e : i = j
    · subst e; exact this
    · exact Int.lt_trans (ih (by omega) (by omega)) this
theorem take_snoc {α : Type} {l : List α} {i : Nat} {e : α} (h : l[i]? = some e) : l.take i ++ [e] = l.take (i + 1) := by
  rw [List.take_add_one, h]; rfl
/-- the entries of a block, from the i-th on -/
theorem reads_ent {cs : List Int} {base : Nat} {bs : List Int} {es : List EntM} (hM : MayE es) (most : Int) : ∀ (f i g : Nat) (x : RdM) (doc : Int), i % 4 + f ≤ 4 → i + f ≤ es.length → f ≤ g → (0 < f → doc = if i % 4 = 0 then 0 else docAt es (i - 1)) → RdAt cs base bs x (encB es g i) →
    (∀ k, k < i → docAt es k < most) →
    (entL most f doc (es.take i) x).Reads cs fun y => (y.2.2 = false ∧ y.1 = es.take (i + f) ∧ (∀ k, k < i + f → docAt es k < most) ∧ RdAt cs base bs y.2.1 (encB es (g - f) (i + f))) ∨
      (y.2.2 = true ∧ ∃ j, j < es.length ∧ y.1 = es.take j ∧ (∀ k, k < j → docAt es k < most) ∧ most ≤ docAt es j)
  | 0, i, g, x, doc, _, _, _, _, h, hb => reads_ret (Or.inl ⟨rfl, rfl, hb, h⟩)
  | f + 1, i, g, x, doc, h4, hn, hg, hdoc, h, hb => by
    obtain ⟨g, rfl⟩ : ∃ g', g = g' + 1 := ⟨g - 1, by omega⟩
    have hge : es[i]? = some (es[i]'(by omega)) := List.getElem?_eq_getElem _
    generalize es[i]'(by omega) = e at hge
    obtain ⟨o1, o2, o3, o4, o5, o6⟩ := hM.2 i e hge
    unfold encB at h
    rw [hge] at h
    dsimp only at h
    unfold entryB at h
    rw [List.append_assoc, List.append_assoc] at h
    have hdn : 0 ≤ gapB es i e ∧ gapB es i e ≤ 65535 ∧ doc + gapB es i e = e.doc := by
      rw [hdoc (by omega)]
      unfold gapB
      by_cases hz : i % 4 = 0
      · rw [if_pos hz, if_pos hz]; omega
      · rw [if_neg hz, if_neg hz]
        have hgp : es[i - 1]? = some (es[i - 1]'(by omega)) := List.getElem?_eq_getElem _
        have h1 := o3 _ (by omega) hgp
        have h2 := (hM.2 _ _ hgp).1
        rw [docAt_of hgp, hgp]
        simp only [Option.map_some, Option.getD_some]
        omega
    obtain ⟨d0, d1, d2⟩ := hdn
    unfold entL
    refine reads_bind (reads_mono (reads_num (by omega) h) fun y hy => ?_)
    obtain ⟨hy1, hy2⟩ := hy
    have ey : doc + y.1 = e.doc := by rw [hy1]; omega
    refine reads_bind (reads_mono (reads_num (by omega) hy2) fun z hz => ?_)
    obtain ⟨hz1, hz2⟩ := hz
    have ez : (min z.1 256).toNat = e.pos.length := by rw [hz1]; omega
    rw [ez]
    have hch : PosCh 0 e.pos := by
      have := posCh_of o6 0 0 (fun x hx => (o6 0 x hx).1)
      simpa using this
    refine reads_bind (reads_mono (reads_pos e.pos 0 [] z.2 _ (Int.le_refl _) hch hz2) fun p hp => ?_)
    obtain ⟨hp1, hp2⟩ := hp
    refine reads_off ?_
    rw [ey]
    by_cases hm : e.doc ≥ most
    · rw [if_pos (Or.inr hm)]
      exact reads_ret (Or.inr ⟨rfl, i, by omega, rfl, hb, by rw [docAt_of hge]; exact hm⟩)
    · rw [if_neg (by rintro (h | h); cases h; exact hm h)]
      have en : (⟨e.doc, p.1⟩ : EntM) = e := by rw [hp1]; rfl
      rw [en, take_snoc hge]
      have := reads_ent hM most f (i + 1) g p.2 e.doc (by omega) (by omega) (by omega) (fun hf => by rw [if_neg (by omega), Nat.add_sub_cancel, docAt_of hge]) hp2 (fun k hk => by
        by_cases e' : k = i
        · subst e'; rw [docAt_of hge]; omega
        · exact hb k (by omega))
      rw [show i + 1 + f = i + (f + 1) by omega, show g - f = g + 1 - (f + 1) by omega] at this
      exact this

/-- what stands ahead of a block -/
def skipV (es : List EntM) (b : Nat) : Int := 65536 * docAt es (min (4 * b + 3) (es.length - 1)) + (encB es (4 * b) 0).length
theorem encB_succ (es : List EntM) (f i : Nat) : encB es (f + 1) i = (match es[i]? with | some e => entryB es i e | none => []) ++ encB es f (i + 1) := rfl
theorem encB_split (es : List EntM) : ∀ (f g i : Nat), encB es (f + g) i = encB es f i ++ encB es g (i + f)
  | 0, g, i => by rw [Nat.zero_add]; rfl
  | f + 1, g, i => by
    rw [show f + 1 + g = (f + g) + 1 by omega, encB_succ, encB_succ, encB_split es f g (i + 1), List.append_assoc, show i + 1 + f = i + (f + 1) by omega]
theorem vlq_len3 {n : Nat} (h : n ≤ 65535) : (vlq n).length ≤ 3 := by
  by_cases h1 : n > 127
  · rw [vlq_big h1]
    by_cases h2 : n / 128 > 127
    · rw [vlq_big h2, vlq_small (by omega)]; simp
    · rw [vlq_small h2]; simp
  · rw [vlq_small h1]; simp
theorem posB_len {ps : List Int} : ∀ {q : Int}, 0 ≤ q → PosCh q ps → (posB q ps).length ≤ 3 * ps.length := by
  induction ps with
  | nil => intro q _ _; exact Nat.le_refl _
  | cons p ps ih =>
    intro q h0 ⟨h1, h2, h3⟩
    unfold posB
    have := ih (q := p) (by omega) h3
    have := vlq_len3 (n := (p - q).toNat) (by omega)
    simp; omega
theorem entry_len {es : List EntM} (hM : MayE es) {i : Nat} {e : EntM} (h : es[i]? = some e) : (entryB es i e).length ≤ 774 := by
  obtain ⟨o1, o2, o3, o4, o5, o6⟩ := hM.2 i e h
  have hg : (gapB es i e).toNat ≤ 65535 := by
    unfold gapB
    split
    · omega
    · cases hp : es[i - 1]? with
      | none => simp; omega
      | some d => have := (hM.2 _ _ hp).1; simp; omega
  have h1 := vlq_len3 hg
  have h2 := vlq_len3 (n := e.pos.length) (by omega)
  have hch : PosCh 0 e.pos := by
    have := posCh_of o6 0 0 (fun x hx => (o6 0 x hx).1)
    simpa using this
  have h3 := posB_len (Int.le_refl 0) hch
  unfold entryB
  simp; omega
theorem encB_len {es : List EntM} (hM : MayE es) : ∀ (f i : Nat), (encB es f i).length ≤ 774 * f
  | 0, _ => Nat.le_refl _
  | f + 1, i => by
    unfold encB
    have := encB_len hM f (i + 1)
    cases h : es[i]? with
    | none => simp; omega
    | some e => have := entry_len hM h; simp; omega
theorem vlq_byte (n : Nat) : ∀ x ∈ vlq n, Byte x := by
  induction n using Nat.strongRecOn with
  | _ n ih =>
    intro x hx
    by_cases h : n > 127
    · rw [vlq_big h] at hx
      rcases List.mem_cons.1 hx with rfl | hx
      · unfold Byte; omega
      · exact ih (n / 128) (by omega) x hx
    · rw [vlq_small h] at hx
      rcases List.mem_cons.1 hx with rfl | hx
      · unfold Byte; omega
      · cases hx
theorem posB_byte : ∀ (ps : List Int) (q : Int), ∀ x ∈ posB q ps, Byte x
  | [], _, x, hx => by cases hx
  | p :: ps, q, x, hx => by
    unfold posB at hx
    rcases List.mem_append.1 hx with h | h
    · exact vlq_byte _ x h
    · exact posB_byte ps p x h
theorem encB_byte (es : List EntM) : ∀ (f i : Nat), ∀ x ∈ encB es f i, Byte x
  | 0, _, x, hx => by cases hx
  | f + 1, i, x, hx => by
    unfold encB at hx
    rcases List.mem_append.1 hx with h | h
    · cases hg : es[i]? with
      | none => rw [hg] at h; cases h
      | some e =>
        rw [hg] at h
        unfold entryB at h
        rcases List.mem_append.1 h with h | h
        · rcases List.mem_append.1 h with h | h
          · exact vlq_byte _ x h
          · exact vlq_byte _ x h
        · exact posB_byte _ _ x h
    · exact encB_byte es f (i + 1) x h
theorem reads_blk {cs : List Int} {base list : Nat} {bs : List Int} {es : List EntM} (hM : MayE es) (most : Int) (hmost : -9223372036854775808 ≤ most ∧ most ≤ 9223372036854775807) (hsk : ∀ b, b < (es.length + 3) / 4 → cs[list + 1 + b]? = some (skipV es b)) :
    ∀ (f b : Nat) (x : RdM), f + b = (es.length + 3) / 4 → RdAt cs base bs x (encB es (es.length - 4 * b) (4 * b)) → (∀ k, k < 4 * b → k < es.length → docAt es k < most) →
    (blkL list most es.length f b (es.take (4 * b)) x).Reads cs fun y => ∃ j, j ≤ es.length ∧ y = es.take j ∧ (∀ k, k < j → docAt es k < most) ∧ (j < es.length → most ≤ docAt es j)
  | 0, b, x, hf, h, hb => reads_ret ⟨es.length, Nat.le_refl _, by rw [List.take_length, List.take_of_length_le (by omega)], fun k hk => hb k (by omega) hk, fun h => by omega⟩
  | f + 1, b, x, hf, h, hb => by
    have hbl : 4 * b < es.length := by omega
    unfold blkL
    refine reads_load (i := list + 1 + b) (by simp) (hsk b (by omega)) ?_
    refine reads_bind (reads_mono (reads_ent hM most (min 4 (es.length - 4 * b)) (4 * b) (es.length - 4 * b) x 0 (by omega) (by omega) (by omega) (fun _ => by rw [if_pos (by omega)]) h (fun k hk => hb k hk (by omega))) fun y hy => ?_)
    rcases hy with ⟨y1, y2, y3, y4⟩ | ⟨y1, j, y2, y3, y4, y5⟩
    · rw [y1, if_neg (by decide)]
      have hl := encB_len hM (4 * b) 0
      have h64 := hM.1
      have hls : min (4 * b + 3) (es.length - 1) < es.length := by omega
      have hgl : es[min (4 * b + 3) (es.length - 1)]? = some (es[min (4 * b + 3) (es.length - 1)]'hls) := List.getElem?_eq_getElem _
      have hdr := hM.2 _ _ hgl
      have hdl : skipV es b / 65536 = docAt es (min (4 * b + 3) (es.length - 1)) := by unfold skipV; omega
      have hdd := docAt_of hgl
      have hd0 := hdr.1
      have hlt := y3 (min (4 * b + 3) (es.length - 1)) (by omega)
      rw [hdl]
      by_cases hc : docAt es (min (4 * b + 3) (es.length - 1)) ≥ wrap64 (most - 1)
      · rw [if_pos hc]
        have hw : wrap64 (most - 1) = most - 1 := by unfold wrap64; omega
        rw [hw] at hc
        refine reads_ret ⟨4 * b + min 4 (es.length - 4 * b), by omega, y2, y3, fun hj => ?_⟩
        have := hM.up (min (4 * b + 3) (es.length - 1)) (4 * b + min 4 (es.length - 4 * b)) (by omega) hj
        omega
      · rw [if_neg hc, y2]
        by_cases hfin : 4 * b + 4 ≤ es.length
        · rw [show 4 * b + min 4 (es.length - 4 * b) = 4 * (b + 1) by omega] at y3 y4 ⊢
          rw [show es.length - 4 * b - min 4 (es.length - 4 * b) = es.length - 4 * (b + 1) by omega] at y4
          exact reads_blk hM most hmost hsk f (b + 1) _ (by omega) y4 (fun k hk _ => y3 k hk)
        · obtain rfl : f = 0 := by omega
          rw [show 4 * b + min 4 (es.length - 4 * b) = es.length by omega] at y3 ⊢
          exact reads_ret ⟨es.length, Nat.le_refl _, rfl, y3, fun h => by omega⟩
    · rw [y1, if_pos rfl]
      exact reads_ret ⟨j, by omega, y3, y4, fun _ => y5⟩

/-- the cells of a list -/
def skips (es : List EntM) : List Int := (List.range ((es.length + 3) / 4)).map (skipV es)
def encL (es : List EntM) : List Int := (es.length : Int) :: (skips es ++ packC (encB es es.length 0))
def belowL (es : List EntM) (most : Int) : List EntM := es.filter fun e => decide (e.doc < most)
theorem filter_take {es : List EntM} {most : Int} {j : Nat} (h1 : ∀ k, k < j → k < es.length → docAt es k < most) (h2 : ∀ k, j ≤ k → k < es.length → most ≤ docAt es k) : es.take j = belowL es most := by
  have e : es = es.take j ++ es.drop j := (List.take_append_drop j es).symm
  unfold belowL
  conv => rhs; rw [e]
  rw [List.filter_append, List.filter_eq_self.2, List.filter_eq_nil_iff.2, List.append_nil]
  · intro x hx
    obtain ⟨k, hk, rfl⟩ := List.getElem_of_mem hx
    simp at hk
    have := h2 (j + k) (by omega) (by omega)
    rw [docAt_of (List.getElem?_eq_getElem (by omega))] at this
    simp
    omega
  · intro x hx
    obtain ⟨k, hk, rfl⟩ := List.getElem_of_mem hx
    simp at hk
    have := h1 k (by omega) (by omega)
    rw [docAt_of (List.getElem?_eq_getElem (by omega))] at this
    simp
    omega
theorem reads_list {cs : List Int} {list : Nat} {es : List EntM} (hM : MayE es) (most : Int) (hmost : -9223372036854775808 ≤ most ∧ most ≤ 9223372036854775807) (hc : ∀ j x, (encL es)[j]? = some x → cs[list + j]? = some x) :
    (listT list most).Reads cs fun y => y = belowL es most := by
  have h64 := hM.1
  unfold listT
  refine reads_load (i := list) rfl (hc 0 _ rfl) ?_
  rw [if_neg (by omega), Int.toNat_natCast]
  have hsl : (skips es).length = (es.length + 3) / 4 := by simp [skips]
  have hsk : ∀ b, b < (es.length + 3) / 4 → cs[list + 1 + b]? = some (skipV es b) := by
    intro b hb
    rw [show list + 1 + b = list + (b + 1) by omega]
    refine hc (b + 1) _ ?_
    show (skips es ++ _)[b]? = _
    rw [List.getElem?_append_left (by omega)]
    simp [skips, hb]
  have hR : RdAt cs (list + 1 + (es.length + 3) / 4) (encB es es.length 0) ⟨(list : Int) + 1 + (((es.length + 3) / 4 : Nat) : Int), 0, -1, 0⟩ (encB es (es.length - 4 * 0) (4 * 0)) := by
    refine ⟨by simp, rfl, fun q hq => ?_, Or.inl rfl, encB_byte es _ _⟩
    rw [show list + 1 + (es.length + 3) / 4 + q = list + ((es.length + 3) / 4 + q + 1) by omega]
    refine hc _ _ ?_
    show (skips es ++ _)[(es.length + 3) / 4 + q]? = _
    rw [List.getElem?_append_right (by omega), hsl, Nat.add_sub_cancel_left]
    unfold packC
    exact pcs_get _ _ _ _ hq
  refine reads_mono (reads_blk hM most hmost hsk ((es.length + 3) / 4) 0 _ (by omega) hR (fun k hk => by omega)) fun y hy => ?_
  obtain ⟨j, h1, h2, h3, h4⟩ := hy
  rw [h2]
  refine filter_take (fun k hk _ => h3 k hk) (fun k hk hl => ?_)
  by_cases e : j = k
  · subst e; exact h4 hl
  · have := h4 (by omega)
    have := hM.up j k (by omega) hl
    omega
end Go.Proofs.Ytbmgmjfpoepgpaa
