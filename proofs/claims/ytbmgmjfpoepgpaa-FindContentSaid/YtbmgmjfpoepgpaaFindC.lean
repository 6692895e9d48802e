/- A list of entries that grows: what lies where. -/
import Derived.Test.YtbmgmjfpoepgpaaFindB
namespace Go.Proofs.Ytbmgmjfpoepgpaa
open Go.RowKit

theorem info_partsF {P : Program} {t : TypeId} {z : Value} {a b : Nat} (h : (P.info? t).map (fun i => (i.zero, i.size, i.bytes)) = some (some z, a, b)) : ∃ i, P.info? t = some i ∧ i.zero = some z ∧ i.size = a ∧ i.bytes = b := by
  obtain ⟨i, h1, h2⟩ := Option.map_eq_some_iff.1 h
  simp only [Prod.mk.injEq] at h2
  exact ⟨i, h1, h2.1, h2.2.1, h2.2.2⟩

/-- the cells of entries; where their places lie is G -/
def EntAt (w : World) (G : Nat → Prop) : List EntM → List Value → Prop
  | [], cs => cs = []
  | e :: es, cs => ∃ v cs', cs = .int .i64 e.doc :: v :: cs' ∧ SlAt w G 1 v e.pos.length (e.pos.map (Value.int .i64)) ∧ EntAt w G es cs'
theorem EntAt.keep {w w' : World} {G L : Nat → Prop} (k : Keeps L w w') (hL : ∀ b, G b → L b) : ∀ (es : List EntM) (cs : List Value), EntAt w G es cs → EntAt w' G es cs
  | [], _, h => h
  | _ :: es, _, ⟨v, cs', h1, h2, h3⟩ => ⟨v, cs', h1, h2.keep k hL, EntAt.keep k hL es cs' h3⟩
theorem EntAt.mono {w : World} {G L : Nat → Prop} (hL : ∀ b, G b → L b) : ∀ (es : List EntM) (cs : List Value), EntAt w G es cs → EntAt w L es cs
  | [], _, h => h
  | _ :: es, _, ⟨v, cs', h1, h2, h3⟩ => ⟨v, cs', h1, h2.mono hL, EntAt.mono hL es cs' h3⟩
theorem EntAt.append {w : World} {G : Nat → Prop} : ∀ (es es' : List EntM) (cs cs' : List Value), EntAt w G es cs → EntAt w G es' cs' → EntAt w G (es ++ es') (cs ++ cs')
  | [], _, cs, _, h, h' => by
    have : cs = [] := h
    subst this; exact h'
  | _ :: es, es', _, cs2, ⟨v, cs', h1, h2, h3⟩, h' => ⟨v, cs' ++ cs2, by rw [h1]; rfl, h2, EntAt.append es es' cs' cs2 h3 h'⟩
theorem EntAt.len {w : World} {G : Nat → Prop} : ∀ (es : List EntM) (cs : List Value), EntAt w G es cs → cs.length = es.length * 2
  | [], cs, h => by have : cs = [] := h; subst this; rfl
  | _ :: es, _, ⟨v, cs', h1, h2, h3⟩ => by have := EntAt.len es cs' h3; rw [h1]; simp [this]; omega

theorem own_slAt0 {w : World} {E n : Nat} {v : Value} {xs : List Value} {L : Nat → Prop} (h : w.ownsRow 0 E 1 v n xs) (hL : ∀ b, v.ownBlock = some b → L b) : SlAt w L 1 v n xs := by
  have hl := h.1
  rcases h.2 with ⟨h1, h2⟩ | ⟨b, cap, cur, h1, h0, h3, h4, h5, h6, h7⟩
  · exact ⟨none, 0, by rw [h1, h2], by omega, Nat.zero_le _, hl, fun hn => by omega⟩
  · refine ⟨some ⟨b, 0, none⟩, cap, h1, h4, h5, hl, fun hn => ⟨b, 0, rfl, hL b (by rw [h1]; rfl), fun j u hu => ?_⟩⟩
    have := h.cells (g := b) (by rw [h1]; rfl) j u hu
    have ea : (⟨b, 0, none⟩ : Addr).add j = ⟨b, j, none⟩ := by unfold Addr.add; split <;> simp_all
    rw [Nat.zero_add, ← ea]; exact this
theorem own_slice0 {w : World} {E n sz : Nat} {v : Value} {xs : List Value} (h : w.ownsRow 0 E sz v n xs) : ∃ A cp, v = .slice A n cp := by
  rcases h.2 with ⟨h1, h2⟩ | ⟨b, cap, _, h1, _⟩
  · exact ⟨_, _, by rw [h1, h2]⟩
  · exact ⟨_, _, h1⟩

abbrev Kb (K : Nat → Prop) (b9 : Nat) (G : Nat → Prop) (o : Value) : Nat → Prop := fun y => ((K y ∨ y = b9) ∨ G y) ∨ o.ownBlock = some y

/-- between two entries -/
structure LSt (w0 wr : World) (K : Nat → Prop) (r m c b9 : Nat) (G : Nat → Prop) (o : Value) (es : List EntM) (x : RdM) (s : St) : Prop where
  rm : RM wr (Kb K b9 G o) r m c s
  own : ∃ cells, wr.ownsRow 0 71 2 o es.length cells ∧ EntAt wr G es cells
  outNe : ∀ y, o.ownBlock = some y → ¬ (K y ∨ y = b9) ∧ ¬ G y
  gNe : ∀ y, G y → ¬ (K y ∨ y = b9)
  blk : Blk wr b9 (x.cells r)
  xok : x.ok
  keeps : Keeps K w0 wr
  kne : ¬ K b9
/-- within an entry -/
structure LIn (w0 wr : World) (K : Nat → Prop) (r m c b9 b15 : Nat) (G : Nat → Prop) (o : Value) (es : List EntM) (doc : Int) (pv : Value) (ps : List Int) (x : RdM) (s : St) : Prop where
  rm : RM wr (fun y => (Kb K b9 G o y ∨ y = b15) ∨ pv.ownBlock = some y) r m c s
  own : ∃ cells, wr.ownsRow 0 71 2 o es.length cells ∧ EntAt wr G es cells
  outNe : ∀ y, o.ownBlock = some y → ¬ (K y ∨ y = b9) ∧ ¬ G y
  gNe : ∀ y, G y → ¬ (K y ∨ y = b9)
  blk : Blk wr b9 (x.cells r)
  xok : x.ok
  keeps : Keeps K w0 wr
  kne : ¬ K b9
  eblk : Blk wr b15 [.int .i64 doc, pv]
  pown : wr.ownsRow 0 3 1 pv ps.length (ps.map (Value.int .i64))
  pNe : ∀ y, pv.ownBlock = some y → ¬ (Kb K b9 G o y ∨ y = b15)
  bNe : ¬ Kb K b9 G o b15

section
variable {w0 wr w' : World} {K : Nat → Prop} {r m c b9 b15 : Nat} {G : Nat → Prop} {o : Value} {es : List EntM} {x x' : RdM} {s s' : St} {doc : Int} {pv : Value} {ps : List Int}
theorem LSt.num (h : LSt w0 wr K r m c b9 G o es x s) (hr : RM w' (Kb K b9 G o) r m c s') (hb : Blk w' b9 (x'.cells r)) (hx : x'.ok) (hk : Keeps (fun y => Kb K b9 G o y ∧ y ≠ b9) wr w') : LSt w0 w' K r m c b9 G o es x' s' := by
  obtain ⟨cells, o1, o2⟩ := h.own
  refine ⟨hr, ⟨cells, own_of_keep o1 hk (fun b hb => ⟨Or.inr hb, fun e => (h.outNe b hb).1 (Or.inr e)⟩), EntAt.keep hk (fun b hb => ⟨Or.inl (Or.inr hb), fun e => h.gNe b hb (Or.inr e)⟩) es cells o2⟩, h.outNe, h.gNe, hb, hx, h.keeps.trans (hk.mono fun b hb => ⟨Or.inl (Or.inl (Or.inl hb)), fun e => h.kne (e ▸ hb)⟩), h.kne⟩
theorem LSt.run (h : LSt w0 wr K r m c b9 G o es x s) (hr : RM w' (Kb K b9 G o) r m c s') (hk : Keeps (Kb K b9 G o) wr w') : LSt w0 w' K r m c b9 G o es x s' := by
  obtain ⟨cells, o1, o2⟩ := h.own
  exact ⟨hr, ⟨cells, own_of_keep o1 hk (fun b hb => Or.inr hb), EntAt.keep hk (fun b hb => Or.inl (Or.inr hb)) es cells o2⟩, h.outNe, h.gNe, h.blk.keep hk (Or.inl (Or.inl (Or.inr rfl))), h.xok, h.keeps.trans (hk.mono fun b hb => Or.inl (Or.inl (Or.inl hb))), h.kne⟩
theorem LSt.entry (h : LSt w0 wr K r m c b9 G o es x s) (doc : Int) (T : TypeId) : LIn w0 (wr.alloc (.cells #[.int .i64 doc, .slice none 0 0] T)) K r m c b9 wr.heap.size G o es doc (.slice none 0 0) [] x s := by
  obtain ⟨cells, o1, o2⟩ := h.own
  have k : Keeps (Kb K b9 G o) wr (wr.alloc (.cells #[.int .i64 doc, .slice none 0 0] T)) := (Keeps.refl _ _).alloc (fun b hb => h.rm.lt b hb) _
  have hs := h.run (h.rm.alloc _) k
  exact ⟨(h.rm.more _).mono (fun b hb => by rcases hb with hb | hb; exact hb; cases hb), hs.own, h.outNe, h.gNe, hs.blk, h.xok, hs.keeps, h.kne, Blk.new wr _ _, ⟨rfl, Or.inl ⟨rfl, rfl⟩⟩, fun y hy => (by cases hy), fun hb => by have := h.rm.lt _ hb; omega⟩
theorem LIn.num (h : LIn w0 wr K r m c b9 b15 G o es doc pv ps x s) (hr : RM w' (fun y => (Kb K b9 G o y ∨ y = b15) ∨ pv.ownBlock = some y) r m c s') (hb : Blk w' b9 (x'.cells r)) (hx : x'.ok) (hk : Keeps (fun y => ((Kb K b9 G o y ∨ y = b15) ∨ pv.ownBlock = some y) ∧ y ≠ b9) wr w') : LIn w0 w' K r m c b9 b15 G o es doc pv ps x' s' := by
  obtain ⟨cells, o1, o2⟩ := h.own
  refine ⟨hr, ⟨cells, own_of_keep o1 hk (fun b hb => ⟨Or.inl (Or.inl (Or.inr hb)), fun e => (h.outNe b hb).1 (Or.inr e)⟩), EntAt.keep hk (fun b hb => ⟨Or.inl (Or.inl (Or.inl (Or.inr hb))), fun e => h.gNe b hb (Or.inr e)⟩) es cells o2⟩, h.outNe, h.gNe, hb, hx,
    h.keeps.trans (hk.mono fun b hb => ⟨Or.inl (Or.inl (Or.inl (Or.inl (Or.inl hb)))), fun e => h.kne (e ▸ hb)⟩), h.kne, h.eblk.keep hk ⟨Or.inl (Or.inr rfl), fun e => h.bNe (e ▸ Or.inl (Or.inl (Or.inr rfl)))⟩, own_of_keep h.pown hk (fun b hb => ⟨Or.inr hb, fun e => h.pNe b hb (Or.inl (e ▸ Or.inl (Or.inl (Or.inr rfl))))⟩), h.pNe, h.bNe⟩
/-- a place is appended -/
theorem LIn.push {w6 : World} {v' : Value} {y : Int} {T : TypeId} (h : LIn w0 wr K r m c b9 b15 G o es doc pv ps x s) (hown : w6.ownsRow 0 3 1 v' (ps.length + 1) (ps.map (Value.int .i64) ++ [.int .i64 y])) (hg : (wr.alloc (.cells #[.int .i64 y] T)).grownBy w6 pv.ownBlock)
    (hf : v'.ownBlock = pv.ownBlock ∨ ∃ b, v'.ownBlock = some b ∧ (wr.alloc (.cells #[.int .i64 y] T)).heap.size ≤ b) : LIn w0 (w6.setCell ⟨b15, 1, none⟩ v') K r m c b9 b15 G o es doc v' (ps ++ [y]) x s := by
  have hal := h.rm.alloc (.cells #[.int .i64 y] T)
  have hlt' : ∀ b, v'.ownBlock = some b → b < w6.heap.size := fun b hb => (hown.lt b hb).2
  have hR6 := hal.appendR hg hf hlt'
  have hb15 : b15 < wr.heap.size := h.eblk.lt
  have hk0 : Keeps (fun y => Kb K b9 G o y ∨ y = b15) wr (wr.alloc (.cells #[.int .i64 y] T)) := (Keeps.refl _ _).alloc (fun b hb => h.rm.lt b (Or.inl hb)) _
  have hk1 : Keeps (fun y => Kb K b9 G o y ∨ y = b15) wr w6 := hk0.trans (keepsR_append (fun b hb => hal.lt b (Or.inl hb)) h.pNe hg)
  have hk2 : Keeps (Kb K b9 G o) wr (w6.setCell ⟨b15, 1, none⟩ v') := (hk1.mono fun b hb => Or.inl hb).setCell h.bNe _
  obtain ⟨cells, o1, o2⟩ := h.own
  have hne : ∀ b, v'.ownBlock = some b → ¬ (Kb K b9 G o b ∨ b = b15) := by
    intro b hb hK
    rcases hf with e | ⟨b', e, hge⟩
    · exact h.pNe b (by rw [← e]; exact hb) hK
    · rw [e] at hb; injection hb with hb
      have := h.rm.lt b (Or.inl hK)
      rw [World.size_alloc] at hge; omega
  have hset : Keeps (· ≠ b15) w6 (w6.setCell ⟨b15, 1, none⟩ v') := (Keeps.refl _ _).setCell (fun h => h rfl) _
  refine ⟨hR6.setK (Or.inl (Or.inr rfl)) _, ⟨cells, own_of_keep o1 hk2 (fun b hb => Or.inr hb), EntAt.keep hk2 (fun b hb => Or.inl (Or.inr hb)) es cells o2⟩, h.outNe, h.gNe, h.blk.keep hk2 (Or.inl (Or.inl (Or.inr rfl))), h.xok, h.keeps.trans (hk2.mono fun b hb => Or.inl (Or.inl (Or.inl hb))), h.kne, (h.eblk.keep hk1 (Or.inr rfl)).set 1 v', ?_, hne, h.bNe⟩
  have := own_of_keep hown hset (fun b hb e => hne b hb (Or.inr e))
  simpa using this
/-- the entry is appended -/
theorem LIn.push2 {w6 : World} {v' : Value} {T : TypeId} (h : LIn w0 wr K r m c b9 b15 G o es doc pv ps x s) {cells : List Value} (hc : EntAt wr G es cells) (hown : w6.ownsRow 0 71 2 v' (es.length + 1) (cells ++ [.int .i64 doc, pv])) (hg : (wr.alloc (.cells #[.int .i64 doc, pv] T)).grownBy w6 o.ownBlock)
    (hf : v'.ownBlock = o.ownBlock ∨ ∃ b, v'.ownBlock = some b ∧ (wr.alloc (.cells #[.int .i64 doc, pv] T)).heap.size ≤ b) : LSt w0 w6 K r m c b9 (fun y => G y ∨ pv.ownBlock = some y) v' (es ++ [⟨doc, ps⟩]) x s := by
  have hrm : RM wr (fun y => ((K y ∨ y = b9) ∨ (G y ∨ pv.ownBlock = some y)) ∨ o.ownBlock = some y) r m c s := h.rm.mono fun b hb => by
    rcases hb with (hb | hb | hb) | hb
    · exact Or.inl (Or.inl (Or.inl (Or.inl hb)))
    · exact Or.inl (Or.inl (Or.inl (Or.inr hb)))
    · exact Or.inr hb
    · exact Or.inl (Or.inl (Or.inr hb))
  have hal := hrm.alloc (.cells #[.int .i64 doc, pv] T)
  have hlt' : ∀ b, v'.ownBlock = some b → b < w6.heap.size := fun b hb => (hown.lt b hb).2
  have hR6 := hal.appendR hg hf hlt'
  have oNe : ∀ b, o.ownBlock = some b → ¬ ((K b ∨ b = b9) ∨ (G b ∨ pv.ownBlock = some b)) := by
    rintro b hb (e | e | e)
    · exact (h.outNe b hb).1 e
    · exact (h.outNe b hb).2 e
    · exact h.pNe b e (Or.inl (Or.inr hb))
  have hk0 : Keeps (fun y => (K y ∨ y = b9) ∨ (G y ∨ pv.ownBlock = some y)) wr (wr.alloc (.cells #[.int .i64 doc, pv] T)) := (Keeps.refl _ _).alloc (fun b hb => hrm.lt b (Or.inl hb)) _
  have hk1 : Keeps (fun y => (K y ∨ y = b9) ∨ (G y ∨ pv.ownBlock = some y)) wr w6 := hk0.trans (keepsR_append (fun b hb => hal.lt b (Or.inl hb)) oNe hg)
  refine ⟨hR6, ⟨cells ++ [.int .i64 doc, pv], by simpa using hown, ?_⟩, ?_, ?_, h.blk.keep hk1 (Or.inl (Or.inr rfl)), h.xok, h.keeps.trans (hk1.mono fun b hb => Or.inl (Or.inl hb)), h.kne⟩
  · refine EntAt.append es [⟨doc, ps⟩] cells _ (EntAt.keep hk1 (fun b hb => Or.inr hb) _ _ (EntAt.mono (fun b hb => Or.inl hb) es cells hc)) ⟨pv, [], rfl, ?_, rfl⟩
    exact own_slAt0 (own_of_keep h.pown hk1 (fun b hb => Or.inr (Or.inr hb))) (fun b hb => Or.inr hb)
  · intro b hb
    rcases hf with e | ⟨b', e, hge⟩
    · rw [e] at hb
      exact ⟨fun e => oNe b hb (Or.inl e), fun e => oNe b hb (Or.inr e)⟩
    · rw [e] at hb; injection hb with hb
      rw [World.size_alloc] at hge
      exact ⟨fun e => by have := hrm.lt b (Or.inl (Or.inl e)); omega, fun e => by have := hrm.lt b (Or.inl (Or.inr e)); omega⟩
  · rintro b (hb | hb) e
    · exact h.gNe b hb e
    · exact h.pNe b hb (Or.inl (Or.inl (Or.inl e)))
end
end Go.Proofs.Ytbmgmjfpoepgpaa
