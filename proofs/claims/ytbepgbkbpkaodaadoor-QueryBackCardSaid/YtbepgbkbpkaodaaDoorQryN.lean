/- Layer 17 (query): a row of kids; and. -/
import Derived.Test.YtbepgbkbpkaodaaDoorQryM
namespace Go.Proofs.YtbepgbkbpkaodaaDoor
open Go.RowKit

theorem Tryd.infoNode : (Tryd.prog.info? 26).map (fun i => (i.zero, i.size, i.bytes)) = some (some (.agg #[.int .i64 0, .int .u8 0, .slice none 0 0, .slice none 0 0]), 4, 64) := by kernel_rfl
theorem oneNode (k f : Int) (A1 A2 : Option Addr) (n1 c1 n2 c2 : Nat) : ∀ u ∈ [Value.int .i64 k, .int .u8 f, .slice A1 n1 c1, .slice A2 n2 c2], u.oneCell' = true := by
  intro u hu
  simp only [List.mem_cons, List.not_mem_nil, or_false] at hu
  rcases hu with rfl | rfl | rfl | rfl <;> rfl
theorem KidsR.calls {B b : Nat} {w w' : World} {v : Value} {kids : List Nd} {css : List (List Value)} (h : KidsR B w v kids css) (k : Mv b w w') (hb : b < B) : KidsR B w' v kids css := by
  have hs := k.size
  refine ⟨ownB_keep h.own k (fun x hx h2 _ => ⟨h2, by omega⟩), h.len, fun i n cs h1 h2 => (h.nod i n cs h1 h2).keep (k.mono fun x hx => ⟨hx.2.1, by have := hx.1; omega⟩) (fun x hx => ⟨hx.1, Nat.lt_of_lt_of_le hx.2.1 hs, hx.2.2⟩)⟩
theorem KidsR.one {B : Nat} {w W : World} {T : TypeId} {n : Nd} {cs : List Value} (hB : B ≤ w.heap.size) (hw : w.heap.size ≤ W.heap.size) (hT : T = 26) (h : NodeV W (fun x => w.heap.size ≤ x ∧ x < W.heap.size) n cs) : KidsR B (W.alloc (.cells cs.toArray T)) (.slice (some ⟨W.heap.size, 0, none⟩) 1 1) [n] [cs] := by
  refine ⟨?_, rfl, fun i n' cs' h1 h2 => ?_⟩
  · have := own_lit W B 26 T 4 1 cs hT (by rw [h.len]) (by decide) (by omega)
    simpa using this
  · cases i with
    | zero =>
      simp only [List.getElem?_cons_zero, Option.some.injEq] at h1 h2
      subst h1 h2
      refine (h.keep ((Keeps.refl _ _).alloc (fun b hb => hb.2) _) (fun x hx => ⟨Nat.le_trans hB hx.1, by have := hx.2; simp; omega, ?_⟩))
      have := hx.2
      simp only [Value.ownBlock]
      intro e; injection e with e; omega
    | succ i => simp at h1
theorem KidsR.push {B : Nat} {w W w' : World} {T : TypeId} {v v' : Value} {kids : List Nd} {css : List (List Value)} {n : Nd} {cs : List Value} (h : KidsR B W v kids css) (hB : B ≤ w.heap.size)
    (hv : ∀ x, v.ownBlock = some x → x < w.heap.size) (hn : NodeV W (fun x => w.heap.size ≤ x ∧ x < W.heap.size) n cs)
    (hown : w'.ownsRow B 26 4 v' (kids.length + 1) (css.flatten ++ cs)) (hg : (W.alloc (.cells cs.toArray T)).grownBy w' v.ownBlock) (hf : v'.ownBlock = v.ownBlock ∨ v'.ownBlock = some (W.heap.size + 1)) : KidsR B w' v' (kids ++ [n]) (css ++ [cs]) := by
  have hs := hg.size
  simp only [World.size_alloc] at hs
  have hne : ∀ x, B ≤ x → x < W.heap.size → v.ownBlock ≠ some x → v'.ownBlock ≠ some x := by
    intro x _ hx hvx
    rcases hf with e | e
    · rw [e]; exact hvx
    · rw [e]; intro e2; injection e2 with e2; omega
  have hk : Keeps (fun x => x < W.heap.size ∧ v.ownBlock ≠ some x) W w' := by
    refine Keeps.trans (b := W.alloc (.cells cs.toArray T)) ((Keeps.refl _ _).alloc (fun b hb => hb.1) _) ⟨hg.os, hg.tape, hg.output, hg.size, fun b hb => hg.block b (by simp; have := hb.1; omega) (fun e => hb.2 e.symm)⟩
  refine ⟨by simpa using hown, by simp [h.len], fun i n' cs' h1 h2 => ?_⟩
  by_cases hi : i < kids.length
  · rw [List.getElem?_append_left hi] at h1
    rw [List.getElem?_append_left (by rw [h.len]; exact hi)] at h2
    exact (h.nod i n' cs' h1 h2).keep (hk.mono fun x hx => ⟨hx.2.1, hx.2.2⟩) (fun x hx => ⟨hx.1, by omega, hne x hx.1 hx.2.1 hx.2.2⟩)
  · rw [List.getElem?_append_right (by omega)] at h1
    rw [List.getElem?_append_right (by rw [h.len]; omega), h.len] at h2
    have hi0 : i - kids.length = 0 := by
      apply Decidable.byContradiction
      intro h0
      rw [List.getElem?_eq_none (by simp; omega)] at h1
      cases h1
    rw [hi0] at h1 h2
    simp only [List.getElem?_cons_zero, Option.some.injEq] at h1 h2
    subst h1 h2
    have hvx : ∀ x, w.heap.size ≤ x → v.ownBlock ≠ some x := fun x hx e => by have := hv x e; omega
    exact hn.keep (hk.mono fun x hx => ⟨hx.2, hvx x hx.1⟩) (fun x hx => ⟨by have := hx.1; omega, by have := hx.2; omega, hne x (by have := hx.1; omega) hx.2 (hvx x hx.1)⟩)
theorem KidsR.several {B : Nat} {w : World} {A : Option Addr} {c : Nat} {kids : List Nd} {css : List (List Value)} (h : KidsR B w (.slice A kids.length c) kids css) (hn : 0 < kids.length) (kind : Int) :
    Calls Tryd.prog 40 #[.int .i64 kind, .slice A kids.length c] w fun e w' => ∃ k f A1 n1 c1 A2 n2 c2, e = .returned (.agg #[.int .i64 k, .int .u8 f, .slice A1 n1 c1, .slice A2 n2 c2]) ∧ NodeV w' (fun x => B ≤ x ∧ x < w'.heap.size) (severalN kind kids) [.int .i64 k, .int .u8 f, .slice A1 n1 c1, .slice A2 n2 c2] ∧ Keeps (· < w.heap.size) w w' := by
  obtain ⟨g, cp, hA⟩ := ownB_posS h.own hn
  injection hA with hA _ hc
  subst hA hc
  obtain ⟨cs0, hcs0⟩ : ∃ cs, css[0]? = some cs := ⟨_, List.getElem?_eq_getElem (by rw [h.len]; exact hn)⟩
  obtain ⟨n0, hn0⟩ : ∃ n, kids[0]? = some n := ⟨_, List.getElem?_eq_getElem hn⟩
  have hN0 := h.nod 0 n0 cs0 hn0 hcs0
  obtain ⟨k, f, A1, n1, c1, A2, n2, c2, rfl⟩ := hN0.form
  have hg := (ownB_lt h.own (b := g) rfl).2
  refine (query_several kind g c kids.length k f A1 A2 n1 c1 n2 c2 w hn hg ?_).mono ?_
  · intro j v hv
    have hc := own_newsS h.own j v (by
      cases css with
      | nil => simp at hcs0
      | cons a css =>
        simp only [List.getElem?_cons_zero, Option.some.injEq] at hcs0
        subst hcs0
        rw [List.flatten_cons, List.getElem?_append_left (List.getElem?_eq_some_iff.1 hv).1]
        exact hv)
    rw [Addr.add_lit] at hc
    exact hc
  · rintro e w' ⟨rfl, hk⟩
    have hs := hk.size
    by_cases h1 : kids.length = 1
    · refine ⟨k, f, A1, n1, c1, A2, n2, c2, by rw [if_pos h1], ?_, hk⟩
      have : severalN kind kids = n0 := by
        match kids, h1, hn0 with
        | [n], _, hn0 => simpa [severalN] using hn0
      rw [this]
      exact hN0.keep (hk.mono fun x hx => hx.2.1) (fun x hx => ⟨hx.1, by omega⟩)
    · refine ⟨kind, 0, none, 0, 0, some ⟨g, 0, none⟩, kids.length, c, by rw [if_neg h1], ?_, hk⟩
      have : severalN kind kids = .mk kind 0 [] kids := by
        match kids, h1, hn with
        | a :: b :: l, _, _ => rfl
      rw [this]
      refine NodeV.mk kind 0 [] kids css _ _ ⟨none, 0, rfl, Nat.le_refl _, Nat.zero_le _, rfl, fun h => absurd h (Nat.lt_irrefl _)⟩ ?_ h.len (fun i n cs h3 h4 => (h.nod i n cs h3 h4).keep (hk.mono fun x hx => hx.2.1) (fun x hx => ⟨hx.1, by omega⟩))
      obtain ⟨A', cap, e, a, b, c', d⟩ := (ownB_slAtS h.own).keep hk (fun x hx => hx.2)
      exact ⟨A', cap, e, a, b, c', fun hn => by obtain ⟨b', o, e', hb, hc⟩ := d hn; exact ⟨b', o, e', ⟨hb.1, by omega⟩, hc⟩⟩
end Go.Proofs.YtbepgbkbpkaodaaDoor
