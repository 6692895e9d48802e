/- A run beside a row of the caller's own that grows by appends. -/
import Derived.Test.YtbmgmjfpoepgpaaRun
import Derived.Test.YtbmgmjfpoepgpaaLaw
namespace Go.Proofs.Ytbmgmjfpoepgpaa
open Go.RowKit

/-- a run, and a row of the caller's own that grew by an append -/
theorem RM.appendR {w w1 : World} {K : Nat → Prop} {v v' : Value} {r m c : Nat} {s : St} (h : RM w (fun b => K b ∨ v.ownBlock = some b) r m c s) (hg : w.grownBy w1 v.ownBlock)
    (hf : v'.ownBlock = v.ownBlock ∨ ∃ b, v'.ownBlock = some b ∧ w.heap.size ≤ b) (hlt : ∀ b, v'.ownBlock = some b → b < w1.heap.size) :
    RM w1 (fun b => K b ∨ v'.ownBlock = some b) r m c s := by
  have hl := h.lts
  have hk : Keeps (fun b => b < w.heap.size ∧ some b ≠ v.ownBlock) w w1 := ⟨hg.os, hg.tape, hg.output, hg.size, fun b hb => hg.block b hb.1 hb.2⟩
  have h1 := h.keep _ hk (fun b hb hn => ⟨hb, fun e => hn (Or.inr e.symm)⟩)
  obtain ⟨g, hr, ho⟩ := h1.run
  obtain ⟨g0, hr0, ho0⟩ := h.run
  have e : g = g0 := by
    have a := hr.obj.inj (hr0.obj.keep hk ⟨hl.1, fun e => h.kr (Or.inr e.symm)⟩)
    simp only [List.cons.injEq] at a
    exact a.2.1
  subst e
  have key : ∀ b, b < w.heap.size → ¬ (K b ∨ v.ownBlock = some b) → ¬ (K b ∨ v'.ownBlock = some b) := by
    rintro b hb hn (e | e)
    · exact hn (Or.inl e)
    · rcases hf with h2 | ⟨b', h2, h3⟩
      · exact hn (Or.inr (h2 ▸ e))
      · rw [h2] at e; injection e with e; omega
  refine ⟨⟨g, hr, fun k hk' => ⟨(ho k hk').1, (ho k hk').2.1, (ho k hk').2.2.1, key k (own_ne hr0.log k hk') (ho k hk').2.2.2⟩⟩, h1.mem, h.rm, h.rc, key _ hl.1 h.kr, key _ hl.2.1 h.km, key _ hl.2.2 h.kc, ?_⟩
  rintro b (e | e)
  · have := h.lt b (Or.inl e); have := hk.size; omega
  · exact hlt b e

/-- what of K is kept by it -/
theorem keepsR_append {w w1 : World} {K : Nat → Prop} {v : Value} (hK : ∀ b, K b → b < w.heap.size) (hn : ∀ b, v.ownBlock = some b → ¬ K b) (hg : w.grownBy w1 v.ownBlock) : Keeps K w w1 :=
  ⟨hg.os, hg.tape, hg.output, hg.size, fun b hb => hg.block b (hK b hb) (fun e => hn b e.symm hb)⟩


/-- a row of the caller's own: numbers, apart from what is guarded -/
def RowOwn (w : World) (K : Nat → Prop) (g : Value) (xs : List Int) : Prop := w.ownsRow 0 55 1 g xs.length (xs.map (Value.int .u32)) ∧ ∀ b, g.ownBlock = some b → ¬ K b
theorem RowOwn.nil (w : World) (K : Nat → Prop) : RowOwn w K (.slice none 0 0) [] := ⟨⟨rfl, Or.inl ⟨rfl, rfl⟩⟩, fun b hb => (by cases hb)⟩
theorem RowOwn.form {w : World} {K : Nat → Prop} {g : Value} {xs : List Int} (h : RowOwn w K g xs) : ∃ A cp, g = .slice A xs.length cp := by
  rcases h.1.2 with ⟨h1, h2⟩ | ⟨b, cap, _, h1, _⟩
  · exact ⟨_, _, by rw [h1, h2]⟩
  · exact ⟨_, _, h1⟩
theorem RowOwn.slAt {w : World} {K L : Nat → Prop} {g : Value} {xs : List Int} (h : RowOwn w K g xs) (hL : ∀ b, g.ownBlock = some b → L b) : SlAt w L 1 g xs.length (xs.map (Value.int .u32)) := by
  have hl := h.1.1
  rcases h.1.2 with ⟨h1, h2⟩ | ⟨b, cap, cur, h1, _, h3, h4, h5, h6, h7⟩
  · exact ⟨none, 0, by rw [h1, h2], by omega, Nat.zero_le _, hl, fun hn => by omega⟩
  · refine ⟨some ⟨b, 0, none⟩, cap, h1, h4, h5, hl, fun hn => ⟨b, 0, rfl, hL b (by rw [h1]; rfl), fun j u hu => ?_⟩⟩
    have := h.1.cells (g := b) (by rw [h1]; rfl) j u hu
    have ea : (⟨b, 0, none⟩ : Addr).add j = ⟨b, j, none⟩ := by unfold Addr.add; split <;> simp_all
    rw [Nat.zero_add, ← ea]; exact this
end Go.Proofs.Ytbmgmjfpoepgpaa
