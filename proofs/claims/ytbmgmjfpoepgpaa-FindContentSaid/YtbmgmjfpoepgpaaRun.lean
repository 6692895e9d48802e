/- A toolkit: how a run stays one over the caller's own doings; slices that read as lists. -/
import Derived.Test.YtbmgmjfpoepgpaaStepF
import Derived.Test.YtbmgmjfpoepgpaaSl
namespace Go.Proofs.Ytbmgmjfpoepgpaa
open Go.RowKit

section
variable {w w' : World} {K K' : Nat → Prop} {r m c : Nat} {s : St}

theorem RM.mono (h : RM w K r m c s) (hK : ∀ b, K' b → K b) : RM w K' r m c s := by
  obtain ⟨g, h1, h2⟩ := h.run
  exact ⟨⟨g, h1, fun k hk => ⟨(h2 k hk).1, (h2 k hk).2.1, (h2 k hk).2.2.1, fun e => (h2 k hk).2.2.2 (hK _ e)⟩⟩, h.mem, h.rm, h.rc, fun e => h.kr (hK _ e), fun e => h.km (hK _ e), fun e => h.kc (hK _ e), fun b hb => h.lt b (hK b hb)⟩

/-- nothing of the run's or the memory's is touched -/
theorem RM.keep (h : RM w K r m c s) (L : Nat → Prop) (k : Keeps L w w') (hL : ∀ b, b < w.heap.size → ¬ K b → L b) : RM w' K r m c s := by
  obtain ⟨g, h1, h2⟩ := h.run
  have hr := hL r h1.obj.lt h.kr
  have hm := hL m h.mem.obj.lt h.km
  have hc := hL c h.mem.cells.lt h.kc
  exact ⟨⟨g, h1.keep k hr (fun b hb => hL b (own_ne h1.log b hb) (h2 b hb).2.2.2), h2⟩, h.mem.keep k hm hc, h.rm, h.rc, h.kr, h.km, h.kc, fun b hb => by have := h.lt b hb; have := k.size; omega⟩
theorem RM.below (h : RM w K r m c s) (k : Keeps (· < w.heap.size) w w') : RM w' K r m c s := h.keep _ k fun _ hb _ => hb
theorem RM.setK (h : RM w K r m c s) {a : Addr} (ha : K a.block) (v : Value) : RM (w.setCell a v) K r m c s :=
  h.keep (· ≠ a.block) ((Keeps.refl _ _).setCell (by simp) _) fun _ _ hb e => hb (e ▸ ha)
theorem RM.drewN (h : RM w K r m c s) (n : Nat) : RM (w.drewN n) K r m c s := h.keep (fun _ => True) ((Keeps.refl _ _).drewN n) fun _ _ _ => trivial
theorem RM.drew (h : RM w K r m c s) : RM w.drew K r m c s := h.keep (fun _ => True) ((Keeps.refl _ _).drew) fun _ _ _ => trivial
theorem RM.alloc (h : RM w K r m c s) (o : Obj) : RM (w.alloc o) K r m c s := h.below ((Keeps.refl _ _).alloc (fun _ hb => hb) o)
theorem RM.lts (h : RM w K r m c s) : r < w.heap.size ∧ m < w.heap.size ∧ c < w.heap.size := by
  obtain ⟨g, h1, _⟩ := h.run
  exact ⟨h1.obj.lt, h.mem.obj.lt, h.mem.cells.lt⟩
/-- a new block is put under guard -/
theorem RM.more (h : RM w K r m c s) (o : Obj) : RM (w.alloc o) (fun b => K b ∨ b = w.heap.size) r m c s := by
  have hl := h.lts
  obtain ⟨g, h1, h2⟩ := (h.alloc o).run
  obtain ⟨g0, h10, h20⟩ := h.run
  have e : g = g0 := by
    have a := h1.obj.inj (h10.obj.alloc o)
    simp only [List.cons.injEq] at a
    exact a.2.1
  subst e
  refine ⟨⟨g, h1, fun k hk => ⟨(h2 k hk).1, (h2 k hk).2.1, (h2 k hk).2.2.1, ?_⟩⟩, (h.alloc o).mem, h.rm, h.rc, ?_, ?_, ?_, ?_⟩
  · rintro (e | e)
    · exact (h2 k hk).2.2.2 e
    · have := own_ne h10.log k hk; omega
  · rintro (e | e); exact h.kr e; omega
  · rintro (e | e); exact h.km e; omega
  · rintro (e | e); exact h.kc e; omega
  · rintro b (e | e)
    · have := h.lt b e; simp; omega
    · simp; omega
/-- all blocks from B on that are new are put under guard -/
theorem RM.moreB (h : RM w K r m c s) (k : Keeps (· < w.heap.size) w w') :
    RM w' (fun b => K b ∨ (w.heap.size ≤ b ∧ b < w'.heap.size)) r m c s := by
  have hl := h.lts
  obtain ⟨g, h1, h2⟩ := (h.below k).run
  obtain ⟨g0, h10, h20⟩ := h.run
  have e : g = g0 := by
    have a := h1.obj.inj (h10.obj.keep k hl.1)
    simp only [List.cons.injEq] at a
    exact a.2.1
  subst e
  have hs := k.size
  refine ⟨⟨g, h1, fun x hk => ⟨(h2 x hk).1, (h2 x hk).2.1, (h2 x hk).2.2.1, ?_⟩⟩, (h.below k).mem, h.rm, h.rc, ?_, ?_, ?_, ?_⟩
  · rintro (e | e)
    · exact (h2 x hk).2.2.2 e
    · have := own_ne h10.log x hk; omega
  · rintro (e | e); exact h.kr e; omega
  · rintro (e | e); exact h.km e; omega
  · rintro (e | e); exact h.kc e; omega
  · rintro b (e | e)
    · have := h.lt b e; omega
    · omega
end

theorem RM.load_u32 {w : World} {K : Nat → Prop} {r m c : Nat} {s : St} (h : RM w K r m c s) (a : Int) : U32 (s.load a).1 := by
  obtain ⟨g, h1, _⟩ := h.run
  unfold St.load
  split
  · split
    · rename_i hi
      have : 0 ≤ a ∧ a < s.m.cells.length := by simpa [MemS.inb] using hi
      exact MemS.at_range h.mem this.1 this.2
    · unfold U32; simp
  · split
    · show U32 (s.r.log.getD s.r.pos 0)
      rw [List.getD_eq_getElem?_getD]
      cases hg : s.r.log[s.r.pos]? with
      | none => unfold U32; simp
      | some x => exact h1.range _ (List.mem_of_getElem? hg)
    · unfold U32; simp
end Go.Proofs.Ytbmgmjfpoepgpaa
