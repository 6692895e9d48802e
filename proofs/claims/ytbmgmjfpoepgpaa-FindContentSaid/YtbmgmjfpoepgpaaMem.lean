/- Contracts of package mem. -/
import Derived.Test.YtbmgmjfpoepgpaaChecked
import Derived.Test.YtbmgmjfpoepgpaaBase
import Derived.BigQuiet
namespace Go.Proofs.Ytbmgmjfpoepgpaa
open Go.RowKit

theorem MemAt.keep {K : Nat → Prop} {w w' : World} {m c : Nat} {μ : MemS} (h : MemAt w m c μ) (k : Keeps K w w') (hm : K m) (hc : K c) : MemAt w' m c μ :=
  ⟨h.obj.keep k hm, h.cells.keep k hc, h.ne, h.small, h.pos, h.range⟩

theorem MemS.at_range {w : World} {m c : Nat} {μ : MemS} (h : MemAt w m c μ) {a : Int} (h0 : 0 ≤ a) (h1 : a < μ.cells.length) : U32 (μ.at a) := by
  refine h.range _ ?_
  unfold MemS.at
  rw [List.getD_eq_getElem?_getD, List.getElem?_eq_getElem (by omega), Option.getD_some]
  exact List.getElem_mem _

set_option maxHeartbeats 400000 in
theorem mem_load {w : World} {m c : Nat} {μ : MemS} (h : MemAt w m c μ) (a : Int) :
    Calls Try.prog 53 #[.pointer (some ⟨m, 0, none⟩), .int .i64 a] w fun e w' =>
      e = .returned (.tuple #[.int .u32 (if μ.inb a then μ.at a else 0), .int .i64 (if μ.inb a then 0 else 2)]) ∧ MemAt w' m c (μ.load a) ∧ Keeps (· ≠ m) w w' := by
  have hs := h.small
  have c0 := h.obj.cell 0
  have c1 := h.obj.cell 1
  have f1 := h.obj.free 1
  have hne := h.ne
  simp only [List.getElem?_cons_zero, List.getElem?_cons_succ] at c0 c1
  by_cases h0 : 0 ≤ a
  · by_cases h1 : a < μ.cells.length
    · have hin : μ.inb a = true := by simp [MemS.inb, h0, h1]
      have cx : w.cell? ⟨c, a.toNat, none⟩ = some (.int .u32 (μ.at a)) := by
        rw [h.cells.cell]; unfold MemS.at; rw [List.getElem?_map, List.getElem?_eq_getElem (by omega), List.getD_eq_getElem?_getD, List.getElem?_eq_getElem (by omega)]; rfl
      have H := hid h
      have Hin := hid hin
      clear h hin
      refine calls_hide fun R' hR' => ?_
      go_enter Try.func53, Try.ntmps53
      go_wp2
      refine hR'.out _ _ ⟨by rw [Hin.out]; rfl, ?_, (Keeps.refl _ _).setCell (by simp) _⟩
      unfold MemS.load
      rw [Hin.out]
      exact ⟨by simpa using H.out.obj.set 1 (.int .i64 (wrap64 (μ.loads + 1))), H.out.cells.set_ne _ (fun e => H.out.ne e.symm), H.out.ne, H.out.small, H.out.pos, H.out.range⟩
    · have hin : μ.inb a = false := by simp [MemS.inb, h1]
      have H := hid h
      have Hin := hid hin
      clear h hin
      refine calls_hide fun R' hR' => ?_
      go_enter Try.func53, Try.ntmps53
      go_wp2
      refine hR'.out _ _ ⟨by rw [Hin.out]; rfl, ?_, Keeps.refl _ _⟩
      unfold MemS.load
      rw [Hin.out]
      exact H.out
  · have hin : μ.inb a = false := by simp [MemS.inb, h0]
    have H := hid h
    have Hin := hid hin
    clear h hin
    refine calls_hide fun R' hR' => ?_
    go_enter Try.func53, Try.ntmps53
    go_wp2
    refine hR'.out _ _ ⟨by rw [Hin.out]; rfl, ?_, Keeps.refl _ _⟩
    unfold MemS.load
    rw [Hin.out]
    exact H.out

set_option maxHeartbeats 400000 in
theorem mem_store {w : World} {m c : Nat} {μ : MemS} (h : MemAt w m c μ) (a v : Int) (hv : U32 v) :
    Calls Try.prog 42 #[.pointer (some ⟨m, 0, none⟩), .int .i64 a, .int .u32 v] w fun e w' =>
      e = .returned (.int .i64 (if μ.inb a then 0 else 2)) ∧ MemAt w' m c (μ.store a v) ∧ Keeps (fun b => b ≠ m ∧ b ≠ c) w w' := by
  have hs := h.small
  have c0 := h.obj.cell 0
  have c2 := h.obj.cell 2
  have f2 := h.obj.free 2
  have hne := h.ne
  simp only [List.getElem?_cons_zero, List.getElem?_cons_succ] at c0 c2
  by_cases h0 : 0 ≤ a
  · by_cases h1 : a < μ.cells.length
    · have hin : μ.inb a = true := by simp [MemS.inb, h0, h1]
      have cx : w.cell? ⟨c, a.toNat, none⟩ = some (.int .u32 (μ.at a)) := by
        rw [h.cells.cell]; unfold MemS.at; rw [List.getElem?_map, List.getElem?_eq_getElem (by omega), List.getD_eq_getElem?_getD, List.getElem?_eq_getElem (by omega)]; rfl
      have fx := h.cells.free a.toNat
      have H := hid h
      have Hin := hid hin
      clear h hin
      refine calls_hide fun R' hR' => ?_
      go_enter Try.func42, Try.ntmps42
      go_wp2
      refine hR'.out _ _ ⟨by rw [Hin.out]; rfl, ?_, ((Keeps.refl _ _).setCell (by simp) _).setCell (by simp) _⟩
      unfold MemS.store
      rw [Hin.out]
      refine ⟨?_, ?_, H.out.ne, by simpa using H.out.small, by simpa using H.out.pos, ?_⟩
      · simpa using (H.out.obj.set 2 (.int .i64 (wrap64 (μ.stores + 1)))).set_ne (a := ⟨c, a.toNat, none⟩) (.int .u32 v) H.out.ne
      · simpa [List.map_set] using (H.out.cells.set_ne (a := ⟨m, 2, none⟩) (.int .i64 (wrap64 (μ.stores + 1))) (fun e => H.out.ne e.symm)).set a.toNat (.int .u32 v)
      · intro x hx
        rcases List.mem_or_eq_of_mem_set hx with hx | hx
        · exact H.out.range x hx
        · exact hx ▸ hv
    · have hin : μ.inb a = false := by simp [MemS.inb, h1]
      have H := hid h
      have Hin := hid hin
      clear h hin
      refine calls_hide fun R' hR' => ?_
      go_enter Try.func42, Try.ntmps42
      go_wp2
      refine hR'.out _ _ ⟨by rw [Hin.out]; rfl, ?_, Keeps.refl _ _⟩
      unfold MemS.store
      rw [Hin.out]
      exact H.out
  · have hin : μ.inb a = false := by simp [MemS.inb, h0]
    have H := hid h
    have Hin := hid hin
    clear h hin
    refine calls_hide fun R' hR' => ?_
    go_enter Try.func42, Try.ntmps42
    go_wp2
    refine hR'.out _ _ ⟨by rw [Hin.out]; rfl, ?_, Keeps.refl _ _⟩
    unfold MemS.store
    rw [Hin.out]
    exact H.out
end Go.Proofs.Ytbmgmjfpoepgpaa
