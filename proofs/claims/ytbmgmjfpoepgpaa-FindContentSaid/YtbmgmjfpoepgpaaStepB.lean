/- Contracts of package step: made. -/
import Derived.Test.YtbmgmjfpoepgpaaStepA
import Derived.Test.YtbmgmjfpoepgpaaLaw
namespace Go.Proofs.Ytbmgmjfpoepgpaa
open Go.RowKit

theorem Try.infoU : (Try.prog.info? 55).map (fun i => (i.zero, i.size, i.bytes)) = some (some (.int .u32 0), 1, 4) := by kernel_rfl

set_option maxHeartbeats 400000 in
theorem step_made_err {w : World} {r m : Nat} {g : Value} {σ : RunS} (h : RunAt w r m g σ) (hg : ∀ b, g.ownBlock = some b → b ≠ r) (v : Int) :
    Calls Try.prog 54 #[.pointer (some ⟨r, 0, none⟩), .int .u32 v, .int .i64 2] w fun e w' =>
      e = .returned (.tuple #[]) ∧ RunAt w' r m g (σ.made v 2) ∧ Keeps (· ≠ r) w w' := by
  have ⟨c0, c1, c2, c3, c4, c5, c6, c7, f⟩ := h.facts
  have H := hid h
  have HG := hid hg
  clear h hg
  refine calls_hide fun R' hR' => ?_
  go_enter Try.func54, Try.ntmps54
  go_wp2
  go_end0
  refine hR'.out _ _ ⟨rfl, ?_, by exact ((Keeps.refl _ _).setCell (by simp) _).setCell (by simp) _⟩
  have e : σ.made v 2 = { σ with err := 2, off := true } := by simp [RunS.made]
  rw [e]
  exact H.out.next (((Keeps.refl _ _).setCell (by simp) _).setCell (by simp) _) (by simpa using (H.out.obj.set 7 (.int .i64 2)).set 5 (.bool true)) HG.out rfl (by simpa using H.out.le) (fun h => h)

set_option maxHeartbeats 400000 in
theorem step_made_ok {w : World} {r m : Nat} {g : Value} {σ : RunS} (h : RunAt w r m g σ) (hg : ∀ b, g.ownBlock = some b → b ≠ r) (v : Int) (hv : U32 v)
    (hlt : σ.log.length < 1099511627776) (hmay : σ.may = false) :
    Calls Try.prog 54 #[.pointer (some ⟨r, 0, none⟩), .int .u32 v, .int .i64 0] w fun e w' =>
      e = .returned (.tuple #[]) ∧ (∃ g', RunAt w' r m g' (σ.made v 0) ∧ (∀ b, g'.ownBlock = some b → b ≠ r) ∧ (g'.ownBlock = g.ownBlock ∨ ∃ b, g'.ownBlock = some b ∧ w.heap.size ≤ b)) ∧
      Keeps (fun b => b < w.heap.size ∧ b ≠ r ∧ some b ≠ g.ownBlock) w w' := by
  have ⟨c0, c1, c2, c3, c4, c5, c6, c7, f⟩ := h.facts
  have hown := h.log
  have hle := h.le
  have hr := h.obj.lt
  obtain ⟨i0, hi, hz0, hz1, hz2⟩ := info_parts Try.infoU
  have H := hid h
  have HG := hid hg
  have HM := hid hmay
  clear h hg hmay
  refine calls_hide fun R' hR' => ?_
  go_enter Try.func54, Try.ntmps54
  go_wp2_with (at_builtin; refine wpList_append_x rfl _ _ 32 rfl 55 i0 (.int .u32 0) 1 4 Try.underlying32 hi hz0 hz1 hz2 rfl (by decide) g σ.log.length (σ.log.map (Value.int .u32)) rfl (hown.alloc _) ⟨w.heap.size, 0, none⟩ 1 1 [.int .u32 v] rfl rfl ?c1 ?c2 ?c3 ?c4 ?_)
  case c1 => exact cell_one_new _ _ _
  case c2 => intro u hu; simp at hu; subst hu; rfl
  case c3 => unfold maxLen; omega
  case c4 => omega
  intro v' w1 hown' hgr hfr
  obtain ⟨a', cap', hv'⟩ := own_len hown'
  subst hv'
  have hb1 : Blk w1 r _ := (H.out.obj.alloc (.cells #[.int .u32 v] 55)).grown hgr (fun e => HG.out r e.symm rfl)
  have d1 := hb1.cell 1
  have d2 := hb1.cell 2
  have fd := hb1.free
  have hsz := hgr.size
  simp only [List.getElem?_cons_zero, List.getElem?_cons_succ] at d1 d2
  have HO := hid hown'
  have HGR := hid hgr
  have HF := hid hfr
  clear hown' hgr hfr hown hi hz0 hz1 hz2 f
  go_wp2
  go_end0
  have e : σ.made v 0 = { σ with log := σ.log ++ [v], pos := σ.pos + 1 } := by simp [RunS.made]
  have hnr : ∀ b, (Value.slice a' (σ.log.length + 1) cap').ownBlock = some b → b ≠ r := by
    intro b hb
    rcases HF.out with h1 | ⟨b', h1, h2⟩
    · exact HG.out b (h1 ▸ hb)
    · rw [h1] at hb; injection hb with hb; omega
  refine hR'.out _ _ ⟨rfl, ⟨_, ?_, hnr, ?_⟩, ?_⟩
  · rw [e]
    refine ⟨by simpa using (hb1.set 1 (.slice a' (σ.log.length + 1) cap')).set 2 (.int .i64 ((σ.pos : Int) + 1)), ?_, by simp; omega, ?_, ?_⟩
    · have := own_of_keep HO.out (((Keeps.refl (· ≠ r) w1).setCell (p := ⟨r, 1, none⟩) (by simp) (.slice a' (σ.log.length + 1) cap')).setCell (p := ⟨r, 2, none⟩) (by simp) (.int .i64 ((σ.pos : Int) + 1))) hnr
      simpa using this
    · have := HM.out
      simp [this]; omega
    · intro x hx
      rcases List.mem_append.1 hx with hx | hx
      · exact H.out.range x hx
      · simp at hx; exact hx ▸ hv
  · rcases HF.out with h1 | ⟨b', h1, h2⟩
    · exact Or.inl h1
    · exact Or.inr ⟨b', h1, by omega⟩
  · have k1 : Keeps (fun b => b < w.heap.size ∧ b ≠ r ∧ some b ≠ g.ownBlock) w w1 :=
      ((Keeps.refl _ w).alloc (fun b hb => hb.1) _).grown (fun b hb => by simp; omega) HGR.out (fun k hk hb => hb.2.2 hk.symm)
    exact (k1.setCell (by simp) _).setCell (by simp) _
end Go.Proofs.Ytbmgmjfpoepgpaa
