/- Layer 3's statements: a Step with the closure program$1; the example 'fixed'. -/
import Derived.Test.YtjnaibmnpajfdaaInsC
import Derived.Test.YtjnaibmnpajfdaaPlainA
import Derived.Shelf.Abstract
namespace Go.Proofs.Ytjnaibmnpajfdaa
open Go.RowKit

theorem enters_prog : ∀ (args : Array Value) (w : World), (callFunc 53 args).run Try.prog w = .ok (.enter 53 args) w :=
  enters_of Try.func53 (by kernel_rfl) rfl

theorem step_prog {w : World} {K : Nat → Prop} {r m c : Nat} {s : St} (h : RM w K r m c s) (hlen : s.r.log.length < 1099511627776) (lb : Nat) (v : Value) (l : List InsM) (hwf : ∀ x ∈ l, x.wf)
    (hbox : Blk w lb [v]) (hlb : K lb) (hsl : SlAt w K 3 v l.length (l.flatMap InsM.cells)) :
    Calls Try.prog 19 #[.pointer (some ⟨r, 0, none⟩), .func (.func 53) #[] #[.pointer (some ⟨lb, 0, none⟩)]] w fun e w' =>
      e = .returned (.bool (s.stepP (progT l 0 0)).r.over) ∧ RM w' K r m c (s.stepP (progT l 0 0)) ∧ Keeps K w w' := by
  cases ho : s.r.over
  · have e : s.stepP (progT l 0 0) = (s.step (progT l 0 0)).2 := by unfold St.stepP; rw [if_neg (by rw [ho]; decide)]
    rw [e]
    refine (run_step h ho hlen _ _ enters_prog (progT l 0 0) (fun w2 => Keeps K w w2) ?_).mono ?_
    · intro w1 hk hR
      refine (prog_call hR lb v l hwf (hbox.keep hk hlb) hlb (hsl.keep hk fun _ h => h)).mono ?_
      rintro e w2 ⟨rfl, h1, h2⟩
      exact ⟨rfl, h1, hk.trans h2⟩
    · rintro e w2 ⟨rfl, h1, w3, h2, h3⟩
      exact ⟨rfl, h1, h2.trans (keeps_one h3 h.kr)⟩
  · have e : s.stepP (progT l 0 0) = s := by unfold St.stepP; rw [if_pos ho]
    rw [e, ho]
    obtain ⟨g, h1, _⟩ := h.run
    refine (run_step_over h1 ho _).mono ?_
    rintro e w2 ⟨rfl, rfl⟩
    exact ⟨rfl, h, Keeps.refl _ _⟩

/-- a Step with a program just made: the box of its list is new -/
theorem step_fresh {w : World} {K : Nat → Prop} {r m c : Nat} {s : St} (h : RM w K r m c s) (hlen : s.r.log.length < 1099511627776) (v : Value) (l : List InsM) (hwf : ∀ x ∈ l, x.wf)
    (hsl : SlAt w K 3 v l.length (l.flatMap InsM.cells)) :
    Calls Try.prog 19 #[.pointer (some ⟨r, 0, none⟩), .func (.func 53) #[] #[.pointer (some ⟨w.heap.size, 0, none⟩)]]
      (w.alloc (.cells #[v] 22)) fun e w' =>
      e = .returned (.bool (s.stepP (progT l 0 0)).r.over) ∧ RM w' K r m c (s.stepP (progT l 0 0)) ∧ Keeps K w w' := by
  refine (step_prog (h.more (.cells #[v] 22)) hlen w.heap.size v l hwf (Blk.new w [v] 22) (Or.inr rfl)
    ((hsl.keep ((Keeps.refl (· < w.heap.size) w).alloc (fun b hb => hb) (.cells #[v] 22)) h.lt).mono fun b hb => Or.inl hb)).mono ?_
  rintro e w' ⟨rfl, h1, h2⟩
  exact ⟨rfl, h1.mono fun b hb => Or.inl hb, ((Keeps.refl K w).alloc h.lt _).trans (h2.mono fun b hb => Or.inl hb)⟩
end Go.Proofs.Ytjnaibmnpajfdaa
