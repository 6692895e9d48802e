/- Layer 17's document: which queries may be. -/
import Derived.Test.YtbepgbkbpkaodaaDoorShowG
import Derived.Test.YtbepgbkbpkaodaaDoorShowE
namespace Go.Proofs.YtbepgbkbpkaodaaDoor
open Go.RowKit

set_option maxRecDepth 100000 in
set_option maxHeartbeats 4000000 in
theorem ref17_May (n : Nd) (w : World) (K : Nat → Prop) (k f : Int) (A1 A2 : Option Addr) (n1 c1 n2 c2 m : Nat) (li o : Int) (hb : ∀ b, K b → b < w.heap.size) (hv : NodeV w K n [.int .i64 k, .int .u8 f, .slice A1 n1 c1, .slice A2 n2 c2]) (ho : NdOk n) (ht : Tot n m) (hm : m ≤ 3000) :
    Calls Tryd.prog 20 #[.agg #[.int .i64 k, .int .u8 f, .slice A1 n1 c1, .slice A2 n2 c2, .int .i64 li, .int .i64 o]] w fun e w' => e = .returned (.bool (mayQ n li o)) ∧ Keeps (· < w.heap.size) w w' := by
  have hkw : Keeps (· < w.heap.size) w (w.alloc (.cells #[.int .i64 k, .int .u8 f, .slice A1 n1 c1, .slice A2 n2 c2, .int .i64 li, .int .i64 o] 28)) := (Keeps.refl _ _).alloc (fun b hb => hb) _
  have hcall := ref17_deep 40 n (w.alloc (.cells #[.int .i64 k, .int .u8 f, .slice A1 n1 c1, .slice A2 n2 c2, .int .i64 li, .int .i64 o] 28)) K k f A1 A2 n1 c1 n2 c2 m (by decide) (fun b h => Nat.lt_of_lt_of_le (hb b h) hkw.size) (hv.keepK hkw hb) ho ht hm
  have hcall : Calls Tryd.prog 38 #[.agg #[.int .i64 k, .int .u8 f, .slice A1 n1 c1, .slice A2 n2 c2], .int .i64 40] (w.alloc (.cells #[.int .i64 k, .int .u8 f, .slice A1 n1 c1, .slice A2 n2 c2, .int .i64 li, .int .i64 o] 28)) fun e w' => e = .returned (.int .i64 (deepN 40 n : Int)) ∧ Keeps (· < (w.alloc (.cells #[.int .i64 k, .int .u8 f, .slice A1 n1 c1, .slice A2 n2 c2, .int .i64 li, .int .i64 o] 28)).heap.size) (w.alloc (.cells #[.int .i64 k, .int .u8 f, .slice A1 n1 c1, .slice A2 n2 c2, .int .i64 li, .int .i64 o] 28)) w' := hcall
  have hmq : mayQ n li o = (decide (0 ≤ li) && decide (li ≤ 64) && (o == 0 || o == 1) && decide (deepN 40 n ≤ 8)) := by
    unfold mayQ
    congr 1
    have := deep_root n
    cases h : okN n 0 with
    | true => exact (decide_eq_true (this.1 h)).symm
    | false => exact (decide_eq_false (fun hc => by rw [this.2 hc] at h; cases h)).symm
  generalize deepN 40 n = dn at *
  generalize mayQ n li o = mq at *
  clear hv hb ho ht
  have Hcall := hid hcall
  have Hkw := hid hkw
  have Hmq := hid hmq
  clear hcall hkw hmq
  refine calls_hide fun R' hR' => ?_
  go_enter Tryd.func20, Tryd.ntmps20
  by_cases h1 : 0 ≤ li
  · have f1 : 0 ≤ li := h1
    by_cases h2 : li ≤ 64
    · have f2 : li ≤ 64 := h2
      by_cases h3 : o = 0 ∨ o = 1
      · have f3 : (o == 0 || o == 1) = true := by rcases h3 with rfl | rfl <;> rfl
        have hmq2 : mq = decide ((dn : Int) ≤ 8) := by
          rw [Hmq.out, decide_eq_true h1, decide_eq_true h2, f3]
          by_cases h : dn ≤ 8
          · rw [decide_eq_true h, decide_eq_true (by omega : (dn : Int) ≤ 8)]; rfl
          · rw [decide_eq_false h, decide_eq_false (by omega : ¬ (dn : Int) ≤ 8)]; rfl
        clear f3
        have Hmq2 := hid hmq2
        clear hmq2
        rcases h3 with rfl | rfl
        all_goals
          go_wp2_with fail
          refine Hcall.out.mono ?_
          rintro e w2 ⟨rfl, hk⟩
          have hk2 := Hkw.out.trans (hk.mono fun b hb => Nat.lt_of_lt_of_le hb Hkw.out.size)
          clear hk
          have Hk2 := hid hk2
          clear hk2
          go_wp2_with fail
          exact hR'.out _ _ ⟨by first | (rw [Hmq2.out]; done) | (rw [Hmq2.out]; rfl), Hk2.out⟩
      · have f3 : (o == 0) = false := by simpa using fun h => h3 (Or.inl h)
        have f4 : (o == 1) = false := by simpa using fun h => h3 (Or.inr h)
        have hno : mq = false := by rw [Hmq.out, f3, f4]; simp
        clear h3
        have Hno := hid hno
        clear hno
        go_wp2_with fail
        exact hR'.out _ _ ⟨by first | (rw [Hno.out]; done) | (rw [Hno.out]; rfl), Hkw.out⟩
    · have hno : mq = false := by rw [Hmq.out, decide_eq_false h2]; simp
      have Hno := hid hno
      clear hno
      go_wp2_with fail
      exact hR'.out _ _ ⟨by first | (rw [Hno.out]; done) | (rw [Hno.out]; rfl), Hkw.out⟩
  · have hno : mq = false := by rw [Hmq.out, decide_eq_false h1]; rfl
    have Hno := hid hno
    clear hno
    go_wp2_with fail
    exact hR'.out _ _ ⟨by first | (rw [Hno.out]; done) | (rw [Hno.out]; rfl), Hkw.out⟩
end Go.Proofs.YtbepgbkbpkaodaaDoor
