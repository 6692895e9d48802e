/- A program runs to its end: 'whole' of the statements of a layer. -/
import Derived.Test.YtbmgmjfpoepgpaaDoorRun
import Derived.Test.YtbmgmjfpoepgpaaDoorPlainC
import Derived.Test.YtbmgmjfpoepgpaaDoorInit
namespace Go.Proofs.YtbmgmjfpoepgpaaDoor
open Go.RowKit

set_option maxRecDepth 100000 in
set_option maxHeartbeats 1000000 in
theorem whole09 {w : World} {K : Nat → Prop} {m c : Nat} {μ : MemS} (hm : MemAt w m c μ) (hKm : ¬ K m) (hKc : ¬ K c) (hlt : ∀ b, K b → b < w.heap.size) (f : FuncId) (cap : Array Value)
    (hent : ∀ (args : Array Value) (w : World), (callFunc f args).run Tryd.prog w = .ok (.enter f args) w) {α : Type} (t : Tree α) {x : α} {cs' : List Int} {n : Nat}
    (hid0 : t.ideal μ.cells = some (x, cs', n)) (hn : n ≤ 262143) (J : World → Prop) (Out : Nat → α → World → Prop) (hJ : J w) (hJk : ∀ w1 w2, J w1 → Keeps K w1 w2 → J w2) (hOk : ∀ r y w1 w2, ¬ K r → Out r y w1 → Keeps (· ≠ r) w1 w2 → Out r y w2)
    (hp : ∀ w1 r s1, J w1 → RM w1 K r m c s1 → Calls Tryd.prog f (#[.pointer (some ⟨r, 0, none⟩)] ++ cap) w1 fun e w2 => e = .returned (.tuple #[]) ∧ RM w2 K r m c (t.exec s1).2 ∧ J w2 ∧ Out r (t.exec s1).1 w2) :
    Calls Tryd.prog 35 #[.pointer (some ⟨m, 0, none⟩), .func (.func f) #[] cap] w fun e w' =>
      e = .returned (.tuple #[]) ∧ (∃ μ', MemAt w' m c μ' ∧ μ'.cells = cs') ∧ J w' ∧ (∃ r, ¬ K r ∧ Out r x w') ∧ w.heap.size ≤ w'.heap.size := by
  have HM := hid hm
  have HJ := hid hJ
  have HJk := hid hJk
  have HOk := hid hOk
  have HP := hid hp
  have HE := hid hent
  have HI := hid hid0
  have HLT := hid hlt
  clear hm hJ hJk hOk hp hent hid0 hlt
  refine calls_hide fun R' hR' => ?_
  go_enter Tryd.func35, Tryd.ntmps35
  go_wp2_with fail
  refine (step_new w m).mono ?_
  rintro e w1 ⟨rfl, hr1, hk1, hz1⟩
  have hR1 : RM w1 K w.heap.size m c ⟨run0, μ⟩ := RM.init HM.out hr1 hk1 (fun b hb => ⟨HLT.out b hb, fun e => hKm (e ▸ hb), fun e => hKc (e ▸ hb)⟩)
  have HR1 := hid hR1
  have HJ1 := hid (HJk.out _ _ HJ.out (hk1.mono HLT.out))
  have HZ1 := hid (show w.heap.size ≤ w1.heap.size by omega)
  clear hr1 hk1 hz1 hR1
  generalize hr : w.heap.size = r at *
  have Hr := hid hr
  clear hr
  go_wp2_with fail
  go_loopw [7] (fun i wr => ∃ (j n' : Nat) (s : St) (rest : Tree α), i = .int .i64 j ∧ j ≤ n ∧ Way t s rest ∧ rest.ideal s.m.cells = some (x, cs', n') ∧ s.r.log.length = j ∧ ((j = 0 ∧ n' = n) ∨ (0 < j ∧ j + n' = n ∧ 1 ≤ n')) ∧
      RM wr K r m c s ∧ J wr ∧ r ≤ wr.heap.size) (fun i _ => 262144 - (intOf i).toNat)
  case atStart => exact ⟨0, n, _, _, rfl, Nat.zero_le _, way_start t μ false false false 0, by rw [Tree.ideal_norm]; exact HI.out, rfl, Or.inl ⟨rfl, rfl⟩, HR1.out, HJ1.out, HZ1.out⟩
  case round =>
    obtain ⟨j, n', s, rest, rfl, hj, hway, hideal, hlen, hjn, hR, hJr, hZ⟩ := hrel
    have hj65 : (j : Int) < 262144 := by have := hj; have := hn; omega
    have HWY := hid hway
    have HID := hid hideal
    have HLN := hid hlen
    have HJN := hid hjn
    have HR := hid hR
    have HJr := hid hJr
    have HZ := hid hZ
    clear hway hideal hlen hjn hR hJr hZ
    go_wp2_with fail
    refine (run_step HR.out HWY.out.over (by have := HLN.out; omega) f cap HE.out t (fun w2 => J w2 ∧ Out r (s.step t).1 w2 ∧ r ≤ w2.heap.size) ?_).mono ?_
    · intro w2 hk2 hR2
      refine (HP.out w2 r _ (HJk.out _ _ HJr.out hk2) hR2).mono ?_
      rintro e w3 ⟨rfl, h1, h2, h3⟩
      exact ⟨rfl, h1, h2, h3, Nat.le_of_lt h1.lts.1⟩
    · rintro e w9 ⟨rfl, hR9, w3, ⟨hJ3, hO3, hZ3⟩, hk9⟩
      have hJ9 := HJk.out _ _ hJ3 (keeps_one hk9 HR.out.kr)
      have hO9 := HOk.out _ _ _ _ HR.out.kr hO3 hk9
      have hZ9 : r ≤ w9.heap.size := Nat.le_trans hZ3 hk9.size
      rcases ideal_step HWY.out HID.out with ⟨q1, q2, q3, q4, q5, q6⟩ | ⟨q1, q2, rest', q3, q4, q5⟩
      · rw [q2]
        rw [q6] at hO9
        generalize (s.step t).2 = s' at *
        have HR9 := hid hR9
        have HJ9 := hid hJ9
        have HO9 := hid hO9
        have HZ9 := hid hZ9
        have Q3 := hid q3
        have Q4 := hid q4
        clear hR9 hJ9 hO9 hZ9 q2 q3 q4 q5 q6 hJ3 hO3 hZ3 hk9
        go_wp2_with fail
        go_end0
        exact hR'.out _ _ ⟨rfl, ⟨s'.m, HR9.out.mem, Q4.out⟩, HJ9.out, ⟨r, HR.out.kr, HO9.out⟩, HZ9.out⟩
      · rw [q2]
        have HR9 := hid hR9
        have HJ9 := hid hJ9
        have HZ9 := hid hZ9
        have Q3 := hid q3
        have Q4 := hid q4
        have Q5 := hid q5
        clear hR9 hJ9 hO9 hZ9 q2 q3 q4 q5 hJ3 hO3 hZ3 hk9
        go_wp2_with fail
        go_roundw
        case rel => exact ⟨j + 1, n' - 1, _, rest', by go_num, by have := HJN.out; omega, Q3.out, Q4.out, by rw [Q5.out, HLN.out], Or.inr (by have := HJN.out; omega), HR9.out, HJ9.out, HZ9.out⟩
        case measure => simp [intOf]; have := HJN.out; omega
end Go.Proofs.YtbmgmjfpoepgpaaDoor
