/- Plain laws and small contracts for PostNeeds. Printed by gen/needsw.py. -/
import Derived.Test.YtbmgmjfpoepgpaaDoorRefN
import Derived.Test.YtbmgmjfpoepgpaaDoorFits
import Derived.Test.YtbmgmjfpoepgpaaDoorFix09
namespace Go.Proofs.YtbmgmjfpoepgpaaDoor
open Go.RowKit

/-- a plan, or none -/
theorem plan_any (c : ConfM) : ∃ (p : PlanM) (b : Bool), (∀ w, Calls Tryd.prog 9 #[.agg c.list.toArray] w fun e' w' => e' = .returned (.tuple #[p.val, .bool b]) ∧ Keeps (· < w.heap.size) w w') ∧ (b = true → c.ok ∧ c.all ≤ 9000 ∧ p = c.plan) := by
  by_cases h : c.ok ∧ c.all ≤ 65536
  · refine ⟨c.plan, _, fun w => plan_gen c c.plan 0 w (fun w => lay_yes c h.1 h.2 w), fun hb => ?_⟩
    have := of_decide_eq_true hb
    exact ⟨h.1, this.2, rfl⟩
  · refine ⟨PlanM.zero, _, fun w => plan_gen c PlanM.zero 1 w (fun w => lay_no c h w), fun hb => ?_⟩
    have := of_decide_eq_true hb
    omega
/-- the pools of slabs that a configuration lays -/
def ConfM.pools (c : ConfM) : Pools := ⟨fun k => (baseC c k).toNat, fun k => match k with | 0 => c.s0.toNat | 1 => c.s1.toNat | 2 => c.s2.toNat | _ => c.s3.toNat⟩
theorem conf_pools (c : ConfM) (h : c.ok) (hall : c.all ≤ 65536) : c.pools.ok ∧ c.plan.lays c.pools ∧ c.pools.b 3 + 256 * c.pools.n 3 ≤ c.all.toNat ∧ 3 ≤ c.all := by
  obtain ⟨d0, d1, t0, t1, a0, a1, b0, b1, c0, c1, e0, e1, k0, k1, r0, r1⟩ := h
  unfold ConfM.all at hall ⊢
  refine ⟨⟨?_, ?_, ?_, ?_, ?_⟩, ⟨?_, ?_⟩, ?_, ?_⟩
  all_goals (first | (simp only [ConfM.pools, baseC, szC]; omega) | omega | skip)
  · intro k hk
    rcases k_cases hk with rfl | rfl | rfl | rfl <;> simp only [ConfM.pools, baseC, szC, PlanM.bK, ConfM.plan] <;> omega
  · intro k hk
    rcases k_cases hk with rfl | rfl | rfl | rfl <;> simp only [ConfM.pools, sz, PlanM.sK, ConfM.plan] <;> omega

theorem post_init (P : Pools) (hP : P.ok) (N : Nat) (h : P.b 3 + 256 * P.n 3 ≤ N) : PostInv P (List.replicate N 0) (fun _ => 0) (fun _ => none) :=
  ⟨fun _ _ => Nat.zero_le _, fun _ _ _ _ e => (by cases e), fun _ _ _ _ _ _ e => (by cases e), fun k i x a hi _ => by
    have := in_lt hP hi
    rw [List.getElem?_replicate, if_pos (by omega)]⟩
theorem PutHow.a45 {P : Pools} {q q' : Nat → Nat} {T T' : Tails} {u u' : V6} {j : Nat} (h : PutHow P q T u j q' T' u') : u'.a4 = u.a4 ∧ u'.a5 = u.a5 := by
  unfold PutHow at h
  split at h
  · rw [h.1]; exact ⟨rfl, rfl⟩
  · rw [h.2.1]; unfold V6.up; split <;> exact ⟨rfl, rfl⟩
theorem refL_a45 : ∀ (n left k : Nat) (u : V6), (refL n left k u).a4 = u.a4 ∧ (refL n left k u).a5 = u.a5 := by
  intro n
  induction n with
  | zero => intro _ _ _; exact ⟨rfl, rfl⟩
  | succ n ih =>
    intro left k u
    rw [refL]
    split
    · have := ih (sz k - 2) (min (k + 1) 3) (u.up k (szK k))
      rw [this.1, this.2]; unfold V6.up; split <;> exact ⟨rfl, rfl⟩
    · exact ih _ _ _
/-- what words need behind a tail -/
theorem need_tail {p : PlanM} {P : Pools} (hP : P.ok) (hl : p.lays P) {μ : List Int} {q : Nat → Nat} {T : Tails} (hI : PostInv P μ q T) (j : Nat) (z : Int) :
    p.need ((tailOf P (T j) : Nat) : Int) z = refL z.toNat (leftOf (T j)) (classOf (T j)) zerosN := by
  rw [need_eq]
  unfold PlanM.needRef
  cases hTj : T j with
  | none =>
    have e : ((tailOf P none : Nat) : Int) = 0 := rfl
    rw [e, next_zero, if_neg (by decide), if_pos rfl]; rfl
  | some x =>
    obtain ⟨k, i, a⟩ := x
    obtain ⟨hk, hi, ha1, ha2⟩ := hI.slab _ _ _ _ hTj
    have hin : P.In k i (tailOf P (some (k, i, a))) a := ⟨hk, Nat.lt_of_lt_of_le hi (hI.qn k hk), ha2, rfl⟩
    have hx := in_lt hP hin
    have hc := cls_of hP hl hin
    have hz := szK_eq hk
    have hnx : (p.next ((tailOf P (some (k, i, a)) : Nat) : Int)).2 = true := by
      by_cases he : a + 1 < sz k
      · rw [next_mid hP hl hin ha1 he]
      · rw [next_end hP hl hin (by omega)]
    rw [hnx, if_neg (by decide), if_neg (by omega), hc]
    simp only
    rw [show ((k : Int)).toNat = k from by omega, hz, show ((sz k : Int) - 1 - (a : Int)).toNat = sz k - 1 - a from by omega]
    rfl
theorem V6.g_uK (u : V6) {k : Nat} (h : k ≤ 3) : u.g k = u.uK k := by rcases k_cases h with rfl | rfl | rfl | rfl <;> rfl
theorem size_g (p : PlanM) {k : Nat} (h : k ≤ 3) : p.size.g k = p.sK k := by rcases k_cases h with rfl | rfl | rfl | rfl <;> rfl
theorem V6.add_g (u v : V6) (k : Nat) : (u.add v).g k = u.g k + v.g k := by unfold V6.g; split <;> rfl
/-- what is used fits -/
theorem used_fits {p : PlanM} {P : Pools} (hP : P.ok) (hl : p.lays P) {μ : List Int} {q : Nat → Nat} {T : Tails} (hI : PostInv P μ q T) {u : V6} (hu : UsedIs u q) (h4 : u.a4 = 0) (h5 : u.a5 = 0)
    (hs : 0 ≤ p.size.a4 ∧ p.size.a4 ≤ 65536 ∧ 0 ≤ p.size.a5 ∧ p.size.a5 ≤ 65536) (n left c : Nat) :
    ∀ k, k < 6 → 0 ≤ u.g k ∧ u.g k ≤ p.size.g k ∧ p.size.g k ≤ 65536 ∧ 0 ≤ (refL n left c zerosN).g k := by
  intro k hk
  by_cases h3 : k ≤ 3
  · have e1 := hu k h3
    have e2 := hl.s k h3
    have e3 := hI.qn k h3
    have e4 := refL_ge n left c zerosN k
    rw [zerosN_uK] at e4
    have e5 := (hl.wf hP).s k
    have e6 : sz k * q k ≤ sz k * P.n k := Nat.mul_le_mul_left _ e3
    rw [size_g p h3, V6.g_uK u h3, V6.g_uK _ h3, e1]
    refine ⟨by omega, by rw [e2]; omega, e5.2, e4⟩
  · have e := refL_a45 n left c zerosN
    have hk2 : k = 4 ∨ k = 5 := by omega
    rcases hk2 with rfl | rfl
    · exact ⟨by show 0 ≤ u.a4; omega, by show u.a4 ≤ p.size.a4; omega, hs.2.1, by show 0 ≤ (refL n left c zerosN).a4; rw [e.1]; decide⟩
    · exact ⟨by show 0 ≤ u.a5; omega, by show u.a5 ≤ p.size.a5; omega, hs.2.2.2, by show 0 ≤ (refL n left c zerosN).a5; rw [e.2]; decide⟩
/-- where words fit, no put is refused -/
theorem no_full {p : PlanM} {P : Pools} (hl : p.lays P) {q : Nat → Nat} {T : Tails} {u u0 X : V6} (hu : UsedIs u q) {m : Nat} (hr : refL (m + 1) (leftOf (T 0)) (classOf (T 0)) u = u0.add X)
    (hf : ∀ k, k < 6 → X.g k ≤ p.size.g k - u0.g k) : ¬ PutFull P q T 0 := by
  rintro ⟨c, hc, ht, hq⟩
  rw [takes_iff] at ht
  by_cases h0 : leftOf (T 0) = 0
  · rw [if_pos h0] at ht
    have hcc : classOf (T 0) = c := by injection ht
    rw [refL, if_pos h0, hcc] at hr
    have h1 := refL_ge m (sz c - 2) (min (c + 1) 3) (u.up c (szK c)) c
    rw [hr, uK_up hc hc, if_pos rfl, ← V6.g_uK (u0.add X) hc, V6.add_g, hu c hc, hq] at h1
    have h2 := hf c (by omega)
    rw [size_g _ hc, hl.s c hc] at h2
    have h3 := szK_bd c
    omega
  · rw [if_neg h0] at ht; cases ht
theorem tail_bd {P : Pools} (hP : P.ok) {μ : List Int} {q : Nat → Nat} {T : Tails} (hI : PostInv P μ q T) (j : Nat) : tailOf P (T j) ≤ 65536 := by
  cases hTj : T j with
  | none => exact Nat.zero_le _
  | some x =>
    obtain ⟨k, i, a⟩ := x
    obtain ⟨hk, hi, ha1, ha2⟩ := hI.slab _ _ _ _ hTj
    have hin : P.In k i (tailOf P (some (k, i, a))) a := ⟨hk, Nat.lt_of_lt_of_le hi (hI.qn k hk), ha2, rfl⟩
    have := in_lt hP hin
    have := hP.top
    omega
theorem used_init : UsedIs zerosN (fun _ => 0) := fun k _ => by rw [zerosN_uK, Nat.mul_zero]; rfl

end Go.Proofs.YtbmgmjfpoepgpaaDoor
