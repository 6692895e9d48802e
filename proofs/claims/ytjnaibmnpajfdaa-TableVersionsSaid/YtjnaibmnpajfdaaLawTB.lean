/- Layer 11's statements: Same of the reference. -/
import Derived.Test.YtjnaibmnpajfdaaTableB
import Derived.Test.YtjnaibmnpajfdaaMemB
namespace Go.Proofs.Ytjnaibmnpajfdaa
open Go.RowKit

theorem flatS : ∀ (l : List SeenM) (k : Nat) (x : SeenM), l[k]? = some x →
    (l.flatMap SeenM.cells)[k * 3]? = some (.int .i64 x.doc) ∧ (l.flatMap SeenM.cells)[k * 3 + 1]? = some (.int .u32 x.id) ∧ (l.flatMap SeenM.cells)[k * 3 + 2]? = some (.int .i64 x.len)
  | y :: l, 0, x, h => by
    simp at h; subst h; exact ⟨rfl, rfl, rfl⟩
  | y :: l, k + 1, x, h => by
    have ih := flatS l k x (by simpa using h)
    have e1 : (k + 1) * 3 = k * 3 + 3 := by omega
    rw [e1]
    exact ih
theorem SlAt.seen {w : World} {K : Nat → Prop} {v : Value} {l : List SeenM} (h : SlAt w K 3 v l.length (l.flatMap SeenM.cells)) {k : Nat} {x : SeenM} (hk : l[k]? = some x) :
    ∃ b off cap, v = .slice (some ⟨b, off, none⟩) l.length cap ∧ K b ∧
      w.cell? ⟨b, off + k * 3, none⟩ = some (.int .i64 x.doc) ∧ w.cell? ⟨b, off + k * 3 + 1, none⟩ = some (.int .u32 x.id) ∧ w.cell? ⟨b, off + k * 3 + 2, none⟩ = some (.int .i64 x.len) := by
  obtain ⟨A, cap, h1, h2, h3, h4, h5⟩ := h
  have hlt : k < l.length := (List.getElem?_eq_some_iff.1 hk).1
  obtain ⟨b, off, e, hb, hc⟩ := h5 (by omega)
  subst e
  obtain ⟨f0, f1, f2⟩ := flatS l k x hk
  exact ⟨b, off, cap, h1, hb, hc _ _ f0, hc _ _ f1, hc _ _ f2⟩
theorem SeenOwn.sl {w : World} {K : Nat → Prop} {v : Value} {l : List SeenM} (h : SeenOwn w K v l) : SlAt w (fun b => v.ownBlock = some b) 3 v l.length (l.flatMap SeenM.cells) := by
  obtain ⟨⟨h1, h2⟩, _⟩ := h
  rcases h2 with ⟨h2, h3⟩ | ⟨g, cap, cur, hv, hb, hh, hn, hc, hs, ht⟩
  · rw [h2, h3]; exact ⟨none, 0, rfl, Nat.le_refl _, Nat.zero_le _, by rw [h1, h3], fun h => absurd h (by omega)⟩
  · subst hv
    refine ⟨_, cap, rfl, hn, hc, h1, fun _ => ⟨g, 0, rfl, rfl, fun j u hj => ?_⟩⟩
    rw [Nat.zero_add]
    rw [← ht] at hj
    simp only [World.cell?, hh]
    rw [List.getElem?_take] at hj
    split at hj
    · simpa using hj
    · cases hj

set_option maxRecDepth 100000 in
set_option maxHeartbeats 1000000 in
theorem same11_eq {w : World} {K1 K2 : Nat → Prop} {l : List SeenM} {va vb : Value} (ha : SlAt w K1 3 va l.length (l.flatMap SeenM.cells)) (hb : SlAt w K2 3 vb l.length (l.flatMap SeenM.cells)) :
    Calls Try.prog 38 #[va, vb] w fun e w' => e = .returned (.bool true) ∧ ∃ n, w.drewN n = w' := by
  have HA := hid ha
  have HB := hid hb
  obtain ⟨A, ca, rfl, h1, h2⟩ := ha.form
  obtain ⟨B, cb, rfl, h3, h4⟩ := hb.form
  unfold maxLen at h2 h4
  clear ha hb
  refine calls_hide fun R' hR' => ?_
  go_enter Try.func38, Try.ntmps38
  go_wp2_with fail
  go_loopw [13] (fun i wr => ∃ k n : Nat, i = .int .i64 k ∧ k ≤ l.length ∧ w.drewN n = wr) (fun i _ => l.length - (intOf i).toNat)
  case atStart => exact ⟨0, 0, rfl, Nat.zero_le _, rfl⟩
  case round =>
    obtain ⟨k, n, rfl, hk, hw⟩ := hrel
    have HW := hid hw
    clear hw
    by_cases hlt : k < l.length
    · obtain ⟨b1, o1, c1, e1, _, x1, x2, x3⟩ := HA.out.seen (List.getElem?_eq_getElem hlt)
      obtain ⟨b2, o2, c2, e2, _, z1, z2, z3⟩ := HB.out.seen (List.getElem?_eq_getElem hlt)
      injection e1 with e1 _ e1'
      injection e2 with e2 _ e2'
      subst e1 e1' e2 e2'
      have y1 : wr.cell? ⟨b1, o1 + k * 3, none⟩ = some (.int .i64 l[k].doc) := by rw [← HW.out]; exact x1
      have y2 : wr.cell? ⟨b1, o1 + k * 3 + 1, none⟩ = some (.int .u32 l[k].id) := by rw [← HW.out]; exact x2
      have y3 : wr.cell? ⟨b1, o1 + k * 3 + 2, none⟩ = some (.int .i64 l[k].len) := by rw [← HW.out]; exact x3
      have q1 : wr.cell? ⟨b2, o2 + k * 3, none⟩ = some (.int .i64 l[k].doc) := by rw [← HW.out]; exact z1
      have q2 : wr.cell? ⟨b2, o2 + k * 3 + 1, none⟩ = some (.int .u32 l[k].id) := by rw [← HW.out]; exact z2
      have q3 : wr.cell? ⟨b2, o2 + k * 3 + 2, none⟩ = some (.int .i64 l[k].len) := by rw [← HW.out]; exact z3
      have i1 : (k : Int) < (l.length : Int) := by omega
      generalize l[k] = x at *
      obtain ⟨xd, xi, xl⟩ := x
      clear x1 x2 x3 z1 z2 z3
      simp only at y1 y2 y3 q1 q2 q3
      go_wp2_with fail
      go_quiet (fail)
      go_wp2_with fail
      go_roundw
      case rel => exact ⟨k + 1, n + nq, by go_num, by omega, by rw [← HW.out]; simp [World.drewN, Nat.add_assoc]⟩
      case measure => simp [intOf]; omega
    · go_wp2_with fail
      exact hR'.out _ _ ⟨rfl, n, HW.out⟩
end Go.Proofs.Ytjnaibmnpajfdaa
