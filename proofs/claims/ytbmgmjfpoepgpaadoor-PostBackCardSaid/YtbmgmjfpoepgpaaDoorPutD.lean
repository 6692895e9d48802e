/- Layer 9: what a put at once does, told ahead of it. Printed by gen/putd.py. -/
import Derived.Test.YtbmgmjfpoepgpaaDoorPutX
namespace Go.Proofs.YtbmgmjfpoepgpaaDoor
open Go.RowKit

/-- what was of use stays, and stays of use -/
structure PutKeep (P : Pools) (cs : List Int) (q : Nat → Nat) (T : Tails) (cs' : List Int) (q' : Nat → Nat) (T' : Tails) : Prop where
  mono : ∀ y, Used P q T y → Used P q' T' y
  keep : ∀ y, Used P q T y → cs'[y]? = cs[y]?
theorem put_mid_keep {P : Pools} (hP : P.ok) {μ : List Int} {q : Nat → Nat} {T : Tails} (h : PostInv P μ q T) {j k i a : Nat} (hT : T j = some (k, i, a)) (ha : a + 1 < sz k) (v : Int) :
    PutKeep P μ q T (μ.set (tailOf P (T j) + 1) v) q (updT T j (k, i, a + 1)) := by
  obtain ⟨hk, hi, ha1, ha2⟩ := h.slab _ _ _ _ hT
  have hin : P.In k i (tailOf P (T j)) a := by rw [hT]; exact ⟨hk, Nat.lt_of_lt_of_le hi (h.qn k hk), ha2, rfl⟩
  have hin1 := In.succ hin ha
  generalize hxe : tailOf P (T j) = x at *
  have hnu : ¬ Used P q T (x + 1) := by
    rintro ⟨k', i', a', g1, g2, g3⟩
    obtain ⟨rfl, rfl, rfl⟩ := in_uniq hP hin1 g1
    have := g3 j a hT; omega
  refine ⟨?_, fun y hy => set_get_ne (fun e => hnu (e ▸ hy))⟩
  rintro y ⟨k', i', a', g1, g2, g3⟩
  refine ⟨k', i', a', g1, g2, fun j' a2 e => ?_⟩
  unfold updT at e
  split at e
  · rename_i hj
    injection e with e
    obtain ⟨rfl, rfl, rfl⟩ := (by simpa using e : k = k' ∧ i = i' ∧ a + 1 = a2)
    have := g3 j a hT; omega
  · exact g3 j' a2 e
theorem put_slab_keep {P : Pools} (hP : P.ok) {μ : List Int} {q : Nat → Nat} {T : Tails} (h : PostInv P μ q T) (j c : Nat) (hc : c ≤ 3) (hq : q c < P.n c) (v : Int) :
    PutKeep P μ q T (putMem μ (tailOf P (T j)) (P.b c + sz c * q c) v) (updQ q c) (updT T j (c, q c, 1)) := by
  have hsz := sz_ge hc
  have hin0 : P.In c (q c) (P.b c + sz c * q c) 0 := ⟨hc, hq, by omega, rfl⟩
  have hin1 := In.succ hin0 (by omega)
  generalize hs : P.b c + sz c * q c = s at *
  generalize hte : tailOf P (T j) = t0 at *
  have hnu : ∀ y a, P.In c (q c) y a → ¬ Used P q T y := by
    rintro y a g ⟨k', i', a', g1, g2, g3⟩
    obtain ⟨rfl, rfl, rfl⟩ := in_uniq hP g g1
    omega
  constructor
  · rintro y ⟨k', i', a', g1, g2, g3⟩
    refine ⟨k', i', a', g1, by unfold updQ; split <;> omega, fun j' a2 e => ?_⟩
    unfold updT at e
    split at e
    · injection e with e
      obtain ⟨rfl, rfl, rfl⟩ := (by simpa using e : c = k' ∧ q c = i' ∧ 1 = a2)
      omega
    · exact g3 j' a2 e
  · intro y hy
    have h1 : y ≠ s := fun e => hnu s 0 hin0 (e ▸ hy)
    have h2 : y ≠ s + 1 := fun e => hnu (s + 1) 1 hin1 (e ▸ hy)
    unfold putMem
    split
    · exact set_get_ne h2
    · rw [set_get_ne h2, set_get_ne h1]

set_option maxRecDepth 100000 in
set_option maxHeartbeats 1000000 in
theorem put_det {p : PlanM} {P : Pools} (hP : P.ok) (hl : p.lays P) {u : V6} {q : Nat → Nat} {T : Tails} (hu : UsedIs u q) {cs : List Int}
    (hI : PostInv P cs q T) (hlen : P.b 3 + 256 * P.n 3 ≤ cs.length) (j : Nat) (v : Int) (hv : U32 v) :
    (∃ q' T' u' cs', PutDone P cs q T j v cs' q' T' ∧ PutKeep P cs q T cs' q' T' ∧ UsedIs u' q' ∧ PutHow P q T u j q' T' u' ∧ ∀ (w : World) (K : Nat → Prop) (m c : Nat) (μ : MemS), μ.cells = cs → MemAt w m c μ → ¬ K m → ¬ K c → (∀ b, K b → b < w.heap.size) → K 0 → Tab w → Calls Tryd.prog 12 #[.pointer (some ⟨m, 0, none⟩), p.val, u.val, .int .i64 (tailOf P (T j) : Nat), .int .u32 v] w fun e w' =>
        e = .returned (.tuple #[.int .i64 (tailOf P (T' j) : Nat), V6.val u', .int .i64 0]) ∧ (∃ μ', MemAt w' m c μ' ∧ μ'.cells = cs') ∧ Keeps K w w') ∨
      (PutFull P q T j ∧ ∀ (w : World) (K : Nat → Prop) (m c : Nat) (μ : MemS), μ.cells = cs → MemAt w m c μ → ¬ K m → ¬ K c → (∀ b, K b → b < w.heap.size) → K 0 → Tab w → Calls Tryd.prog 12 #[.pointer (some ⟨m, 0, none⟩), p.val, u.val, .int .i64 (tailOf P (T j) : Nat), .int .u32 v] w fun e w' =>
        e = .returned (.tuple #[.int .i64 0, zeros6v.val, .int .i64 3]) ∧ (∃ μ', MemAt w' m c μ' ∧ μ'.cells = cs) ∧ Keeps K w w') := by
  have hp := hl.wf hP
  have htop := hP.top
  -- a slab of the class c is taken
  have SLAB : ∀ c', c' ≤ 3 → takes (T j) = some c' → p.next ((tailOf P (T j) : Nat) : Int) = (((c' : Nat) : Int), true) → tailOf P (T j) ≤ 65536 → tailOf P (T j) ≤ P.b c' + sz c' * q c' →
      (∃ q' T' u' cs', PutDone P cs q T j v cs' q' T' ∧ PutKeep P cs q T cs' q' T' ∧ UsedIs u' q' ∧ PutHow P q T u j q' T' u' ∧ ∀ (w : World) (K : Nat → Prop) (m c : Nat) (μ : MemS), μ.cells = cs → MemAt w m c μ → ¬ K m → ¬ K c → (∀ b, K b → b < w.heap.size) → K 0 → Tab w → Calls Tryd.prog 12 #[.pointer (some ⟨m, 0, none⟩), p.val, u.val, .int .i64 (tailOf P (T j) : Nat), .int .u32 v] w fun e w' =>
        e = .returned (.tuple #[.int .i64 (tailOf P (T' j) : Nat), V6.val u', .int .i64 0]) ∧ (∃ μ', MemAt w' m c μ' ∧ μ'.cells = cs') ∧ Keeps K w w') ∨
      (PutFull P q T j ∧ ∀ (w : World) (K : Nat → Prop) (m c : Nat) (μ : MemS), μ.cells = cs → MemAt w m c μ → ¬ K m → ¬ K c → (∀ b, K b → b < w.heap.size) → K 0 → Tab w → Calls Tryd.prog 12 #[.pointer (some ⟨m, 0, none⟩), p.val, u.val, .int .i64 (tailOf P (T j) : Nat), .int .u32 v] w fun e w' =>
        e = .returned (.tuple #[.int .i64 0, zeros6v.val, .int .i64 3]) ∧ (∃ μ', MemAt w' m c μ' ∧ μ'.cells = cs) ∧ Keeps K w w') := by
    intro c' hc htk hnext htb hle
    have hsz := sz_ge hc
    have huk := hu c' hc
    have hsk := hl.s c' hc
    have hbk := hl.b c' hc
    by_cases hroom : q c' < P.n c'
    · have hmul : sz c' * q c' + sz c' ≤ sz c' * P.n c' := by rw [← Nat.mul_succ]; exact Nat.mul_le_mul_left _ hroom
      obtain ⟨h1, h2, h3, h4⟩ := put_slab hP hI j c' hc hroom hlen v hle
      have hin1 : P.In c' (q c') (P.b c' + sz c' * q c' + 1) 1 := ⟨hc, hroom, by omega, rfl⟩
      have hlt1 := in_lt hP hin1
      obtain ⟨n, hn, hid⟩ := putNew_ideal cs (tailOf P (T j)) (P.b c' + sz c' * q c') v (by omega)
      have hok : PutOk p u ((tailOf P (T j) : Nat) : Int) v (putNew ((tailOf P (T j) : Nat) : Int) ((P.b c' + sz c' * q c' : Nat) : Int) v) ((P.b c' + sz c' * q c' : Nat) + 1) (u.up c' (szK c')) 0 := by
        intro w K r m c s hR hK0 hT
        have := put_new hR hK0 hT p hp u ((tailOf P (T j) : Nat) : Int) v c' hc (by omega) hv hnext (by rw [huk]; omega) (by rw [huk, hsk, szK_eq hc]; omega)
        have e : p.bK c' + u.uK c' = ((P.b c' + sz c' * q c' : Nat) : Int) := by rw [hbk, huk]; omega
        rw [e] at this
        exact this
      refine Or.inl ⟨updQ q c', updT T j (c', q c', 1), u.up c' (szK c'), putMem cs (tailOf P (T j)) (P.b c' + sz c' * q c') v, ⟨h1, ?_, ?_, h3, ?_⟩, put_slab_keep hP hI j c' hc hroom v, hu.up hc, ?_, ?_⟩
      · unfold putMem; split <;> simp
      · intro i hi; unfold updT; rw [if_neg hi]
      · rw [h2]; exact h4
      · unfold PutHow; rw [htk]; exact ⟨hroom, rfl, rfl, by unfold updT; rw [if_pos rfl]⟩
      · intro w K m c μ hμ hm hKm hKc hlt hK0 hT
        subst hμ
        refine (put09 hm hKm hKc hlt hK0 hT p u _ _ v _ 0 _ hok hid (by omega)).mono ?_
        rintro e w' ⟨rfl, hmem, hk⟩
        exact ⟨by rw [h2]; congr 1, hmem, hk⟩
    · have hqn : q c' = P.n c' := by have := hI.qn c' hc; omega
      have hok : PutOk p u ((tailOf P (T j) : Nat) : Int) v (.ret ()) 0 zeros6v 3 := by
        intro w K r m c s hR hK0 hT
        exact put_full hR hK0 hT p hp u ((tailOf P (T j) : Nat) : Int) v c' hc (by omega) hv hnext (by rw [huk]; omega) (by rw [huk, hsk, hqn]; omega) (by rw [huk, hsk, szK_eq hc, hqn]; omega)
      refine Or.inr ⟨⟨c', hc, htk, hqn⟩, ?_⟩
      intro w K m c μ hμ hm hKm hKc hlt hK0 hT
      subst hμ
      refine (put09 hm hKm hKc hlt hK0 hT p u _ _ v _ 3 (.ret ()) hok (cs' := μ.cells) (n := 0) rfl (by omega)).mono ?_
      rintro e w' ⟨rfl, hmem, hk⟩
      exact ⟨rfl, hmem, hk⟩
  cases hTj : T j with
  | none =>
    rw [hTj] at SLAB
    exact SLAB 0 (by omega) rfl (next_zero p) (by simp [tailOf]) (by simp [tailOf])
  | some x =>
    obtain ⟨k, i, a⟩ := x
    obtain ⟨hk, hi, ha1, ha2⟩ := hI.slab _ _ _ _ hTj
    have hin : P.In k i (tailOf P (T j)) a := by rw [hTj]; exact ⟨hk, Nat.lt_of_lt_of_le hi (hI.qn k hk), ha2, rfl⟩
    have hx := in_lt hP hin
    rw [← hTj]
    by_cases he : a + 1 < sz k
    · obtain ⟨h1, h2, h3, h4⟩ := put_mid hP hI hTj he hlen v
      have hnext := next_mid hP hl hin ha1 he
      have hok : PutOk p u ((tailOf P (T j) : Nat) : Int) v (putIn ((tailOf P (T j) : Nat) : Int) v) ((tailOf P (T j) : Nat) + 1) u 0 := by
        intro w K r m c s hR hK0 hT
        exact put_in hR hK0 hT p hp u ((tailOf P (T j) : Nat) : Int) v (by omega) hv hnext
      have hin1 := In.succ hin he
      have hx1 := in_lt hP hin1
      refine Or.inl ⟨q, updT T j (k, i, a + 1), u, cs.set (tailOf P (T j) + 1) v, ⟨h1, by simp, ?_, h3, ?_⟩, put_mid_keep hP hI hTj he v, hu, ?_, ?_⟩
      · intro i' hi'; unfold updT; rw [if_neg hi']
      · rw [h2]; exact h4
      · have ht : takes (T j) = none := by rw [hTj, takes, if_pos he]
        unfold PutHow; rw [ht]; exact ⟨rfl, rfl, k, i, a, hTj, by unfold updT; rw [if_pos rfl]⟩
      · intro w K m c μ hμ hm hKm hKc hlt hK0 hT
        subst hμ
        refine (put09 hm hKm hKc hlt hK0 hT p u _ _ v _ 0 _ hok (putIn_ideal μ.cells (tailOf P (T j)) v (by omega)) (by omega)).mono ?_
        rintro e w' ⟨rfl, hmem, hk'⟩
        exact ⟨by rw [h2]; congr 1, hmem, hk'⟩
    · have hend : a + 1 = sz k := by omega
      exact SLAB (min (k + 1) 3) (by omega) (by rw [hTj, takes, if_neg he]) (next_end hP hl hin hend) (by omega) (tail_le hP hin hi (hI.qn k hk))
end Go.Proofs.YtbmgmjfpoepgpaaDoor
