/- Layer 9: what a put at once does to slabs and chains. -/
import Derived.Test.YtbmgmjfpoepgpaaDoorLawP
import Derived.Test.YtbmgmjfpoepgpaaDoorLawQ
namespace Go.Proofs.YtbmgmjfpoepgpaaDoor
open Go.RowKit

/-- what is used -/
def UsedIs (u : V6) (q : Nat → Nat) : Prop := ∀ k, k ≤ 3 → u.uK k = ((sz k * q k : Nat) : Int)
theorem szK_eq {k : Nat} (h : k ≤ 3) : szK k = (sz k : Int) := by rcases k_cases h with rfl | rfl | rfl | rfl <;> rfl
theorem UsedIs.up {u : V6} {q : Nat → Nat} (h : UsedIs u q) {c : Nat} (hc : c ≤ 3) : UsedIs (u.up c (szK c)) (updQ q c) := by
  have h0 := h 0 (by omega); have h1 := h 1 (by omega); have h2 := h 2 (by omega); have h3 := h 3 (by omega)
  intro k hk
  unfold updQ
  rcases k_cases hc with rfl | rfl | rfl | rfl <;> rcases k_cases hk with rfl | rfl | rfl | rfl <;> simp only [V6.uK, V6.up, szK, sz] at h0 h1 h2 h3 ⊢ <;> first | omega | (simp; done) | (simp; omega) | (split <;> omega)
theorem PlanM.lays.wf {p : PlanM} {P : Pools} (hP : P.ok) (hl : p.lays P) : p.Wf := by
  obtain ⟨b0, b1, b2, b3, top⟩ := hP
  have e0 := hl.b 0 (by omega); have e1 := hl.b 1 (by omega); have e2 := hl.b 2 (by omega); have e3 := hl.b 3 (by omega)
  have s0 := hl.s 0 (by omega); have s1 := hl.s 1 (by omega); have s2 := hl.s 2 (by omega); have s3 := hl.s 3 (by omega)
  simp only [sz] at s0 s1 s2 s3
  constructor
  · intro k
    match k with
    | 0 => rw [e0]; omega
    | 1 => rw [e1]; omega
    | 2 => rw [e2]; omega
    | 3 => rw [e3]; omega
    | k + 4 => show 0 ≤ p.bK 3 ∧ p.bK 3 ≤ 65536; rw [e3]; omega
  · intro k
    match k with
    | 0 => rw [s0]; omega
    | 1 => rw [s1]; omega
    | 2 => rw [s2]; omega
    | 3 => rw [s3]; omega
    | k + 4 => show 0 ≤ p.sK 3 ∧ p.sK 3 ≤ 65536; rw [s3]; omega

/-- the class of the slab that is taken behind a tail -/
def takes : Option (Nat × Nat × Nat) → Option Nat
  | none => some 0
  | some (k, _, a) => if a + 1 < sz k then none else some (min (k + 1) 3)
/-- how a put goes on that finds room -/
def PutHow (P : Pools) (q : Nat → Nat) (T : Tails) (u : V6) (j : Nat) (q' : Nat → Nat) (T' : Tails) (u' : V6) : Prop :=
  match takes (T j) with
  | none => u' = u ∧ q' = q ∧ ∃ k i a, T j = some (k, i, a) ∧ T' j = some (k, i, a + 1)
  | some c => q c < P.n c ∧ u' = u.up c (szK c) ∧ q' = updQ q c ∧ T' j = some (c, q c, 1)
/-- a put finds no room -/
def PutFull (P : Pools) (q : Nat → Nat) (T : Tails) (j : Nat) : Prop := ∃ c, c ≤ 3 ∧ takes (T j) = some c ∧ q c = P.n c
/-- what a put that found room leaves -/
structure PutDone (P : Pools) (cs : List Int) (q : Nat → Nat) (T : Tails) (j : Nat) (v : Int) (cs' : List Int) (q' : Nat → Nat) (T' : Tails) : Prop where
  inv : PostInv P cs' q' T'
  len : cs'.length = cs.length
  other : ∀ i, i ≠ j → T' i = T i
  keep : ∀ t l, Chain P cs (Used P q T) t l → Chain P cs' (Used P q' T') t l
  new : ∀ l, Chain P cs (Used P q T) (tailOf P (T j)) l → Chain P cs' (Used P q' T') (tailOf P (T' j)) (v :: l)

set_option maxRecDepth 100000 in
set_option maxHeartbeats 1000000 in
theorem put_any {w : World} {K : Nat → Prop} {m c : Nat} {μ : MemS} (hm : MemAt w m c μ) (hKm : ¬ K m) (hKc : ¬ K c) (hlt : ∀ b, K b → b < w.heap.size) (hK0 : K 0) (hT : Tab w) {p : PlanM} {P : Pools} (hP : P.ok) (hl : p.lays P) {u : V6} {q : Nat → Nat} {T : Tails} (hu : UsedIs u q)
    (hI : PostInv P μ.cells q T) (hlen : P.b 3 + 256 * P.n 3 ≤ μ.cells.length) (j : Nat) (v : Int) (hv : U32 v) :
    Calls Tryd.prog 12 #[.pointer (some ⟨m, 0, none⟩), p.val, u.val, .int .i64 (tailOf P (T j) : Nat), .int .u32 v] w fun e w' =>
      (∃ q' T' u' cs', e = .returned (.tuple #[.int .i64 (tailOf P (T' j) : Nat), V6.val u', .int .i64 0]) ∧ (∃ μ', MemAt w' m c μ' ∧ μ'.cells = cs') ∧ Keeps K w w' ∧ PutDone P μ.cells q T j v cs' q' T' ∧ UsedIs u' q' ∧ PutHow P q T u j q' T' u') ∨
      (e = .returned (.tuple #[.int .i64 0, zeros6v.val, .int .i64 3]) ∧ (∃ μ', MemAt w' m c μ' ∧ μ'.cells = μ.cells) ∧ Keeps K w w' ∧ PutFull P q T j) := by
  have hp := hl.wf hP
  have htop := hP.top
  -- a slab of the class c is taken
  have SLAB : ∀ c', c' ≤ 3 → takes (T j) = some c' → p.next ((tailOf P (T j) : Nat) : Int) = (((c' : Nat) : Int), true) → tailOf P (T j) ≤ 65536 → tailOf P (T j) ≤ P.b c' + sz c' * q c' →
      Calls Tryd.prog 12 #[.pointer (some ⟨m, 0, none⟩), p.val, u.val, .int .i64 (tailOf P (T j) : Nat), .int .u32 v] w fun e w' =>
      (∃ q' T' u' cs', e = .returned (.tuple #[.int .i64 (tailOf P (T' j) : Nat), V6.val u', .int .i64 0]) ∧ (∃ μ', MemAt w' m c μ' ∧ μ'.cells = cs') ∧ Keeps K w w' ∧ PutDone P μ.cells q T j v cs' q' T' ∧ UsedIs u' q' ∧ PutHow P q T u j q' T' u') ∨
      (e = .returned (.tuple #[.int .i64 0, zeros6v.val, .int .i64 3]) ∧ (∃ μ', MemAt w' m c μ' ∧ μ'.cells = μ.cells) ∧ Keeps K w w' ∧ PutFull P q T j) := by
    intro c' hc htk hnext htb hle
    have hsz := sz_ge hc
    have huk := hu c' hc
    have hsk := hl.s c' hc
    have hbk := hl.b c' hc
    by_cases hroom : q c' < P.n c'
    · have hmul : sz c' * q c' + sz c' ≤ sz c' * P.n c' := by rw [← Nat.mul_succ]; exact Nat.mul_le_mul_left _ hroom
      obtain ⟨h1, h2, h3, h4⟩ := put_slab hP hI j c' hc hroom hlen v hle
      have hin1 : P.In c' (q c') (P.b c' + sz c' * q c' + 1) 1 := ⟨hc, hroom, by omega, rfl⟩
      have hlt1 := in_lt hP hin1
      obtain ⟨n, hn, hid⟩ := putNew_ideal μ.cells (tailOf P (T j)) (P.b c' + sz c' * q c') v (by omega)
      have hok : PutOk p u ((tailOf P (T j) : Nat) : Int) v (putNew ((tailOf P (T j) : Nat) : Int) ((P.b c' + sz c' * q c' : Nat) : Int) v) ((P.b c' + sz c' * q c' : Nat) + 1) (u.up c' (szK c')) 0 := by
        intro w K r m c s hR hK0 hT
        have := put_new hR hK0 hT p hp u ((tailOf P (T j) : Nat) : Int) v c' hc (by omega) hv hnext (by rw [huk]; omega) (by rw [huk, hsk, szK_eq hc]; omega)
        have e : p.bK c' + u.uK c' = ((P.b c' + sz c' * q c' : Nat) : Int) := by rw [hbk, huk]; omega
        rw [e] at this
        exact this
      refine (put09 hm hKm hKc hlt hK0 hT p u _ _ v _ 0 _ hok hid (by omega)).mono ?_
      rintro e w' ⟨rfl, hmem, hk⟩
      refine Or.inl ⟨updQ q c', updT T j (c', q c', 1), u.up c' (szK c'), putMem μ.cells (tailOf P (T j)) (P.b c' + sz c' * q c') v, ?_, hmem, hk, ⟨h1, ?_, ?_, h3, ?_⟩, hu.up hc, ?_⟩
      · rw [h2]; congr 1
      · unfold putMem; split <;> simp
      · intro i hi; unfold updT; rw [if_neg hi]
      · rw [h2]; exact h4
      · unfold PutHow; rw [htk]; exact ⟨hroom, rfl, rfl, by unfold updT; rw [if_pos rfl]⟩
    · have hqn : q c' = P.n c' := by have := hI.qn c' hc; omega
      have hok : PutOk p u ((tailOf P (T j) : Nat) : Int) v (.ret ()) 0 zeros6v 3 := by
        intro w K r m c s hR hK0 hT
        exact put_full hR hK0 hT p hp u ((tailOf P (T j) : Nat) : Int) v c' hc (by omega) hv hnext (by rw [huk]; omega) (by rw [huk, hsk, hqn]; omega) (by rw [huk, hsk, szK_eq hc, hqn]; omega)
      refine (put09 hm hKm hKc hlt hK0 hT p u _ _ v _ 3 (.ret ()) hok (cs' := μ.cells) (n := 0) rfl (by omega)).mono ?_
      rintro e w' ⟨rfl, hmem, hk⟩
      exact Or.inr ⟨rfl, hmem, hk, c', hc, htk, hqn⟩
  cases hTj : T j with
  | none =>
    rw [hTj] at SLAB
    exact SLAB 0 (by omega) rfl (next_zero p) (by simp [tailOf]) (by simp [tailOf])
  | some x =>
    obtain ⟨k, i, a⟩ := x
    obtain ⟨hk, hi, ha1, ha2⟩ := hI.slab _ _ _ _ hTj
    have hin : P.In k i (tailOf P (T j)) a := by rw [hTj]; exact ⟨hk, Nat.lt_of_lt_of_le hi (hI.qn k hk), ha2, rfl⟩
    have hx := in_lt hP hin
    rw [← hTj]
    by_cases he : a + 1 < sz k
    · obtain ⟨h1, h2, h3, h4⟩ := put_mid hP hI hTj he hlen v
      have hnext := next_mid hP hl hin ha1 he
      have hok : PutOk p u ((tailOf P (T j) : Nat) : Int) v (putIn ((tailOf P (T j) : Nat) : Int) v) ((tailOf P (T j) : Nat) + 1) u 0 := by
        intro w K r m c s hR hK0 hT
        exact put_in hR hK0 hT p hp u ((tailOf P (T j) : Nat) : Int) v (by omega) hv hnext
      have hin1 := In.succ hin he
      have hx1 := in_lt hP hin1
      refine (put09 hm hKm hKc hlt hK0 hT p u _ _ v _ 0 _ hok (putIn_ideal μ.cells (tailOf P (T j)) v (by omega)) (by omega)).mono ?_
      rintro e w' ⟨rfl, hmem, hk'⟩
      refine Or.inl ⟨q, updT T j (k, i, a + 1), u, μ.cells.set (tailOf P (T j) + 1) v, ?_, hmem, hk', ⟨h1, by simp, ?_, h3, ?_⟩, hu, ?_⟩
      · rw [h2]; congr 1
      · intro i' hi'; unfold updT; rw [if_neg hi']
      · rw [h2]; exact h4
      · have ht : takes (T j) = none := by rw [hTj, takes, if_pos he]
        unfold PutHow; rw [ht]; exact ⟨rfl, rfl, k, i, a, hTj, by unfold updT; rw [if_pos rfl]⟩
    · have hend : a + 1 = sz k := by omega
      exact SLAB (min (k + 1) 3) (by omega) (by rw [hTj, takes, if_neg he]) (next_end hP hl hin hend) (by omega) (tail_le hP hin hi (hI.qn k hk))
end Go.Proofs.YtbmgmjfpoepgpaaDoor
