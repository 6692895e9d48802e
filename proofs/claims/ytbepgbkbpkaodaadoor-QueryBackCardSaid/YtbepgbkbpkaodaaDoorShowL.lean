/- Layer 17 (query), Show: how long a text is, in plain terms. -/
import Derived.Test.YtbepgbkbpkaodaaDoorShowC
namespace Go.Proofs.YtbepgbkbpkaodaaDoor
open Go.RowKit

theorem Tot.parts {k f : Int} {ts : List (Int × ByteArray × Int)} {kids : List Nd} {m : Nat} (h : Tot (.mk k f ts kids) m) : ∃ ns : List Nat, m = 1 + ts.length + textsN ts + sumL id ns ∧ ns.length = kids.length ∧ ∀ (i : Nat) (n : Nd) (m : Nat), kids[i]? = some n → ns[i]? = some m → Tot n m := by
  cases h with
  | mk _ _ _ _ ns hl hk => exact ⟨ns, rfl, hl, hk⟩
theorem Tot.pos {n : Nd} {m : Nat} (h : Tot n m) : 1 ≤ m := by
  obtain ⟨k, f, ts, kids⟩ := n
  obtain ⟨ns, rfl, _⟩ := h.parts
  omega
theorem len_le_sum : ∀ (kids : List Nd) (ns : List Nat), ns.length = kids.length → (∀ (i : Nat) (n : Nd) (m : Nat), kids[i]? = some n → ns[i]? = some m → Tot n m) → kids.length ≤ sumL id ns
  | [], _, _, _ => Nat.zero_le _
  | n :: l, [], h, _ => by simp at h
  | n :: l, m :: ns, h, hk => by
    have h1 := (hk 0 n m rfl rfl).pos
    have h2 := len_le_sum l ns (by simpa using h) (fun i n m a b => hk (i + 1) n m a b)
    rw [List.length_cons, sumL]
    show _ ≤ m + _
    omega
theorem lens_app (a b : List (List UInt8)) : Lib.lens (a ++ b) = Lib.lens a + Lib.lens b := by unfold Lib.lens; simp
theorem lens_cons (a : List UInt8) (b : List (List UInt8)) : Lib.lens (a :: b) = a.length + Lib.lens b := by unfold Lib.lens; simp
theorem lens_rep (n : Nat) : Lib.lens (List.replicate n [97]) = n := by unfold Lib.lens; simp
theorem out_len (f : Int) : ∀ (ts : List (Int × ByteArray × Int)) (p : Int), 0 ≤ p → p ≤ 257 → termsOk f p ts = true → ((outL p ts).length : Int) ≤ 257 - p ∧ (Lib.lens (outL p ts) : Int) ≤ textsN ts + (257 - p)
  | [], p, h0, h1, _ => by
    have e1 : outL p [] = [] := rfl
    have e2 : textsN [] = 0 := rfl
    rw [e1, e2]
    have : Lib.lens [] = 0 := rfl
    rw [this]
    simp only [List.length_nil]
    omega
  | (tf, tt, tp) :: ts, p, h0, h1, h => by
    have h : (tf == f && wordOk tt && decide (p ≤ tp) && decide (tp ≤ 256) && termsOk f (tp + 1) ts) = true := h
    simp only [Bool.and_eq_true, decide_eq_true_eq] at h
    obtain ⟨⟨⟨_, h2⟩, h3⟩, h4⟩ := h
    obtain ⟨i1, i2⟩ := out_len f ts (tp + 1) (by omega) (by omega) h4
    have e1 : outL p ((tf, tt, tp) :: ts) = List.replicate (tp - p).toNat [97] ++ tt.data.toList :: outL (tp + 1) ts := rfl
    have e2 : textsN ((tf, tt, tp) :: ts) = tt.size + textsN ts := rfl
    rw [e1, e2, List.length_append, List.length_replicate, List.length_cons, lens_app, lens_rep, lens_cons, bsize]
    omega
theorem leafX_len {f : Int} {ts : List (Int × ByteArray × Int)} (h : leafOk f ts = true) : (leafX f ts).length ≤ textsN ts + 600 := by
  unfold leafOk at h
  simp only [Bool.and_eq_true] at h
  obtain ⟨h1, h2⟩ := out_len f ts 0 (by decide) (by decide) h.2
  have h3 := join_le (outL 0 ts) [32]
  simp only [List.length_singleton] at h3
  unfold leafX leafQ
  split
  · simp only [List.length_cons]; omega
  · simp only [List.length_cons, List.length_append, List.length_nil]; omega
theorem txtL_len (P : Nd → Prop) (hP : ∀ n, P n → ∀ m d, Tot n m → okN n d = true → (txtN n).length + 5 ≤ 700 * m) : ∀ (l : List Nd) (ns : List Nat) (d : Nat) (pk : Int), (∀ n ∈ l, P n) → ns.length = l.length → (∀ (i : Nat) (n : Nd) (m : Nat), l[i]? = some n → ns[i]? = some m → Tot n m) → okL l d pk = true → Lib.lens (txtL l pk) + 3 * l.length ≤ 700 * sumL id ns ∧ (txtL l pk).length = l.length
  | [], _, _, _, _, _, _, _ => by rw [txtL_nil]; exact ⟨Nat.zero_le _, rfl⟩
  | n :: l, [], _, _, _, h, _, _ => by simp at h
  | n :: l, m :: ns, d, pk, hp, h, ht, ho => by
    rw [okL_cons, Bool.and_eq_true] at ho
    obtain ⟨h1, h2⟩ := txtL_len P hP l ns d pk (fun x hx => hp x (List.mem_cons_of_mem _ hx)) (by simpa using h) (fun i n m a b => ht (i + 1) n m a b) ho.2
    have h3 := hP n (hp n (List.mem_cons_self ..)) m _ (ht 0 n m rfl rfl) ho.1
    have e : sumL id (m :: ns) = m + sumL id ns := rfl
    rw [txtL_cons, lens_cons, e, List.length_cons, List.length_cons]
    refine ⟨?_, by omega⟩
    split
    · simp only [List.length_cons, List.length_append, List.length_nil]; omega
    · omega
theorem txt_len : ∀ (N : Nat) (n : Nd), SizeOf.sizeOf n ≤ N → ∀ m d, Tot n m → okN n d = true → (txtN n).length + 5 ≤ 700 * m := by
  intro N
  induction N with
  | zero => intro n hn; cases n; simp at hn
  | succ N ih =>
    intro n hn m d ht ho
    obtain ⟨k, f, ts, kids⟩ := n
    obtain ⟨ns, rfl, hl, hk⟩ := ht.parts
    rw [okN_mk, Bool.and_eq_true] at ho
    obtain ⟨_, ho⟩ := ho
    rw [txtN_mk]
    by_cases h1 : k = 1
    · rw [if_pos h1] at ho ⊢
      rw [Bool.and_eq_true] at ho
      have := leafX_len ho.2
      omega
    · rw [if_neg h1] at ho ⊢
      rw [Bool.and_eq_true] at ho
      obtain ⟨h2, h3⟩ := txtL_len (fun n => SizeOf.sizeOf n ≤ N) (fun n hs m d => ih n hs m d) kids ns _ k (fun n hm => by
        obtain ⟨i, hi⟩ := List.getElem?_of_mem hm
        have := Nd.kid_size (k := k) (f := f) (ts := ts) hi
        omega) hl hk ho.2
      have j0 := join_le (txtL kids k) []
      have j1 := join_le (txtL kids k) [32, 38, 32]
      have j2 := join_le (txtL kids k) [32, 124, 32]
      simp only [List.length_cons, List.length_nil] at j0 j1 j2
      split
      · simp only [List.length_cons]; omega
      · split <;> omega
theorem gb_len : ∀ (N : Nat) (n : Nd), SizeOf.sizeOf n ≤ N → ∀ m d, Tot n m → (gbN n d).length + 5 ≤ 700 * m := by
  intro N
  induction N with
  | zero => intro n hn; cases n; simp at hn
  | succ N ih =>
    intro n hn m d ht
    have hp := ht.pos
    obtain ⟨k, f, ts, kids⟩ := n
    obtain ⟨ns, rfl, hl, hk⟩ := ht.parts
    rw [gbN_mk]
    split
    · rename_i hc
      cases kids with
      | nil => simp at hc
      | cons n l =>
        cases ns with
        | nil => simp at hl
        | cons m ns =>
          have hsz := Nd.kid_size (k := k) (f := f) (ts := ts) (kids := n :: l) (i := 0) (n := n) rfl
          have e : sumL id (m :: ns) = m + sumL id ns := rfl
          rw [gbL_cons, e]
          have h1 := ih n (by omega) m (d + 1) (hk 0 n m rfl rfl)
          have h2 := ih n (by omega) m (d + 1 + 1) (hk 0 n m rfl rfl)
          split
          · simp only [List.length_cons, List.length_append, List.length_nil]; omega
          · simp only [List.length_cons]; omega
    · simp only [List.length_nil]; omega
theorem with_len {n : Nd} {m d : Nat} {br : Bool} (ht : Tot n m) : (okN n (withD d br) = true → (withT n br).length + 3 ≤ 700 * m) ∧ (withG n d br).length + 3 ≤ 700 * m := by
  refine ⟨fun h => ?_, ?_⟩
  · have := txt_len _ n (Nat.le_refl _) m _ ht h
    unfold withT
    cases br with
    | true => simp only [if_true, List.length_cons, List.length_append, List.length_nil]; omega
    | false => simp only [Bool.false_eq_true, if_false]; omega
  · have h1 := gb_len _ n (Nat.le_refl _) m (d + 1) ht
    have h2 := gb_len _ n (Nat.le_refl _) m d ht
    unfold withG
    cases br with
    | true => simp only [if_true, List.length_cons, List.length_append, List.length_nil]; omega
    | false => simp only [Bool.false_eq_true, if_false]; omega
end Go.Proofs.YtbepgbkbpkaodaaDoor
