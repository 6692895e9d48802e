/- Layer 17 (query), Show, in plain terms: which trees may be, and their text. -/
import Derived.Test.YtbepgbkbpkaodaaDoorEncP
import Derived.Test.YtbepgbkbpkaodaaDoorShowA
import Derived.Lib.Join
namespace Go.Proofs.YtbepgbkbpkaodaaDoor
open Go.RowKit

def wordOk (t : ByteArray) : Bool := (wordsR 0 (runesS t)).length == 1 && ((wordsR 0 (runesS t))[0]?.getD ((⟨#[]⟩ : ByteArray), 0)).1.toList == t.toList
def termsOk (f : Int) : Int → List (Int × ByteArray × Int) → Bool
  | _, [] => true
  | p, (tf, tt, tp) :: ts => tf == f && wordOk tt && decide (p ≤ tp) && decide (tp ≤ 256) && termsOk f (tp + 1) ts
def headOk : List (Int × ByteArray × Int) → Bool
  | [] => true
  | (_, _, tp) :: _ => tp == 0
def leafOk (f : Int) (ts : List (Int × ByteArray × Int)) : Bool := decide (f ≤ 3) && headOk ts && termsOk f 0 ts
def outL : Int → List (Int × ByteArray × Int) → List (List UInt8)
  | _, [] => []
  | p, (_, tt, tp) :: ts => List.replicate (tp - p).toNat [97] ++ tt.data.toList :: outL (tp + 1) ts
def leafQ (ts : List (Int × ByteArray × Int)) : List UInt8 := Lib.join (outL 0 ts) [32]
def leafX (f : Int) (ts : List (Int × ByteArray × Int)) : List UInt8 := UInt8.ofNat (48 + f).toNat :: 58 :: (if ts.length = 1 then leafQ ts else 34 :: (leafQ ts ++ [34]))
/-- in brackets? -/
def brk (pk kk : Int) : Bool := kk == 3 || (kk == 2 && !(pk == 3))
def sevOk (f : Int) (ts : List (Int × ByteArray × Int)) : Bool := f == 0 && ts.length == 0
def kindN : Nd → Int
  | .mk k _ _ _ => k
mutual
def okN : Nd → Nat → Bool
  | .mk k f ts kids, d => decide (d ≤ 8) && (if k = 1 then kids.length == 0 && leafOk f ts
      else sevOk f ts && ((k == 4 && kids.length == 1) || ((k == 2 || k == 3) && decide (2 ≤ kids.length))) && okL kids (if k = 4 then d + 1 else d) k)
def okL : List Nd → Nat → Int → Bool
  | [], _, _ => true
  | n :: l, d, pk => okN n (if brk pk (kindN n) then d + 1 else d) && okL l d pk
end
mutual
def txtN : Nd → List UInt8
  | .mk k f ts kids => if k = 1 then leafX f ts else if k = 4 then 33 :: Lib.join (txtL kids k) [] else if k = 2 then Lib.join (txtL kids k) [32, 38, 32] else Lib.join (txtL kids k) [32, 124, 32]
def txtL : List Nd → Int → List (List UInt8)
  | [], _ => []
  | n :: l, pk => (if brk pk (kindN n) then 40 :: (txtN n ++ [41]) else txtN n) :: txtL l pk
end
mutual
def deepN : Nat → Nd → Nat
  | 0, _ => 99
  | left + 1, .mk k f ts kids => if k = 1 then (if kids.length == 0 && leafOk f ts then 0 else 99)
      else if sevOk f ts && ((k == 4 && kids.length == 1) || ((k == 2 || k == 3) && decide (2 ≤ kids.length))) then deepL left kids k + (if k = 4 then 1 else 0) else 99
def deepL : Nat → List Nd → Int → Nat
  | _, [], _ => 0
  | left, n :: l, pk => max (deepN left n + if brk pk (kindN n) then 1 else 0) (deepL left l pk)
end

mutual
/-- what is answered with 'no text says it' -/
def gbN : Nd → Nat → List UInt8
  | .mk k f ts kids, d => if d ≤ 8 ∧ k = 4 ∧ sevOk f ts = true ∧ kids.length = 1 then 33 :: gbL kids (d + 1) k else []
def gbL : List Nd → Nat → Int → List UInt8
  | [], _, _ => []
  | n :: _, d, pk => if brk pk (kindN n) then 40 :: (gbN n (d + 1) ++ [41]) else gbN n d
end
theorem gbN_mk (k f : Int) (ts : List (Int × ByteArray × Int)) (kids : List Nd) (d : Nat) : gbN (.mk k f ts kids) d = if d ≤ 8 ∧ k = 4 ∧ sevOk f ts = true ∧ kids.length = 1 then 33 :: gbL kids (d + 1) k else [] := by rw [gbN]
theorem gbL_cons (n : Nd) (l : List Nd) (d : Nat) (pk : Int) : gbL (n :: l) d pk = if brk pk (kindN n) then 40 :: (gbN n (d + 1) ++ [41]) else gbN n d := by rw [gbL]

theorem okN_mk (k f : Int) (ts : List (Int × ByteArray × Int)) (kids : List Nd) (d : Nat) : okN (.mk k f ts kids) d = (decide (d ≤ 8) && (if k = 1 then kids.length == 0 && leafOk f ts
      else sevOk f ts && ((k == 4 && kids.length == 1) || ((k == 2 || k == 3) && decide (2 ≤ kids.length))) && okL kids (if k = 4 then d + 1 else d) k)) := by rw [okN]
theorem okL_cons (n : Nd) (l : List Nd) (d : Nat) (pk : Int) : okL (n :: l) d pk = (okN n (if brk pk (kindN n) then d + 1 else d) && okL l d pk) := by rw [okL]
theorem okL_nil (d : Nat) (pk : Int) : okL [] d pk = true := by rw [okL]
theorem deepN_mk (left : Nat) (k f : Int) (ts : List (Int × ByteArray × Int)) (kids : List Nd) : deepN (left + 1) (.mk k f ts kids) = if k = 1 then (if kids.length == 0 && leafOk f ts then 0 else 99)
      else if sevOk f ts && ((k == 4 && kids.length == 1) || ((k == 2 || k == 3) && decide (2 ≤ kids.length))) then deepL left kids k + (if k = 4 then 1 else 0) else 99 := by rw [deepN]
theorem deepL_cons (left : Nat) (n : Nd) (l : List Nd) (pk : Int) : deepL left (n :: l) pk = max (deepN left n + if brk pk (kindN n) then 1 else 0) (deepL left l pk) := by rw [deepL]
theorem deepL_nil (left : Nat) (pk : Int) : deepL left [] pk = 0 := by rw [deepL]
theorem txtN_mk (k f : Int) (ts : List (Int × ByteArray × Int)) (kids : List Nd) : txtN (.mk k f ts kids) = if k = 1 then leafX f ts else if k = 4 then 33 :: Lib.join (txtL kids k) [] else if k = 2 then Lib.join (txtL kids k) [32, 38, 32] else Lib.join (txtL kids k) [32, 124, 32] := by rw [txtN]
theorem txtL_cons (n : Nd) (l : List Nd) (pk : Int) : txtL (n :: l) pk = (if brk pk (kindN n) then 40 :: (txtN n ++ [41]) else txtN n) :: txtL l pk := by rw [txtL]
theorem txtL_nil (pk : Int) : txtL [] pk = [] := by rw [txtL]
theorem okN_le {n : Nd} {d : Nat} (h : okN n d = true) : d ≤ 8 := by
  obtain ⟨k, f, ts, kids⟩ := n
  rw [okN_mk, Bool.and_eq_true] at h
  exact of_decide_eq_true h.1
def rankN (k : Int) : Nat := if k = 3 then 2 else if k = 2 then 1 else 0
theorem brk_true {pk kk : Int} : brk pk kk = true ↔ kk = 3 ∨ (kk = 2 ∧ pk ≠ 3) := by
  unfold brk
  simp
theorem deep_okL (P : Nd → Prop) (left : Nat) (hP : ∀ n, P n → ∀ d, 3 * (9 - d) + rankN (kindN n) + 1 ≤ left → (okN n d = true ↔ deepN left n + d ≤ 8)) : ∀ (l : List Nd), (∀ n ∈ l, P n) → ∀ (d : Nat) (pk : Int),
    (∀ n ∈ l, 3 * (9 - (if brk pk (kindN n) then d + 1 else d)) + rankN (kindN n) + 1 ≤ left) → ((okL l d pk = true ∧ d ≤ 8) ↔ deepL left l pk + d ≤ 8)
  | [], _, d, pk, _ => by rw [okL_nil, deepL_nil]; simp
  | n :: l, hp, d, pk, hl => by
    have ih := deep_okL P left hP l (fun x hx => hp x (List.mem_cons_of_mem _ hx)) d pk (fun x hx => hl x (List.mem_cons_of_mem _ hx))
    have h1 := hP n (hp n (List.mem_cons_self ..)) _ (hl n (List.mem_cons_self ..))
    rw [okL_cons, deepL_cons, Bool.and_eq_true, h1]
    have hmx : ∀ a b c : Nat, max a b + c ≤ 8 ↔ a + c ≤ 8 ∧ b + c ≤ 8 := fun a b c => by omega
    rw [hmx, ← ih]
    cases brk pk (kindN n) with
    | true =>
      simp only [if_true]
      constructor
      · rintro ⟨⟨a, b⟩, c⟩; exact ⟨by omega, b, c⟩
      · rintro ⟨a, b, c⟩; exact ⟨⟨by omega, b⟩, c⟩
    | false =>
      simp only [Bool.false_eq_true, if_false]
      constructor
      · rintro ⟨⟨a, b⟩, c⟩; exact ⟨by omega, b, c⟩
      · rintro ⟨a, b, c⟩; exact ⟨⟨by omega, b⟩, c⟩
theorem okL_ne {n : Nd} {l : List Nd} {d : Nat} {pk : Int} (h : okL (n :: l) d pk = true) : d ≤ 8 := by
  rw [okL_cons, Bool.and_eq_true] at h
  have := okN_le h.1
  split at this <;> omega
theorem deep_ok : ∀ (N : Nat) (n : Nd), SizeOf.sizeOf n ≤ N → ∀ (d left : Nat), 3 * (9 - d) + rankN (kindN n) + 1 ≤ left → (okN n d = true ↔ deepN left n + d ≤ 8) := by
  intro N
  induction N with
  | zero => intro n hn; cases n; simp at hn
  | succ N ih =>
    intro n hn d left hl
    obtain ⟨k, f, ts, kids⟩ := n
    obtain ⟨left, rfl⟩ : ∃ l, left = l + 1 := ⟨left - 1, by omega⟩
    have hkn : kindN (.mk k f ts kids) = k := rfl
    rw [hkn] at hl
    rw [okN_mk, deepN_mk, Bool.and_eq_true]
    by_cases hk : k = 1
    · rw [if_pos hk, if_pos hk]
      cases hc : (kids.length == 0 && leafOk f ts) with
      | true => simp
      | false => simp; omega
    · rw [if_neg hk, if_neg hk]
      cases hc : (sevOk f ts && ((k == 4 && kids.length == 1) || ((k == 2 || k == 3) && decide (2 ≤ kids.length)))) with
      | false => simp; omega
      | true =>
        rw [Bool.true_and, if_pos rfl]
        rw [Bool.and_eq_true, Bool.or_eq_true] at hc
        have hkk : (k = 4 ∧ kids.length = 1) ∨ ((k = 2 ∨ k = 3) ∧ 2 ≤ kids.length) := by
          rcases hc.2 with h | h
          · rw [Bool.and_eq_true, beq_iff_eq, beq_iff_eq] at h; exact Or.inl h
          · rw [Bool.and_eq_true, Bool.or_eq_true, beq_iff_eq, beq_iff_eq, decide_eq_true_eq] at h; exact Or.inr h
        obtain ⟨n0, l0, hkids⟩ : ∃ n0 l0, kids = n0 :: l0 := by
          cases kids with
          | nil => simp at hkk
          | cons a b => exact ⟨a, b, rfl⟩
        by_cases hd : d ≤ 8
        · have hL := deep_okL (fun n => SizeOf.sizeOf n ≤ N) left (fun n hs d hd => ih n hs d left hd) kids (fun n hm => by
            obtain ⟨i, hi⟩ := List.getElem?_of_mem hm
            have := Nd.kid_size (k := k) (f := f) (ts := ts) hi
            omega) (if k = 4 then d + 1 else d) k (fun n hm => by
            have hb := brk_true (pk := k) (kk := kindN n)
            unfold rankN at hl ⊢
            generalize kindN n = kk at *
            cases hbb : brk k kk with
            | true =>
              have hb := hb.1 hbb
              rcases hkk with ⟨rfl, _⟩ | ⟨rfl | rfl, _⟩
              · simp at hl ⊢; rcases hb with rfl | ⟨rfl, _⟩ <;> simp <;> omega
              · simp at hl ⊢; rcases hb with rfl | ⟨rfl, _⟩ <;> simp <;> omega
              · simp at hl ⊢; rcases hb with rfl | ⟨rfl, h⟩
                · simp; omega
                · exact absurd rfl h
            | false =>
              have hb : ¬ (kk = 3 ∨ kk = 2 ∧ k ≠ 3) := fun h => by rw [hb.2 h] at hbb; cases hbb
              rcases hkk with ⟨rfl, _⟩ | ⟨rfl | rfl, _⟩
              · simp at hl hb ⊢; rw [if_neg hb.1, if_neg hb.2]; omega
              · simp at hl hb ⊢; rw [if_neg hb.1, if_neg hb.2]; omega
              · simp at hl hb ⊢; rw [if_neg hb]; split <;> omega)
          have hne : okL kids (if k = 4 then d + 1 else d) k = true → (if k = 4 then d + 1 else d) ≤ 8 := fun h => by
            rw [hkids] at h
            exact okL_ne h
          have h2 : (decide (d ≤ 8) = true ∧ okL kids (if k = 4 then d + 1 else d) k = true) ↔ deepL left kids k + (if k = 4 then d + 1 else d) ≤ 8 := by
            rw [← hL]
            exact ⟨fun h => ⟨h.2, hne h.2⟩, fun h => ⟨decide_eq_true hd, h.1⟩⟩
          rw [h2]
          by_cases h4 : k = 4
          · rw [if_pos h4, if_pos h4]; omega
          · rw [if_neg h4, if_neg h4]; omega
        · constructor
          · intro h
            exact absurd (of_decide_eq_true h.1) hd
          · intro h
            omega
theorem deep_root (n : Nd) : okN n 0 = true ↔ deepN 40 n ≤ 8 := by
  have := deep_ok _ n (Nat.le_refl _) 0 40 (by unfold rankN; split <;> (try split) <;> omega)
  rw [this]
  exact Iff.rfl
end Go.Proofs.YtbepgbkbpkaodaaDoor
