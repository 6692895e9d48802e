/- Layer 17's document: the text of a query, cut where it is much too long, in plain terms. -/
import Derived.Test.YtbepgbkbpkaodaaDoorShowE
namespace Go.Proofs.YtbepgbkbpkaodaaDoor
open Go.RowKit

def addA (s : ByteArray) : Nat → ByteArray
  | 0 => s
  | k + 1 => addA (s ++ ⟨#[97, 32]⟩) k
theorem addA_size (k : Nat) : ∀ s : ByteArray, (addA s k).size = s.size + 2 * k := by
  induction k with
  | zero => intro s; rfl
  | succ k ih =>
    intro s
    rw [addA, ih, ByteArray.size_append]
    show s.size + 2 + 2 * k = _
    omega
/-- the text of terms, at a place, cut -/
def leafL (s : ByteArray) : Int → List (Int × ByteArray × Int) → ByteArray
  | _, [] => s
  | p, (_, tt, tp) :: ts =>
    let s0 := addA s (tp - p).toNat ++ tt
    let s1 := if ts.length = 0 then s0 else s0 ++ ⟨#[32]⟩
    if 1000 < s1.size then s1 else leafL s1 (tp + 1) ts
def leafRX (f : Int) (ts : List (Int × ByteArray × Int)) : ByteArray := ⟨#[UInt8.ofNat (48 + f).toNat, 58]⟩ ++ (if ts.length = 1 then leafL ⟨#[]⟩ 0 ts else (⟨#[34]⟩ ++ leafL ⟨#[]⟩ 0 ts) ++ ⟨#[34]⟩)
/-- texts one behind the other, cut; `a`: is it the first? -/
def cutJ (sep : ByteArray) (a : Bool) (s : ByteArray) : List ByteArray → ByteArray
  | [] => s
  | x :: xs =>
    let s1 := (if a then s else s ++ sep) ++ x
    if 1000 < s1.size then s1 else cutJ sep false s1 xs
def brX (b : Bool) (s : ByteArray) : ByteArray := if b then (⟨#[40]⟩ ++ s) ++ ⟨#[41]⟩ else s
def sepK (k : Int) : ByteArray := if k = 2 then ⟨#[32, 38, 32]⟩ else ⟨#[32, 124, 32]⟩
mutual
def rtxt : Nd → ByteArray
  | .mk k f ts kids => if k = 1 then leafRX f ts else if k = 4 then ⟨#[33]⟩ ++ (rtxtL kids k).headD ⟨#[]⟩ else cutJ (sepK k) true ⟨#[]⟩ (rtxtL kids k)
def rtxtL : List Nd → Int → List ByteArray
  | [], _ => []
  | n :: l, pk => brX (brk pk (kindN n)) (rtxt n) :: rtxtL l pk
end
theorem rtxt_mk (k f : Int) (ts : List (Int × ByteArray × Int)) (kids : List Nd) : rtxt (.mk k f ts kids) = if k = 1 then leafRX f ts else if k = 4 then ⟨#[33]⟩ ++ (rtxtL kids k).headD ⟨#[]⟩ else cutJ (sepK k) true ⟨#[]⟩ (rtxtL kids k) := by rw [rtxt]
theorem rtxtL_cons (n : Nd) (l : List Nd) (pk : Int) : rtxtL (n :: l) pk = brX (brk pk (kindN n)) (rtxt n) :: rtxtL l pk := by rw [rtxtL]
theorem rtxtL_nil (pk : Int) : rtxtL [] pk = [] := by rw [rtxtL]
theorem brX_size (b : Bool) (s : ByteArray) : (brX b s).size ≤ s.size + 2 := by
  unfold brX
  cases b with
  | false => exact Nat.le_add_right _ _
  | true =>
    rw [if_pos rfl, ByteArray.size_append, ByteArray.size_append]
    show 1 + s.size + 1 ≤ _
    omega
theorem leafL_size (M : Nat) : ∀ (ts : List (Int × ByteArray × Int)) (p f : Int) (s : ByteArray), 0 ≤ p → termsOk f p ts = true → s.size ≤ 1000 → textsN ts ≤ M → (leafL s p ts).size ≤ 1600 + M
  | [], p, f, s, hp, h, hs, hm => by unfold leafL; omega
  | (tf, tt, tp) :: ts, p, f, s, hp, h, hs, hm => by
    have h0 : termsOk f p ((tf, tt, tp) :: ts) = (tf == f && wordOk tt && decide (p ≤ tp) && decide (tp ≤ 256) && termsOk f (tp + 1) ts) := rfl
    rw [h0, Bool.and_eq_true, Bool.and_eq_true, Bool.and_eq_true, decide_eq_true_eq, decide_eq_true_eq] at h
    obtain ⟨⟨⟨_, h1⟩, h2⟩, h3⟩ := h
    have hm2 : tt.size + textsN ts ≤ M := hm
    rw [leafL]
    have hs0 : (addA s (tp - p).toNat ++ tt).size ≤ 1000 + 512 + tt.size := by rw [ByteArray.size_append, addA_size]; omega
    generalize addA s (tp - p).toNat ++ tt = s0 at *
    have hs1 : (if ts.length = 0 then s0 else s0 ++ ⟨#[32]⟩).size ≤ 1000 + 513 + tt.size := by
      split
      · omega
      · rw [ByteArray.size_append]
        show s0.size + 1 ≤ _
        omega
    generalize (if ts.length = 0 then s0 else s0 ++ ⟨#[32]⟩) = s1 at *
    split
    · omega
    · exact leafL_size M ts (tp + 1) f s1 (by omega) h3 (by omega) (by omega)
theorem leafRX_size {f : Int} {ts : List (Int × ByteArray × Int)} (h : leafOk f ts = true) : (leafRX f ts).size ≤ 1604 + textsN ts := by
  unfold leafOk at h
  rw [Bool.and_eq_true] at h
  have := leafL_size (textsN ts) ts 0 f ⟨#[]⟩ (by decide) h.2 (Nat.zero_le _) (Nat.le_refl _)
  unfold leafRX
  rw [ByteArray.size_append]
  generalize leafL ⟨#[]⟩ 0 ts = l at *
  split
  · show 2 + l.size ≤ _
    omega
  · rw [ByteArray.size_append, ByteArray.size_append]
    show 2 + (1 + l.size + 1) ≤ _
    omega
theorem cutJ_size (sep : ByteArray) (hs : sep.size ≤ 3) (M : Nat) : ∀ (xs : List ByteArray) (a : Bool) (s : ByteArray), (∀ x ∈ xs, x.size ≤ M) → s.size ≤ 1000 → (cutJ sep a s xs).size ≤ 1003 + M
  | [], a, s, _, h => by unfold cutJ; omega
  | x :: xs, a, s, hx, h => by
    have h1 := hx x (List.mem_cons_self ..)
    rw [cutJ]
    have hs1 : ((if a then s else s ++ sep) ++ x).size ≤ 1003 + M := by
      rw [ByteArray.size_append]
      split
      · omega
      · rw [ByteArray.size_append]; omega
    generalize (if a then s else s ++ sep) ++ x = s1 at *
    split
    · exact hs1
    · exact cutJ_size sep hs M xs false s1 (fun y hy => hx y (List.mem_cons_of_mem _ hy)) (by omega)
theorem sepK_size (k : Int) : (sepK k).size = 3 := by unfold sepK; split <;> rfl
theorem rtxtL_get {kids : List Nd} {pk : Int} {i : Nat} {n : Nd} (h : kids[i]? = some n) : (rtxtL kids pk)[i]? = some (brX (brk pk (kindN n)) (rtxt n)) := by
  induction kids generalizing i with
  | nil => cases h
  | cons a l ih =>
    rw [rtxtL_cons]
    cases i with
    | zero => injection h with h; subst h; rfl
    | succ i => exact ih h
theorem rtxtL_len (kids : List Nd) (pk : Int) : (rtxtL kids pk).length = kids.length := by
  induction kids with
  | nil => rw [rtxtL_nil]; rfl
  | cons a l ih => rw [rtxtL_cons, List.length_cons, ih, List.length_cons]
theorem okL_get {kids : List Nd} {d : Nat} {pk : Int} (h : okL kids d pk = true) {i : Nat} {n : Nd} (hi : kids[i]? = some n) : ∃ d', okN n d' = true := by
  induction kids generalizing i with
  | nil => cases hi
  | cons a l ih =>
    rw [okL_cons, Bool.and_eq_true] at h
    cases i with
    | zero => injection hi with hi; subst hi; exact ⟨_, h.1⟩
    | succ i => exact ih h.2 hi
/-- what a node that may be has -/
theorem okN_cases {k f : Int} {ts : List (Int × ByteArray × Int)} {kids : List Nd} {d : Nat} (h : okN (.mk k f ts kids) d = true) :
    (k = 1 ∧ kids.length = 0 ∧ leafOk f ts = true) ∨ (k ≠ 1 ∧ sevOk f ts = true ∧ ((k = 4 ∧ kids.length = 1) ∨ ((k = 2 ∨ k = 3) ∧ 2 ≤ kids.length)) ∧ ∃ d', okL kids d' k = true) := by
  rw [okN_mk, Bool.and_eq_true] at h
  have h := h.2
  by_cases hk : k = 1
  · rw [if_pos hk, Bool.and_eq_true, beq_iff_eq] at h
    exact Or.inl ⟨hk, h.1, h.2⟩
  · rw [if_neg hk, Bool.and_eq_true, Bool.and_eq_true] at h
    refine Or.inr ⟨hk, h.1.1, ?_, _, h.2⟩
    have h2 := h.1.2
    rw [Bool.or_eq_true] at h2
    rcases h2 with h2 | h2
    · rw [Bool.and_eq_true, beq_iff_eq, beq_iff_eq] at h2; exact Or.inl h2
    · rw [Bool.and_eq_true, Bool.or_eq_true, beq_iff_eq, beq_iff_eq, decide_eq_true_eq] at h2; exact Or.inr h2
theorem rtxt_size {n : Nd} {m : Nat} (h : Tot n m) : ∀ d, okN n d = true → (rtxt n).size + 10 ≤ 2000 * m := by
  induction h with
  | mk k f ts kids ns hl hk ih =>
    intro d hok
    rw [rtxt_mk]
    rcases okN_cases hok with ⟨h1, h2, h3⟩ | ⟨h1, h2, h3, d', h4⟩
    · rw [if_pos h1]
      have := leafRX_size h3
      omega
    · rw [if_neg h1]
      have hx : ∀ x ∈ rtxtL kids k, x.size + 8 ≤ 2000 * sumL id ns := fun x hx => by
        obtain ⟨i, hi⟩ := List.getElem?_of_mem hx
        have hil := (List.getElem?_eq_some_iff.1 hi).1
        rw [rtxtL_len] at hil
        obtain ⟨n, hn⟩ : ∃ n, kids[i]? = some n := ⟨_, List.getElem?_eq_getElem hil⟩
        obtain ⟨m, hm⟩ : ∃ m, ns[i]? = some m := ⟨_, List.getElem?_eq_getElem (by omega)⟩
        rw [rtxtL_get hn] at hi
        injection hi with hi
        subst hi
        obtain ⟨d9, h9⟩ := okL_get h4 hn
        have h5 := ih i n m hn hm d9 h9
        have h6 := brX_size (brk k (kindN n)) (rtxt n)
        have h7 := sumL_mem id ns m (List.mem_of_getElem? hm)
        have h7 : m ≤ sumL id ns := h7
        have := Nat.mul_le_mul_left 2000 h7
        omega
      rw [Nat.mul_add]
      have hp : 2000 ≤ 2000 * (1 + ts.length + textsN ts) := by omega
      split
      · rw [ByteArray.size_append]
        cases hq : rtxtL kids k with
        | nil =>
          show 1 + 0 + 10 ≤ _
          omega
        | cons y l =>
          have := hx y (by rw [hq]; exact List.mem_cons_self ..)
          show 1 + y.size + 10 ≤ _
          omega
      · have := cutJ_size (sepK k) (by rw [sepK_size]; decide) (2000 * sumL id ns - 8) (rtxtL kids k) true ⟨#[]⟩ (fun x h => by have := hx x h; omega) (Nat.zero_le _)
        cases hq : rtxtL kids k with
        | nil =>
          show 0 + 10 ≤ _
          omega
        | cons y l =>
          have h9 := hx y (by rw [hq]; exact List.mem_cons_self ..)
          rw [hq] at this
          omega

/-- the same text, or both much too long -/
def TxtR (s full : List UInt8) : Prop := s = full ∨ (1000 < s.length ∧ 1000 < full.length)
theorem addA_data (k : Nat) : ∀ s : ByteArray, (addA s k).data.toList ++ [97] = s.data.toList ++ Lib.join (List.replicate (k + 1) [97]) [32] := by
  induction k with
  | zero => intro s; rfl
  | succ k ih =>
    intro s
    rw [addA, ih, List.replicate_succ (n := k + 1), Lib.join_cons, List.replicate_succ, ByteArray.data_append, Array.toList_append, Lib.join_cons]
    show _ = _ ++ ([97] ++ (([32] ++ [97]) ++ Lib.joinTail [32] (List.replicate k [97])))
    simp
theorem addA_join (k : Nat) (s : ByteArray) (x : List UInt8) (r : List (List UInt8)) : (addA s k).data.toList ++ Lib.join (x :: r) [32] = s.data.toList ++ Lib.join (List.replicate k [97] ++ x :: r) [32] := by
  induction k generalizing s with
  | zero => rfl
  | succ k ih =>
    rw [addA, ih, List.replicate_succ, List.cons_append, Lib.join_cons (x := [97]), ByteArray.data_append, Array.toList_append, List.append_assoc]
    congr 1
    cases hq : List.replicate k [97] ++ x :: r with
    | nil => simp at hq
    | cons y l =>
      rw [Lib.join_cons]
      show [97, 32] ++ (y ++ _) = [97] ++ (([32] ++ y) ++ Lib.joinTail [32] l)
      simp
theorem leafL_full : ∀ (ts : List (Int × ByteArray × Int)) (p : Int) (s : ByteArray), TxtR (leafL s p ts).data.toList (s.data.toList ++ Lib.join (outL p ts) [32])
  | [], p, s => by unfold leafL outL; exact Or.inl (by rw [Lib.join_nil, List.append_nil])
  | (tf, tt, tp) :: ts, p, s => by
    rw [leafL]
    have he : outL p ((tf, tt, tp) :: ts) = List.replicate (tp - p).toNat [97] ++ tt.data.toList :: outL (tp + 1) ts := rfl
    rw [he, ← addA_join, Lib.join_cons]
    have hs0 : (addA s (tp - p).toNat ++ tt).data.toList = (addA s (tp - p).toNat).data.toList ++ tt.data.toList := by rw [ByteArray.data_append, Array.toList_append]
    rw [← List.append_assoc, ← hs0]
    generalize addA s (tp - p).toNat ++ tt = s0 at *
    have hs1 : s0.data.toList ++ Lib.joinTail [32] (outL (tp + 1) ts) = (if ts.length = 0 then s0 else s0 ++ ⟨#[32]⟩).data.toList ++ Lib.join (outL (tp + 1) ts) [32] := by
      cases ts with
      | nil => rfl
      | cons y l =>
        rw [if_neg (by simp)]
        obtain ⟨yf, yt, yp⟩ := y
        have he : ∃ z zs, outL (tp + 1) ((yf, yt, yp) :: l) = z :: zs := by
          have : outL (tp + 1) ((yf, yt, yp) :: l) = List.replicate (yp - (tp + 1)).toNat [97] ++ yt.data.toList :: outL (yp + 1) l := rfl
          rw [this]
          cases List.replicate (yp - (tp + 1)).toNat ([97] : List UInt8) with
          | nil => exact ⟨_, _, rfl⟩
          | cons a b => exact ⟨_, _, rfl⟩
        obtain ⟨z, zs, he⟩ := he
        rw [he, Lib.join_cons, ByteArray.data_append, Array.toList_append]
        show _ ++ (([32] ++ z) ++ Lib.joinTail [32] zs) = _
        simp
    rw [hs1]
    generalize (if ts.length = 0 then s0 else s0 ++ ⟨#[32]⟩) = s1 at *
    by_cases hq : 1000 < s1.size
    · rw [if_pos hq]
      refine Or.inr ⟨by rw [bsize]; exact hq, by rw [List.length_append, bsize]; omega⟩
    · rw [if_neg hq]
      exact leafL_full ts (tp + 1) s1
theorem leafRX_full (f : Int) (ts : List (Int × ByteArray × Int)) : TxtR (leafRX f ts).data.toList (leafX f ts) := by
  have h := leafL_full ts 0 ⟨#[]⟩
  have h : TxtR (leafL ⟨#[]⟩ 0 ts).data.toList (leafQ ts) := h
  have hX : leafX f ts = [UInt8.ofNat (48 + f).toNat, 58] ++ (if ts.length = 1 then leafQ ts else [34] ++ leafQ ts ++ [34]) := by
    unfold leafX
    split <;> simp
  have hR : (leafRX f ts).data.toList = [UInt8.ofNat (48 + f).toNat, 58] ++ (if ts.length = 1 then (leafL ⟨#[]⟩ 0 ts).data.toList else [34] ++ (leafL ⟨#[]⟩ 0 ts).data.toList ++ [34]) := by
    unfold leafRX
    rw [ByteArray.data_append, Array.toList_append]
    split
    · rfl
    · rw [ByteArray.data_append, ByteArray.data_append, Array.toList_append, Array.toList_append]
  rw [hX, hR]
  rcases h with h | ⟨h1, h2⟩
  · rw [h]; exact Or.inl rfl
  · refine Or.inr ⟨?_, ?_⟩
    · split <;> simp only [List.length_append, List.length_cons, List.length_nil] <;> omega
    · split <;> simp only [List.length_append, List.length_cons, List.length_nil] <;> omega
inductive All2 : List ByteArray → List (List UInt8) → Prop
  | nil : All2 [] []
  | cons {x : ByteArray} {y : List UInt8} {xs : List ByteArray} {ys : List (List UInt8)} (h : TxtR x.data.toList y) (hs : All2 xs ys) : All2 (x :: xs) (y :: ys)
theorem cutJ_full (sep : ByteArray) : ∀ (xs : List ByteArray) (ys : List (List UInt8)) (s : ByteArray), All2 xs ys → TxtR (cutJ sep false s xs).data.toList (s.data.toList ++ Lib.joinTail sep.data.toList ys)
  | _, _, s, .nil => by unfold cutJ; exact Or.inl (by show _ = _ ++ []; rw [List.append_nil])
  | _, _, s, .cons (x := x) (y := y) (xs := xs) (ys := ys) h hs => by
    rw [cutJ, show (if false = true then s else s ++ sep) = s ++ sep from rfl]
    have hj : Lib.joinTail sep.data.toList (y :: ys) = (sep.data.toList ++ y) ++ Lib.joinTail sep.data.toList ys := rfl
    rw [hj]
    have hd : ((s ++ sep) ++ x).data.toList = s.data.toList ++ (sep.data.toList ++ x.data.toList) := by rw [ByteArray.data_append, ByteArray.data_append, Array.toList_append, Array.toList_append, List.append_assoc]
    have hsz : ((s ++ sep) ++ x).size = s.size + sep.size + x.size := by rw [ByteArray.size_append, ByteArray.size_append]
    by_cases hq : 1000 < ((s ++ sep) ++ x).size
    · rw [if_pos hq]
      refine Or.inr ⟨by rw [bsize]; exact hq, ?_⟩
      rw [List.length_append, List.length_append, List.length_append, bsize, bsize]
      rcases h with h | ⟨h1, h2⟩
      · rw [← h, bsize]; omega
      · omega
    · rw [if_neg hq]
      rcases h with h | ⟨h1, h2⟩
      · subst h
        have := cutJ_full sep xs ys ((s ++ sep) ++ x) hs
        rw [hd, List.append_assoc] at this
        exact this
      · rw [bsize] at h1
        omega
theorem cutF_full (sep : ByteArray) (xs : List ByteArray) (ys : List (List UInt8)) (h : All2 xs ys) : TxtR (cutJ sep true ⟨#[]⟩ xs).data.toList (Lib.join ys sep.data.toList) := by
  cases h with
  | nil => exact Or.inl rfl
  | cons h hs =>
    rename_i x y xs ys
    rw [cutJ]
    rw [if_pos rfl, Lib.join_cons]
    have hx : (⟨#[]⟩ : ByteArray) ++ x = x := by
      apply ByteArray.ext
      rw [ByteArray.data_append]
      simp
    rw [hx]
    by_cases hq : 1000 < x.size
    · rw [if_pos hq]
      refine Or.inr ⟨by rw [bsize]; exact hq, ?_⟩
      rw [List.length_append]
      rcases h with h | ⟨h1, h2⟩
      · rw [← h, bsize]; omega
      · omega
    · rw [if_neg hq]
      rcases h with h | ⟨h1, h2⟩
      · subst h
        exact cutJ_full sep xs ys x hs
      · rw [bsize] at h1
        omega
theorem brX_full {b : Bool} {s : ByteArray} {t : List UInt8} (h : TxtR s.data.toList t) : TxtR (brX b s).data.toList (if b then 40 :: (t ++ [41]) else t) := by
  unfold brX
  cases b with
  | false => exact h
  | true =>
    rw [if_pos rfl, if_pos rfl, ByteArray.data_append, ByteArray.data_append, Array.toList_append, Array.toList_append]
    rcases h with h | ⟨h1, h2⟩
    · rw [h]; exact Or.inl rfl
    · refine Or.inr ⟨by simp only [List.length_append, List.length_cons, List.length_nil]; omega, by simp only [List.length_append, List.length_cons, List.length_nil]; omega⟩
theorem rtxtL_full (pk : Int) : ∀ (kids : List Nd), (∀ n ∈ kids, TxtR (rtxt n).data.toList (txtN n)) → All2 (rtxtL kids pk) (txtL kids pk)
  | [], _ => by rw [rtxtL_nil, txtL_nil]; exact .nil
  | n :: l, h => by
    rw [rtxtL_cons, txtL_cons]
    exact .cons (brX_full (h n (List.mem_cons_self ..))) (rtxtL_full pk l fun n hn => h n (List.mem_cons_of_mem _ hn))
theorem rtxt_full : ∀ (N : Nat) (n : Nd), SizeOf.sizeOf n ≤ N → ∀ d, okN n d = true → TxtR (rtxt n).data.toList (txtN n) := by
  intro N
  induction N with
  | zero => intro n hn; cases n; simp at hn
  | succ N ih =>
    intro n hn d hok
    obtain ⟨k, f, ts, kids⟩ := n
    rw [rtxt_mk, txtN_mk]
    rcases okN_cases hok with ⟨h1, h2, h3⟩ | ⟨h1, h2, h3, d', h4⟩
    · rw [if_pos h1, if_pos h1]
      exact leafRX_full f ts
    · rw [if_neg h1, if_neg h1]
      have hF := rtxtL_full k kids fun n hm => by
        obtain ⟨i, hi⟩ := List.getElem?_of_mem hm
        obtain ⟨d9, h9⟩ := okL_get h4 hi
        have := Nd.kid_size (k := k) (f := f) (ts := ts) hi
        exact ih n (by omega) d9 h9
      by_cases h5 : k = 4
      · rw [if_pos h5, if_pos h5]
        rcases h3 with ⟨_, h3⟩ | ⟨h3, _⟩
        · match kids, h3 with
          | [n], _ =>
            rw [rtxtL_cons, rtxtL_nil, txtL_cons, txtL_nil] at hF ⊢
            cases hF with
            | cons h hs =>
              show TxtR (⟨#[33]⟩ ++ brX (brk k (kindN n)) (rtxt n)).data.toList (33 :: Lib.join [_] [])
              rw [ByteArray.data_append, Array.toList_append, Lib.join_one]
              rcases h with h | ⟨h1, h2⟩
              · rw [h]; exact Or.inl rfl
              · refine Or.inr ⟨by rw [List.length_append]; omega, by rw [List.length_cons]; omega⟩
        · rcases h3 with h3 | h3 <;> omega
      · rw [if_neg h5, if_neg h5]
        by_cases h6 : k = 2
        · rw [if_pos h6]
          have := cutF_full (sepK k) _ _ hF
          rw [show sepK k = ⟨#[32, 38, 32]⟩ by unfold sepK; rw [if_pos h6]] at this ⊢
          exact this
        · rw [if_neg h6]
          have := cutF_full (sepK k) _ _ hF
          rw [show sepK k = ⟨#[32, 124, 32]⟩ by unfold sepK; rw [if_neg h6]] at this ⊢
          exact this
end Go.Proofs.YtbepgbkbpkaodaaDoor
