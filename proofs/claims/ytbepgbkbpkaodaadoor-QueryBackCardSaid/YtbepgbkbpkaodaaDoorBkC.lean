/- Layer 17: what is shown of a query is read as it: the tree, in plain terms. -/
import Derived.Test.YtbepgbkbpkaodaaDoorBkB
namespace Go.Proofs.YtbepgbkbpkaodaaDoor
open Go.RowKit

/-- what may stand behind a part of an and, of an or -/
def stopA (rest : List Int) : Prop := endW rest ∧ ∀ c, (skipS rest).head? = some c → c = 41 ∨ c = 124 ∨ c = 35
def stopO (rest : List Int) : Prop := endW rest ∧ ∀ c, (skipS rest).head? = some c → c = 41 ∨ c = 35
theorem stopO.a {rest : List Int} (h : stopO rest) : stopA rest := ⟨h.1, fun c hc => (h.2 c hc).elim Or.inl fun h => Or.inr (Or.inr h)⟩
theorem sign_no {rest : List Int} {ch : Int} (h : ∀ c, (skipS rest).head? = some c → c ≠ ch) : signS ch rest = false := by
  unfold signS
  cases hq : (skipS rest).head? with
  | none => rfl
  | some c =>
    have := h c hq
    simpa using this
theorem andM_stop {rest : List Int} (h : stopA rest) : andM rest = (false, skipS rest) := by
  have h1 : signS 38 rest = false := sign_no fun c hc e => by subst e; rcases h.2 _ hc with h | h | h <;> omega
  have h2 : afterS 38 rest = skipS rest := afterS_no (by rw [h1]; decide)
  have h3 : beginS (skipS rest) = false := by
    unfold beginS
    cases hq : (skipS rest).head? with
    | none => rfl
    | some c => rcases h.2 c hq with rfl | rfl | rfl <;> rfl
  unfold andM
  rw [h1, if_neg (by decide), h2, skip_idem, h3]
theorem orM_stop {rest : List Int} (h : stopO rest) : orM (skipS rest) = (false, skipS rest) := by
  have h1 : signS 124 (skipS rest) = false := sign_no fun c hc e => by rw [skip_idem] at hc; subst e; rcases h.2 _ hc with h | h <;> omega
  unfold orM
  rw [h1, afterS_no (by rw [h1]; decide), skip_idem]
theorem bl32 : blL [32] := fun r hr => by rw [List.mem_singleton] at hr; subst hr; rfl
def tailA (K : Nd → List Int) (kids : List Nd) : List Int := (kids.map fun n => [32, 38, 32] ++ K n).flatten
def tailO (K : Nd → List Int) (kids : List Nd) : List Int := (kids.map fun n => [32, 124, 32] ++ K n).flatten
theorem tailA_cons (K : Nd → List Int) (n : Nd) (l : List Nd) (rest : List Int) : tailA K (n :: l) ++ rest = 32 :: 38 :: 32 :: (K n ++ (tailA K l ++ rest)) := by
  unfold tailA
  rw [List.map_cons, List.flatten_cons]
  simp
theorem tailO_cons (K : Nd → List Int) (n : Nd) (l : List Nd) (rest : List Int) : tailO K (n :: l) ++ rest = 32 :: 124 :: 32 :: (K n ++ (tailO K l ++ rest)) := by
  unfold tailO
  rw [List.map_cons, List.flatten_cons]
  simp
theorem endW_tailA {K : Nd → List Int} {kids : List Nd} {rest : List Int} (h : endW rest) : endW (tailA K kids ++ rest) := by
  cases kids with
  | nil => exact h
  | cons a l =>
    rw [tailA_cons]
    intro r hr
    injection hr with hr
    subst hr
    rfl
theorem skip32 (l : List Int) : skipS (32 :: l) = skipS l := List.dropWhile_cons_of_pos rfl
theorem stopA_tailO {K : Nd → List Int} {kids : List Nd} {rest : List Int} (h : stopO rest) : stopA (tailO K kids ++ rest) := by
  cases kids with
  | nil => exact h.a
  | cons a l =>
    rw [tailO_cons]
    refine ⟨fun r hr => by injection hr with hr; subst hr; rfl, fun c hc => ?_⟩
    rw [skip32, skip_hd rfl] at hc
    injection hc with hc
    exact Or.inr (Or.inl hc.symm)
theorem chainA {m : Nat} {K : Nd → List Int} {rest : List Int} (hr : stopA rest) : ∀ (kids acc : List Nd), (∀ n ∈ kids, ∀ R, endW R → notS m (K n ++ R) = .ok (n, R)) →
    loopS (notS m) andM 2 ((tailA K kids ++ rest).length + 1) acc (tailA K kids ++ rest) = .ok (severalN 2 (acc ++ kids), skipS rest)
  | [], acc, _ => by
    rw [List.append_nil]
    show (if (andM rest).1 = true then _ else (.ok (severalN 2 acc, (andM rest).2) : PRes)) = _
    rw [andM_stop hr, if_neg (by exact Bool.false_ne_true)]
  | n :: l, acc, h => by
    have hm : andM (tailA K (n :: l) ++ rest) = (true, 32 :: (K n ++ (tailA K l ++ rest))) := by
      rw [tailA_cons]
      have e1 : signS 38 (32 :: 38 :: 32 :: (K n ++ (tailA K l ++ rest))) = true := by
        show signS 38 ([32] ++ _) = true
        rw [bl32.sign, sign_hd2 rfl]
        rfl
      have e2 : afterS 38 (32 :: 38 :: 32 :: (K n ++ (tailA K l ++ rest))) = 32 :: (K n ++ (tailA K l ++ rest)) := by
        show afterS 38 ([32] ++ _) = _
        rw [bl32.after, after_hd rfl]
      unfold andM
      rw [if_pos e1, e2]
    have hf : notS m (andM (tailA K (n :: l) ++ rest)).2 = .ok (n, tailA K l ++ rest) := by
      rw [hm]
      show notS m ([32] ++ _) = _
      rw [bl32.not]
      exact h n (List.mem_cons_self ..) _ (endW_tailA hr.1)
    rw [loopS_next (notS_prog m) andM_le (by rw [hm]) hf, chainA hr l (acc ++ [n]) fun n hn => h n (List.mem_cons_of_mem _ hn), List.append_assoc]
    rfl
theorem andOf32 (m : Nat) (l : List Int) : andOf (notS m) (32 :: l) = andOf (notS m) l := by
  unfold andOf listOf
  rw [show (32 :: l) = [32] ++ l from rfl, bl32.not]
theorem chainO {m : Nat} {K : Nd → List Int} {rest : List Int} (hr : stopO rest) : ∀ (kids acc : List Nd), (∀ n ∈ kids, ∀ R, stopA R → andOf (notS m) (K n ++ R) = .ok (n, skipS R)) →
    loopS (andOf (notS m)) orM 3 ((skipS (tailO K kids ++ rest)).length + 1) acc (skipS (tailO K kids ++ rest)) = .ok (severalN 3 (acc ++ kids), skipS rest)
  | [], acc, _ => by
    rw [List.append_nil]
    show (if (orM (skipS rest)).1 = true then _ else (.ok (severalN 3 acc, (orM (skipS rest)).2) : PRes)) = _
    rw [orM_stop hr, if_neg (by exact Bool.false_ne_true)]
  | n :: l, acc, h => by
    have hsk : skipS (tailO K (n :: l) ++ rest) = 124 :: 32 :: (K n ++ (tailO K l ++ rest)) := by rw [tailO_cons, skip32, skip_hd rfl]
    have hm : orM (skipS (tailO K (n :: l) ++ rest)) = (true, 32 :: (K n ++ (tailO K l ++ rest))) := by
      rw [hsk]
      unfold orM
      rw [sign_hd2 rfl, after_hd rfl]
      rfl
    have hf : andOf (notS m) (orM (skipS (tailO K (n :: l) ++ rest))).2 = .ok (n, skipS (tailO K l ++ rest)) := by
      rw [hm]
      dsimp only
      rw [andOf32]
      exact h n (List.mem_cons_self ..) _ (stopA_tailO hr)
    rw [loopS_next (andOf_prog (notS_prog m)) orM_le (by rw [hm]) hf, chainO hr l (acc ++ [n]) fun n hn => h n (List.mem_cons_of_mem _ hn), List.append_assoc]
    rfl
/-- one part alone -/
theorem andOf_one {m : Nat} {l rest : List Int} {n : Nd} (h : notS m l = .ok (n, rest)) (hr : stopA rest) : andOf (notS m) l = .ok (n, skipS rest) := by
  unfold andOf listOf
  rw [h]
  exact chainA (K := fun _ => []) hr [] [n] fun n hn => by cases hn
theorem orOf_one {m : Nat} {l rest : List Int} {n : Nd} (h : andOf (notS m) l = .ok (n, skipS rest)) (hr : stopO rest) : orOf (notS m) l = .ok (n, skipS rest) := by
  unfold orOf listOf
  rw [h]
  exact chainO (m := m) (K := fun _ => []) hr [] [n] fun n hn => by cases hn
/-- in brackets -/
theorem notS_br {m : Nat} {Z rest : List Int} {n : Nd} (h : orOf (notS m) (Z ++ 41 :: rest) = .ok (n, skipS (41 :: rest))) : notS (m + 1) (40 :: (Z ++ [41]) ++ rest) = .ok (n, rest) := by
  have e0 : 40 :: (Z ++ [41]) ++ rest = 40 :: (Z ++ 41 :: rest) := by simp
  rw [skip_hd rfl] at h
  rw [e0]
  unfold notS
  rw [sign_hd2 rfl, if_neg (by decide), after_ne rfl (by decide), sign_hd2 rfl, if_pos (by rfl), after_hd rfl, h]
  dsimp only
  rw [sign_hd2 rfl, if_pos (by rfl), after_hd rfl]
theorem notS_bang {m : Nat} {l rest : List Int} {n : Nd} (h : notS m l = .ok (n, rest)) : notS (m + 1) (33 :: l) = .ok (.mk 4 0 [] [n], rest) := by
  unfold notS
  rw [sign_hd2 rfl, if_pos (by rfl), after_hd rfl, h]
theorem notS_leaf (m : Nat) {f : Int} {ts : List (Int × ByteArray × Int)} (h0 : 0 ≤ f) (h : leafOk f ts = true) (rest : List Int) (hr : endW rest) : notS m (leafZ f ts ++ rest) = .ok (.mk 1 f ts [], rest) := by
  have hf3 : f ≤ 3 := by unfold leafOk at h; rw [Bool.and_eq_true, Bool.and_eq_true, decide_eq_true_eq] at h; exact h.1.1
  have hw := isW_bl (digit_w h0 hf3)
  have hL := leaf_read h0 h rest hr
  obtain ⟨X, hX⟩ : ∃ X, leafZ f ts ++ rest = (48 + f) :: X := ⟨_, rfl⟩
  rw [hX] at hL ⊢
  have e1 : signS 33 ((48 + f) :: X) = false := by rw [sign_hd2 hw.1]; simpa using hw.2.1
  have e2 : afterS 33 ((48 + f) :: X) = (48 + f) :: X := after_ne hw.1 hw.2.1
  have e3 : signS 40 ((48 + f) :: X) = false := by rw [sign_hd2 hw.1]; simpa using hw.2.2.1
  have e4 : afterS 40 ((48 + f) :: X) = (48 + f) :: X := after_ne hw.1 hw.2.2.1
  cases m with
  | zero => unfold notS; rw [e1, if_neg (by decide), e2, e3, if_neg (by decide), e4, hL]
  | succ m => unfold notS; rw [e1, if_neg (by decide), e2, e3, if_neg (by decide), e4, hL]
/-- a kid's text -/
def kidZ (pk : Int) (n : Nd) : List Int := if brk pk (kindN n) then 40 :: (txtZ n ++ [41]) else txtZ n
theorem txtLZ_map (pk : Int) : ∀ l : List Nd, txtLZ l pk = l.map (kidZ pk)
  | [] => by rw [txtLZ_nil]; rfl
  | n :: l => by rw [txtLZ_cons, txtLZ_map pk l]; rfl
theorem jz_tail (sep : List Int) (K : Nd → List Int) (n : Nd) (l : List Nd) : jz sep ((n :: l).map K) = K n ++ (l.map fun n => sep ++ K n).flatten := by
  have e : jz sep ((n :: l).map K) = K n ++ ((l.map K).map (sep ++ ·)).flatten := rfl
  rw [e, List.map_map]
  rfl
structure Read (m d : Nat) (n : Nd) : Prop where
  pn : (kindN n = 1 ∨ kindN n = 4) → ∀ rest, endW rest → notS m (txtZ n ++ rest) = .ok (n, rest)
  pa : kindN n ≠ 3 → ∀ rest, stopA rest → andOf (notS m) (txtZ n ++ rest) = .ok (n, skipS rest)
  po : ∀ rest, stopO rest → orOf (notS m) (txtZ n ++ rest) = .ok (n, skipS rest)
theorem okN_kind {n : Nd} {d : Nat} (h : okN n d = true) : kindN n = 1 ∨ kindN n = 2 ∨ kindN n = 3 ∨ kindN n = 4 := by
  obtain ⟨k, f, ts, kids⟩ := n
  show k = 1 ∨ k = 2 ∨ k = 3 ∨ k = 4
  obtain ⟨_, h | ⟨_, _, _, h, _⟩⟩ := okN_kids h
  · exact Or.inl h.1
  · omega
theorem read_ok : ∀ (N : Nat) (n : Nd), SizeOf.sizeOf n ≤ N → ∀ m d, m + d = 8 → okN n d = true → FieldsOk n → Read m d n := by
  intro N
  induction N with
  | zero => intro n hn; cases n; simp at hn
  | succ N ih =>
    intro n hn m d hmd hok hf
    cases hf with
    | mk k f ts kids hf0 hfk =>
    have hpN : (∀ rest, endW rest → notS m (txtZ (.mk k f ts kids) ++ rest) = .ok (.mk k f ts kids, rest)) → Read m d (.mk k f ts kids) := fun h =>
      have ha : ∀ rest, stopA rest → andOf (notS m) (txtZ (.mk k f ts kids) ++ rest) = .ok (.mk k f ts kids, skipS rest) := fun rest hr => andOf_one (h rest hr.1) hr
      ⟨fun _ => h, fun _ => ha, fun rest hr => orOf_one (ha rest hr.a) hr⟩
    have hkn : kindN (.mk k f ts kids) = k := rfl
    obtain ⟨hd, h | ⟨h1, rfl, rfl, h4, h5⟩⟩ := okN_kids hok
    · obtain ⟨rfl, rfl, h3⟩ := h
      refine hpN fun rest hr => ?_
      rw [txtZ_mk, if_pos rfl]
      exact notS_leaf m hf0 h3 rest hr
    · have hrd : ∀ n ∈ kids, ∀ m' d', m' + d' = 8 → okN n d' = true → Read m' d' n := fun n hn' m' d' h1 h2 => ih n (by have := kid_lt (k := k) (f := 0) (ts := []) hn'; omega) m' d' h1 h2 (hfk n hn')
      have hkk := okL_mem h5
      -- a kid below a not or an and, read by 'not'
      have hnot : ∀ n ∈ kids, ∀ m' d', m' + d' = 8 → k ≠ 3 → okN n (if brk k (kindN n) then d' + 1 else d') = true → ∀ R, endW R → notS m' (kidZ k n ++ R) = .ok (n, R) := by
        intro n hm m' d' h6 h7 h8 R hR
        unfold kidZ
        cases hb : brk k (kindN n) with
        | true =>
          rw [hb, if_pos rfl] at h8
          rw [if_pos rfl]
          have := okN_le h8
          obtain ⟨m', rfl⟩ : ∃ x, m' = x + 1 := ⟨m' - 1, by omega⟩
          have hr := hrd n hm m' (d' + 1) (by omega) h8
          refine notS_br (hr.po (41 :: R) ⟨fun r hr => by injection hr with hr; subst hr; rfl, fun c hc => ?_⟩)
          rw [skip_hd rfl] at hc
          injection hc with hc
          exact Or.inl hc.symm
        | false =>
          rw [hb, if_neg (by decide)] at h8
          rw [if_neg (by decide)]
          have hr := hrd n hm m' d' (by omega) h8
          refine hr.pn ?_ R hR
          have hk := okN_kind h8
          have hnb : ¬ (kindN n = 3 ∨ (kindN n = 2 ∧ k ≠ 3)) := fun h => by rw [brk_true.2 h] at hb; cases hb
          omega
      by_cases k4 : k = 4
      · subst k4
        obtain ⟨n, rfl⟩ : ∃ n, kids = [n] := by
          rcases h4 with ⟨_, h⟩ | ⟨h, _⟩
          · match kids, h with
            | [n], _ => exact ⟨n, rfl⟩
          · omega
        rw [if_pos rfl] at h5 hkk
        have h8 := hkk n (List.mem_cons_self ..)
        have := okN_le h8
        obtain ⟨m, rfl⟩ : ∃ x, m = x + 1 := ⟨m - 1, by split at this <;> omega⟩
        refine hpN fun rest hr => ?_
        have htx : txtZ (.mk 4 0 [] [n]) ++ rest = 33 :: (kidZ 4 n ++ rest) := by
          rw [txtZ_mk, if_neg (by decide), if_pos rfl, txtLZ_map]
          show 33 :: (kidZ 4 n ++ []) ++ rest = _
          rw [List.append_nil]
          rfl
        rw [htx]
        exact notS_bang (hnot n (List.mem_cons_self ..) m (d + 1) (by omega) (by decide) h8 rest hr)
      · rw [if_neg k4] at h5 hkk
        have hlen : 2 ≤ kids.length := by rcases h4 with ⟨h, _⟩ | ⟨_, h⟩; exact absurd h k4; exact h
        obtain ⟨n0, l, rfl⟩ : ∃ n0 l, kids = n0 :: l := by
          cases kids with
          | nil => simp at hlen
          | cons a l => exact ⟨a, l, rfl⟩
        have hl0 : l ≠ [] := fun e => by rw [e] at hlen; simp at hlen
        have hsev : ∀ kk : Int, severalN kk ([n0] ++ l) = .mk kk 0 [] (n0 :: l) := fun kk => by
          cases l with
          | nil => exact absurd rfl hl0
          | cons a b => rfl
        by_cases k2 : k = 2
        · subst k2
          have htx : ∀ rest, txtZ (.mk 2 0 [] (n0 :: l)) ++ rest = kidZ 2 n0 ++ (tailA (kidZ 2) l ++ rest) := fun rest => by
            rw [txtZ_mk, if_neg (by decide), if_neg (by decide), if_pos rfl, txtLZ_map, jz_tail, List.append_assoc]
            rfl
          have hA : ∀ rest, stopA rest → andOf (notS m) (txtZ (.mk 2 0 [] (n0 :: l)) ++ rest) = .ok (.mk 2 0 [] (n0 :: l), skipS rest) := fun rest hr => by
            rw [htx]
            unfold andOf listOf
            rw [hnot n0 (List.mem_cons_self ..) m d hmd (by decide) (hkk n0 (List.mem_cons_self ..)) _ (endW_tailA hr.1)]
            dsimp only
            rw [chainA hr l [n0] fun n hn => hnot n (List.mem_cons_of_mem _ hn) m d hmd (by decide) (hkk n (List.mem_cons_of_mem _ hn)), hsev]
          exact ⟨fun h => by rw [hkn] at h; omega, fun _ => hA, fun rest hr => orOf_one (hA rest hr.a) hr⟩
        · have k3 : k = 3 := by omega
          subst k3
          have htx : ∀ rest, txtZ (.mk 3 0 [] (n0 :: l)) ++ rest = kidZ 3 n0 ++ (tailO (kidZ 3) l ++ rest) := fun rest => by
            rw [txtZ_mk, if_neg (by decide), if_neg (by decide), if_neg (by decide), txtLZ_map, jz_tail, List.append_assoc]
            rfl
          have hand : ∀ n ∈ n0 :: l, ∀ R, stopA R → andOf (notS m) (kidZ 3 n ++ R) = .ok (n, skipS R) := fun n hm R hR => by
            have h8 := hkk n hm
            unfold kidZ
            cases hb : brk 3 (kindN n) with
            | true =>
              rw [hb, if_pos rfl] at h8
              rw [if_pos rfl]
              have := okN_le h8
              obtain ⟨m, rfl⟩ : ∃ x, m = x + 1 := ⟨m - 1, by omega⟩
              have hr := hrd n hm m (d + 1) (by omega) h8
              refine andOf_one (notS_br (hr.po (41 :: R) ⟨fun r hr => by injection hr with hr; subst hr; rfl, fun c hc => ?_⟩)) hR
              rw [skip_hd rfl] at hc
              injection hc with hc
              exact Or.inl hc.symm
            | false =>
              rw [hb, if_neg (by decide)] at h8
              rw [if_neg (by decide)]
              refine (hrd n hm m d hmd h8).pa (fun h => ?_) R hR
              rw [h] at hb
              cases hb
          refine ⟨fun h => by rw [hkn] at h; omega, fun h => absurd hkn h, fun rest hr => ?_⟩
          rw [htx]
          show orOf (notS m) _ = _
          unfold orOf listOf
          rw [hand n0 (List.mem_cons_self ..) _ (stopA_tailO hr)]
          dsimp only
          rw [chainO hr l [n0] fun n hn => hand n (List.mem_cons_of_mem _ hn), hsev]

def tailZ (li : Nat) (o : Int) : List Int := 32 :: 35 :: ((Lib.decDigits li).map fun c => (c.toNat : Int)) ++ ((orderT o).map fun c => (c.toNat : Int))
def tailOkB (li : Nat) (o : Int) : Bool := match tailOf (skipS (tailZ li o)) with
  | .ok (a, b) => a == (li : Int) && b == o
  | .error _ => false
def digZ (n : Nat) : List UInt8 := if n < 10 then [UInt8.ofNat (48 + n)] else [UInt8.ofNat (48 + n / 10), UInt8.ofNat (48 + n % 10)]
theorem dec_digZ {n : Nat} (h : n < 100) : Lib.decDigits n = digZ n := by
  unfold digZ
  by_cases h1 : n < 10
  · rw [if_pos h1, Lib.decDigits_one h1]
  · rw [if_neg h1, Lib.decDigits_two h1 h]
def tailZ2 (li : Nat) (o : Int) : List Int := 32 :: 35 :: ((digZ li).map fun c => (c.toNat : Int)) ++ ((orderT o).map fun c => (c.toNat : Int))
def tailOkC (li : Nat) (o : Int) : Bool := match tailOf (skipS (tailZ2 li o)) with
  | .ok (a, b) => a == (li : Int) && b == o
  | .error _ => false
set_option maxRecDepth 100000 in
theorem tail_all : (List.range 65).all (fun n => tailOkC n 0 && tailOkC n 1) = true := by kernel_rfl
theorem tail_read {li o : Int} (h0 : 0 ≤ li) (h1 : li ≤ 64) (h2 : o = 0 ∨ o = 1) : tailOf (skipS (tailZ li.toNat o)) = .ok (li, o) := by
  obtain ⟨n, rfl⟩ := Int.eq_ofNat_of_zero_le h0
  have hc := List.all_eq_true.1 tail_all n (List.mem_range.2 (by omega))
  rw [Bool.and_eq_true] at hc
  have hc : tailOkC n o = true := by rcases h2 with rfl | rfl; exact hc.1; exact hc.2
  have hz : tailZ (n : Int).toNat o = tailZ2 n o := by
    unfold tailZ tailZ2
    rw [Int.toNat_natCast, dec_digZ (by omega)]
  rw [hz]
  unfold tailOkC at hc
  cases ht : tailOf (skipS (tailZ2 n o)) with
  | error e => rw [ht] at hc; cases hc
  | ok p =>
    obtain ⟨a, b⟩ := p
    rw [ht] at hc
    dsimp only at hc
    rw [Bool.and_eq_true, beq_iff_eq, beq_iff_eq] at hc
    rw [hc.1, hc.2]
theorem orderT_asc (o : Int) : asciiL (orderT o) := by
  unfold orderT
  split <;> (intro c hc; simp only [List.mem_cons, List.not_mem_nil, or_false] at hc; rcases hc with rfl | rfl | rfl | rfl | rfl | rfl <;> decide)
theorem digZ_asc {n : Nat} (h : n < 100) : asciiL (digZ n) := by
  unfold digZ
  split
  · intro c hc
    rw [List.mem_singleton] at hc
    subst hc
    rw [ofNat_n _ (by omega)]
    omega
  · intro c hc
    simp only [List.mem_cons, List.not_mem_nil, or_false] at hc
    rcases hc with rfl | rfl <;> rw [ofNat_n _ (by omega)] <;> omega
theorem runesB_textV : ∀ (l : List Int), (∀ r ∈ l, valR r) → ∀ m, runesB (textB l ++ m) = l ++ runesB m
  | [], _, m => rfl
  | r :: l, h, m => by
    rw [textB_cons, List.append_assoc, runesB_enc r (h r (List.mem_cons_self ..)), runesB_textV l (fun x hx => h x (List.mem_cons_of_mem _ hx))]
    rfl
/-- what is shown of a query is read as it -/
theorem parse_shown {n : Nd} {li o : Int} (hf : FieldsOk n) {t : List UInt8} (h : showR n li o = (t, 0)) : parseS ⟨t.toArray⟩ = .ok (n, li, o) := by
  unfold showR at h
  by_cases hm : mayQ n li o = false
  · rw [if_pos hm] at h
    injection h with _ h
    cases h
  rw [if_neg hm] at h
  by_cases hl : 256 < (txtN n ++ tailT li o).length
  · rw [if_pos hl] at h
    injection h with _ h
    cases h
  rw [if_neg hl] at h
  injection h with h _
  subst h
  have hmq : mayQ n li o = true := by simpa using hm
  unfold mayQ at hmq
  rw [Bool.and_eq_true, Bool.and_eq_true, Bool.and_eq_true, Bool.or_eq_true, decide_eq_true_eq, decide_eq_true_eq, beq_iff_eq, beq_iff_eq] at hmq
  obtain ⟨⟨⟨h0, h1⟩, h2⟩, hok⟩ := hmq
  obtain ⟨g1, g2⟩ := txtZ_ok _ n (Nat.le_refl _) 0 hok hf
  have hrun : runesS ⟨(txtN n ++ tailT li o).toArray⟩ = txtZ n ++ tailZ li.toNat o := by
    rw [runesS_B]
    show runesB (txtN n ++ tailT li o) = _
    have hta : asciiL (tailT li o) := by
      unfold tailT
      rw [dec_digZ (by omega)]
      intro c hc
      rcases List.mem_append.1 hc with hc | hc
      · rcases List.mem_append.1 hc with hc | hc
        · simp only [List.mem_cons, List.not_mem_nil, or_false] at hc
          rcases hc with rfl | rfl <;> decide
        · exact digZ_asc (by omega) c hc
      · exact orderT_asc o c hc
    rw [← g1, runesB_textV _ g2, runesB_all _ hta]
    congr 1
    unfold tailT tailZ
    rw [List.map_append, List.map_append]
    rfl
  have hstop : stopO (tailZ li.toNat o) := by
    refine ⟨fun r hr => by injection hr with hr; subst hr; rfl, fun c hc => ?_⟩
    have e : skipS (tailZ li.toNat o) = 35 :: (((Lib.decDigits li.toNat).map fun c => (c.toNat : Int)) ++ ((orderT o).map fun c => (c.toNat : Int))) := by
      unfold tailZ
      show skipS (32 :: 35 :: _) = _
      rw [skip32, skip_hd rfl]
      rfl
    rw [e] at hc
    injection hc with hc
    exact Or.inr hc.symm
  have hroot : rootS (txtZ n ++ tailZ li.toNat o) = .ok (n, skipS (tailZ li.toNat o)) := (read_ok _ n (Nat.le_refl _) 8 0 rfl hok hf).po _ hstop
  unfold parseS
  rw [if_neg (by show ¬ 256 < (txtN n ++ tailT li o).length; exact hl), hrun]
  unfold parseR
  rw [hroot]
  dsimp only
  rw [tail_read h0 h1 h2]
  dsimp only
  unfold finS
  dsimp only
  rw [if_neg (by omega)]
  have : max o 0 = o := by omega
  rw [this]
end Go.Proofs.YtbepgbkbpkaodaaDoor
