/- Contracts: slices.symMergeCmpFunc. Printed by gen/symg.py. -/
import Derived.Test.YtbmgmjfpoepgpaaSortE
namespace Go.Proofs.Ytbmgmjfpoepgpaa
open Go.RowKit

theorem lt_le {key : Nat → Int} {l : List Nat} (h : l.Pairwise (Lt key)) {i j x y : Nat} (hi : l[i]? = some x) (hj : l[j]? = some y) (hij : i ≤ j) : x = y ∨ Lt key x y := by
  rcases Nat.lt_or_ge i j with h' | h'
  · have h1 := List.getElem?_eq_some_iff.1 hi
    have h2 := List.getElem?_eq_some_iff.1 hj
    have := sorted_get h h2.1 h'
    rw [h1.2, h2.2] at this
    exact Or.inr this
  · have e : i = j := by omega
    subst e
    rw [hi] at hj; injection hj with hj
    exact Or.inl hj
theorem lt_mid {key : Nat → Int} {x x' y' y : Nat} (h1 : x = x' ∨ Lt key x x') (h2 : Lt key x' y') (h3 : y' = y ∨ Lt key y' y) : Lt key x y := by
  rcases h1 with rfl | h1 <;> rcases h3 with rfl | h3
  · exact h2
  · exact h2.trans h3
  · exact h1.trans h2
  · exact (h1.trans h2).trans h3

/-- what the search has found parts both rows -/
theorem sym_cross {key : Nat → Int} {L R : List Nat} {a m e z s s0 r0 : Nat} (hL : L.Pairwise (Lt key)) (hR : R.Pairwise (Lt key)) (hm : m = a + L.length) (he : e = m + R.length)
    (h0 : s0 ≤ s) (hr : s ≤ r0) (has : a ≤ s)
    (A : ∀ c x y, s0 ≤ c → c < s → L[c - a]? = some x → R[z - 1 - c - m]? = some y → Lt key x y)
    (B : ∀ c x y, s ≤ c → c < r0 → L[c - a]? = some x → R[z - 1 - c - m]? = some y → Lt key y x)
    (bd : ∀ c, s0 ≤ c → c < r0 → a ≤ c ∧ c < m ∧ m ≤ z - 1 - c ∧ z - 1 - c < e) (e0 : s = s0 → s = a ∨ e ≤ z - s) (e1 : s = r0 → z - s ≤ m ∨ m ≤ s) :
    (∀ x ∈ L.take (s - a), ∀ y ∈ R.drop (z - s - m), Lt key x y) ∧ (∀ x ∈ R.take (z - s - m), ∀ y ∈ L.drop (s - a), Lt key x y) := by
  constructor
  · intro x hx y hy
    obtain ⟨i, hi, hik, ex⟩ := mem_take_get hx
    obtain ⟨j, hj, hjk, ey⟩ := mem_drop_get hy
    rcases Nat.lt_or_ge s0 s with h | h
    · have hb := bd (s - 1) (by omega) (by omega)
      obtain ⟨x', hx'⟩ : ∃ x', L[s - 1 - a]? = some x' := ⟨_, List.getElem?_eq_getElem (by omega)⟩
      obtain ⟨y', hy'⟩ : ∃ y', R[z - 1 - (s - 1) - m]? = some y' := ⟨_, List.getElem?_eq_getElem (by omega)⟩
      exact lt_mid (lt_le hL (by rw [List.getElem?_eq_getElem hi, ex]) hx' (by omega)) (A (s - 1) x' y' (by omega) (by omega) hx' hy') (lt_le hR hy' (by rw [List.getElem?_eq_getElem hj, ey]) (by omega))
    · rcases e0 (by omega) with h' | h' <;> omega
  · intro x hx y hy
    obtain ⟨j, hj, hjk, ex⟩ := mem_take_get hx
    obtain ⟨i, hi, hik, ey⟩ := mem_drop_get hy
    rcases Nat.lt_or_ge s r0 with h | h
    · have hb := bd s (by omega) (by omega)
      obtain ⟨x', hx'⟩ : ∃ x', L[s - a]? = some x' := ⟨_, List.getElem?_eq_getElem (by omega)⟩
      obtain ⟨y', hy'⟩ : ∃ y', R[z - 1 - s - m]? = some y' := ⟨_, List.getElem?_eq_getElem (by omega)⟩
      exact lt_mid (lt_le hR (by rw [List.getElem?_eq_getElem hj, ex]) hy' (by omega)) (B s x' y' (by omega) (by omega) hx' hy') (lt_le hL hx' (by rw [List.getElem?_eq_getElem hi, ey]) (by omega))
    · rcases e1 (by omega) with h' | h' <;> omega

theorem row_parts {w : World} {b : Nat} {P L R S : List Nat} (i j : Nat) (h : Row w b (P ++ L ++ R ++ S)) : Row w b (P ++ L.take i ++ L.drop i ++ R.take j ++ (R.drop j ++ S)) := by
  have e : P ++ L.take i ++ L.drop i ++ R.take j ++ (R.drop j ++ S) = P ++ L ++ R ++ S := by
    rw [List.append_assoc P (L.take i), List.take_append_drop, ← List.append_assoc _ (R.drop j) S, List.append_assoc _ (R.take j) (R.drop j), List.take_append_drop]
  rw [e]; exact h
theorem pw_take {key : Nat → Int} {l : List Nat} (h : l.Pairwise (Lt key)) (k : Nat) : (l.take k).Pairwise (Lt key) := h.sublist (List.take_sublist k l)
theorem pw_drop {key : Nat → Int} {l : List Nat} (h : l.Pairwise (Lt key)) (k : Nat) : (l.drop k).Pairwise (Lt key) := h.sublist (List.drop_sublist k l)

set_option maxRecDepth 100000 in
set_option maxHeartbeats 8000000 in
theorem sym_gen {w : World} {K : Nat → Prop} {b n cap a m e N lb : Nat} {key : Nat → Int} {P L R S : List Nat} (H : Merge w K b n cap a m e N key P L R S) (hC : CmpOK K w N key lb) (hl2 : 2 ≤ L.length) (hr2 : 2 ≤ R.length)
    (IH : ∀ (w : World) (a m e : Nat) (P L' R' S : List Nat), Merge w K b n cap a m e N key P L' R' S → CmpOK K w N key lb → 0 < L'.length → 0 < R'.length → L'.length + R'.length < L.length + R.length →
      Calls Try.prog 57 #[.slice (some ⟨b, 0, none⟩) n cap, .int .i64 (a : Int), .int .i64 (m : Int), .int .i64 (e : Int), .func (.func 35) #[] #[.pointer (some ⟨lb, 0, none⟩)]] w fun en w' =>
        en = .returned (.tuple #[]) ∧ Merged w w' K b key P L' R' S) :
    Calls Try.prog 57 #[.slice (some ⟨b, 0, none⟩) n cap, .int .i64 (a : Int), .int .i64 (m : Int), .int .i64 (e : Int), .func (.func 35) #[] #[.pointer (some ⟨lb, 0, none⟩)]] w fun en w' =>
      en = .returned (.tuple #[]) ∧ Merged w w' K b key P L R S := by
  have hcb := H.cap2
  have hcap := H.cap1
  have hbig := H.big
  unfold maxLen at hcb
  have hlen : n = P.length + L.length + R.length + S.length := by rw [H.hn]; simp; omega
  have hm := H.hm
  have ha := H.ha
  have he := H.he
  have hkb := H.kb
  obtain ⟨mid, hmid⟩ : ∃ mid, mid = (a + e) / 2 := ⟨_, rfl⟩
  obtain ⟨z, hz⟩ : ∃ z, z = mid + m := ⟨_, rfl⟩
  obtain ⟨p, hp⟩ : ∃ p, z = p + 1 := ⟨z - 1, by omega⟩
  have b2 : a < m := by omega
  have b4 : m < e := by omega
  have b3 : e ≤ n := by omega
  have b5 : mid < e := by omega
  have t0 : ((m : Int) - (a : Int) == 1) = false := by simp; omega
  have t1 : ((e : Int) - (m : Int) == 1) = false := by simp; omega
  have t2 : ((a : Int) + (e : Int)) / 2 = (mid : Int) := by omega
  have t3 : (mid : Int) + (m : Int) = (z : Int) := by omega
  have t4 : (z : Int) - 1 = (p : Int) := by omega
  have t5 : z ≤ 2 * n := by omega
  have HH := hid H
  have HL := hid (And.intro hlen (And.intro hm (And.intro ha (And.intro he (And.intro hmid (And.intro hz (And.intro hp (And.intro hl2 hr2))))))))
  have HIH := hid IH
  refine calls_hide fun R' hR' => ?_
  by_cases hmm : m > mid
  · obtain ⟨s0, hs0⟩ : ∃ s0, z = s0 + e := ⟨z - e, by omega⟩
    have u1 : (z : Int) - (e : Int) = (s0 : Int) := by omega
    have u2 : (m : Int) > (mid : Int) := by omega
    have HM := hid (And.intro hmm hs0)
    clear hlen hm ha he hmid hz hp hl2 hr2 H IH hmm hs0
    go_enter Try.func57, Try.ntmps57
    go_wp2_with fail
    go_loopw [20, 21] (fun vi vj wr => ∃ (i j q : Nat), vi = .int .i64 (i : Int) ∧ vj = .int .i64 (j : Int) ∧ s0 ≤ i ∧ i ≤ j ∧ j ≤ mid ∧ w.drewN q = wr ∧
        Hid (∀ c x y, L[c - a]? = some x → R[z - 1 - c - m]? = some y → (s0 ≤ c → c < i → Lt key x y) ∧ (j ≤ c → c < mid → Lt key y x))) (fun i j _ => (intOf j).toNat - (intOf i).toNat)
    case atStart => exact ⟨s0, mid, 0, rfl, rfl, Nat.le_refl _, by obtain ⟨hlen, hm, ha, he, hmid, hz, hp, hl2, hr2⟩ := HL.out; have := HM.out; omega, Nat.le_refl _, rfl, hid fun c x y hx hy => ⟨fun h1 h2 => by omega, fun h1 h2 => by omega⟩⟩
    case round =>
      obtain ⟨i, j, q, rfl, rfl, hmi, hij, hje, hw, HI⟩ := hrel
      have HW := hid hw
      clear hw
      by_cases hlt : i < j
      · obtain ⟨c, hc⟩ : ∃ c, c = (i + j) / 2 := ⟨_, rfl⟩
        obtain ⟨hlen, hm, ha, he, hmid, hz, hp, hl2, hr2⟩ := HL.out
        have hmm := HM.out
        obtain ⟨pc, hpc⟩ : ∃ pc, p = pc + c := ⟨p - c, by omega⟩
        have s1 : ((i : Int) + (j : Int)) / 2 = (c : Int) := by omega
        have s2 : (c : Int) < (n : Int) := by omega
        have s3 : (pc : Int) < (n : Int) := by omega
        have s5 : (p : Int) - (c : Int) = (pc : Int) := by omega
        have s4 : (i : Int) < (j : Int) := by omega
        have ebd : a ≤ c ∧ c < m ∧ m ≤ pc ∧ pc < e := by omega
        obtain ⟨x, hx⟩ : ∃ x, L[c - a]? = some x := ⟨_, List.getElem?_eq_getElem (by omega)⟩
        obtain ⟨y, hy⟩ : ∃ y, R[pc - m]? = some y := ⟨_, List.getElem?_eq_getElem (by omega)⟩
        have c1 : wr.cell? ⟨b, pc, none⟩ = some (.int .i64 (y : Int)) := by
          rw [← HW.out]; refine (HH.out.row.drewN q).cell ?_
          have e : pc = P.length + L.length + (pc - m) := by omega
          rw [e]; exact getR hy
        have c2 : wr.cell? ⟨b, c, none⟩ = some (.int .i64 (x : Int)) := by
          rw [← HW.out]; refine (HH.out.row.drewN q).cell ?_
          have e : c = P.length + (c - a) := by omega
          rw [e]; exact getP hx
        have hxL := List.mem_of_getElem? hx
        have hyR := List.mem_of_getElem? hy
        have hxy := HH.out.ord x hxL y hyR
        have hcmp := fun k => hC (wr.drewN k) (by rw [← HW.out]; exact ((Keeps.refl _ _).drewN q).drewN k) y x (HH.out.ur y hyR) (HH.out.ul x hxL)
        have hcv := cmpv_lt (key := key) hxy
        have HY := hid (And.intro hx (And.intro hy (And.intro hc (And.intro hpc (And.intro hxy ebd)))))
        obtain ⟨X, hX⟩ : ∃ X : Int, X = (x : Int) := ⟨_, rfl⟩
        obtain ⟨Y, hY⟩ : ∃ Y : Int, Y = (y : Int) := ⟨_, rfl⟩
        obtain ⟨V, hV⟩ : ∃ V : Int, V = cmpv key y x := ⟨_, rfl⟩
        simp only [← hX, ← hY, ← hV] at c1 c2 hcmp hcv
        clear hX hY hV hlen hm ha he hmid hz hp hl2 hr2 hxL hyR hxy hx hy hc hpc ebd hmm
        have HCV := hid hcv
        clear hcv
        have HIJ := hid (And.intro hmi (And.intro hij (And.intro hje hlt)))
        by_cases hv : V < 0
        · have hd : decide (V < 0) = true := decide_eq_true hv
          go_wp2_with fail
          go_quiet (first | (go_at_call 35; refine Calls.quiet_of (hcmp _)))
          go_wp2_with fail
          go_roundw
          case rel =>
            obtain ⟨hmi, hij, hje, hlt⟩ := HIJ.out
            obtain ⟨hx, hy, hc, hpc, hxy, ebd⟩ := HY.out
            obtain ⟨hlen, hm, ha, he, hmid, hz, hp, hl2, hr2⟩ := HL.out
            have hmm := HM.out
            have hyx := HCV.out.1 (by omega)
            refine ⟨i, c, q + nq, rfl, by first | rfl | go_num, by omega, by omega, by omega, by rw [← HW.out, World.drewN_drewN], hid fun k u v hu hv' => ⟨fun h1 h2 => (HI.out k u v hu hv').1 h1 h2, fun h1 h2 => ?_⟩⟩
            exact lt_mid (lt_le HH.out.sr hv' hy (by omega)) hyx (lt_le HH.out.sl hx hu (by omega))
          case measure => obtain ⟨hmi, hij, hje, hlt⟩ := HIJ.out; obtain ⟨hx, hy, hc, hpc, hxy, ebd⟩ := HY.out; simp [intOf]; omega
        · have hd : decide (V < 0) = false := decide_eq_false hv
          go_wp2_with fail
          go_quiet (first | (go_at_call 35; refine Calls.quiet_of (hcmp _)))
          go_wp2_with fail
          go_roundw
          case rel =>
            obtain ⟨hmi, hij, hje, hlt⟩ := HIJ.out
            obtain ⟨hx, hy, hc, hpc, hxy, ebd⟩ := HY.out
            obtain ⟨hlen, hm, ha, he, hmid, hz, hp, hl2, hr2⟩ := HL.out
            have hmm := HM.out
            have hyx := Lt.total (i := y) (j := x) (fun h => by have := HCV.out.2 h; omega) (by omega)
            refine ⟨c + 1, j, q + nq, by first | rfl | go_num, rfl, by omega, by omega, hje, by rw [← HW.out, World.drewN_drewN], hid fun k u v hu hv' => ⟨fun h1 h2 => ?_, fun h1 h2 => (HI.out k u v hu hv').2 h1 h2⟩⟩
            have hk1 := (List.getElem?_eq_some_iff.1 hv').1
            exact lt_mid (lt_le HH.out.sl hu hx (by omega)) hyx (lt_le HH.out.sr hy hv' (by omega))
          case measure => obtain ⟨hmi, hij, hje, hlt⟩ := HIJ.out; obtain ⟨hx, hy, hc, hpc, hxy, ebd⟩ := HY.out; simp [intOf]; omega
      · have hij' : i = j := by omega
        subst hij'
        have z0 : ¬ (i : Int) < (i : Int) := by omega
        obtain ⟨hlen, hm, ha, he, hmid, hz, hp, hl2, hr2⟩ := HL.out
        have hmm := HM.out
        obtain ⟨f, hf⟩ : ∃ f, z = f + i := ⟨z - i, by omega⟩
        have e1 : (z : Int) - (i : Int) = (f : Int) := by omega
        have ebd : a ≤ i ∧ i ≤ m ∧ m ≤ f ∧ f ≤ e ∧ f - m = z - i - m := by omega
        have hx := sym_cross (key := key) (L := L) (R := R) (a := a) (m := m) (e := e) (z := z) (s := i) (s0 := s0) (r0 := mid) HH.out.sl HH.out.sr (by omega) (by omega) hmi hje ebd.1
          (fun c x y h1 h2 h3 h4 => (HI.out c x y h3 h4).1 h1 h2) (fun c x y h1 h2 h3 h4 => (HI.out c x y h3 h4).2 h1 h2) (fun c h1 h2 => by omega) (fun h => by omega) (fun h => by omega)
        rw [← ebd.2.2.2.2] at hx
        have HX := hid hx
        have HE := hid (And.intro hf ebd)
        have f1 : i ≤ n := by omega
        have f2 : f ≤ n := by omega
        clear hx ebd hf hlen hm ha he hmid hz hp hl2 hr2 hmm HI hlt hij hmi hje
        by_cases g1 : i < m ∧ m < f
        · have g2 : (i : Int) < (m : Int) := by omega
          have g3 : (m : Int) < (f : Int) := by omega
          go_wp2_with fail
          obtain ⟨hlen, hm, ha, he, hmid, hz, hp, hl2, hr2⟩ := HL.out
          obtain ⟨hf, ea, em, ef, ee, -⟩ := HE.out
          refine (rotate_ok (w := wr) (K := K) (b := b) (n := n) (cap := cap) (a := i) (m := m) (e := f) (P := P ++ L.take (i - a)) (U := L.drop (i - a)) (V := R.take (f - m)) (S := R.drop (f - m) ++ S) _ ?_ hkb (by first | (simp; done) | (simp; omega)) (by first | (simp; done) | (simp; omega)) (by first | (simp; done) | (simp; omega)) (by first | (simp; done) | (simp; omega)) (by first | (simp; done) | (simp; omega)) (by first | (simp; done) | (simp; omega)) (by omega) (by omega) (by unfold maxLen; omega)).mono ?_
          · rw [← HW.out]; exact row_parts _ _ (HH.out.row.drewN q)
          rintro en W1 ⟨rfl, hr1, hk1⟩
          have HR1 := hid (show Row W1 b (P ++ (L.take (i - a) ++ R.take (f - m)) ++ (L.drop (i - a) ++ R.drop (f - m) ++ S)) ∧ Keeps K w W1 from ⟨by simpa [List.append_assoc] using hr1, (show Keeps K w wr from by rw [← HW.out]; exact (Keeps.refl _ _).drewN q).trans hk1⟩)
          clear hlen hm ha he hmid hz hp hl2 hr2 hf ea em ef ee hr1 hk1 g1
          by_cases g5 : a < i ∧ i < mid
          · have g6 : (a : Int) < (i : Int) := by omega
            have g7 : (i : Int) < (mid : Int) := by omega
            go_wp2_with fail
            obtain ⟨hlen, hm, ha, he, hmid, hz, hp, hl2, hr2⟩ := HL.out
            obtain ⟨hf, ea, em, ef, ee, -⟩ := HE.out
            refine (HIH.out W1 a i mid P (L.take (i - a)) (R.take (f - m)) (L.drop (i - a) ++ R.drop (f - m) ++ S) ⟨by simpa [List.append_assoc] using HR1.out.1, hkb, by first | (simp; done) | (simp; omega), ha, by first | (simp; done) | (simp; omega), by first | (simp; done) | (simp; omega), pw_take HH.out.sl _, pw_take HH.out.sr _,
              fun x hx y hy => HH.out.ord x (List.mem_of_mem_take hx) y (List.mem_of_mem_take hy), fun x hx => HH.out.ul x (List.mem_of_mem_take hx), fun x hx => HH.out.ur x (List.mem_of_mem_take hx), by omega, by omega, by unfold maxLen; omega⟩ (hC.keep HR1.out.2) (by first | (simp; done) | (simp; omega)) (by first | (simp; done) | (simp; omega)) (by first | (simp; done) | (simp; omega))).mono ?_
            rintro en W2 ⟨rfl, Y1, hr2', hp1, hs1, hk2⟩
            have HR2 := hid (show ∃ Y1, Row W2 b (P ++ Y1 ++ (L.drop (i - a) ++ R.drop (f - m) ++ S)) ∧ Y1.Perm (L.take (i - a) ++ R.take (f - m)) ∧ Y1.Pairwise (Lt key) ∧ Keeps K w W2 from ⟨Y1, hr2', hp1, hs1, HR1.out.2.trans hk2⟩)
            clear hlen hm ha he hmid hz hp hl2 hr2 hf ea em ef ee hr2' hp1 hs1 hk2 HR1 g5
            by_cases g9 : mid < f ∧ f < e
            · have g10 : (mid : Int) < (f : Int) := by omega
              have g11 : (f : Int) < (e : Int) := by omega
              go_wp2_with fail
              all_goals
                obtain ⟨hlen, hm, ha, he, hmid, hz, hp, hl2, hr2⟩ := HL.out
                obtain ⟨hf, ea, em, ef, ee, -⟩ := HE.out
                obtain ⟨Y1, hr3, hp1, hs1, hk3⟩ := HR2.out
                have hy1 := hp1.length_eq
                simp only [List.length_append, List.length_take] at hy1
                refine (HIH.out W2 mid f e (P ++ Y1) (L.drop (i - a)) (R.drop (f - m)) S ⟨by simpa [List.append_assoc] using hr3, hkb, by first | (simp; done) | (simp; omega), by first | (simp; done) | (simp; omega), by first | (simp; done) | (simp; omega), by first | (simp; done) | (simp; omega), pw_drop HH.out.sl _, pw_drop HH.out.sr _,
                  fun x hx y hy => HH.out.ord x (List.mem_of_mem_drop hx) y (List.mem_of_mem_drop hy), fun x hx => HH.out.ul x (List.mem_of_mem_drop hx), fun x hx => HH.out.ur x (List.mem_of_mem_drop hx), by omega, by omega, by unfold maxLen; omega⟩ (hC.keep hk3) (by first | (simp; done) | (simp; omega)) (by first | (simp; done) | (simp; omega)) (by first | (simp; done) | (simp; omega))).mono ?_
                rintro en W3 ⟨rfl, Y2, hr4, hp2, hs2, hk4⟩
                have HM := hid (show Merged w W3 K b key P L R S from by
                  have := merge_sorted (key := key) (L1 := L.take (i - a)) (L2 := L.drop (i - a)) (R1 := R.take (f - m)) (R2 := R.drop (f - m)) (by rw [List.take_append_drop]; exact HH.out.sl) (by rw [List.take_append_drop]; exact HH.out.sr) hp1 hp2 hs1 hs2 HX.out.1 HX.out.2
                  rw [List.take_append_drop, List.take_append_drop] at this
                  exact ⟨Y1 ++ Y2, by simpa [List.append_assoc] using hr4, this.1, this.2, hk3.trans hk4⟩)
                clear hlen hm ha he hmid hz hp hl2 hr2 hf ea em ef ee hr3 hp1 hs1 hk3 hy1 hr4 hp2 hs2 hk4 HR2 g9
                go_wp2_with fail
                all_goals (try go_end0)
                all_goals (exact hR'.out _ _ ⟨rfl, HM.out⟩)
            · rcases Nat.lt_or_ge mid f with g10 | g10
              · have g11 : ¬ (f : Int) < (e : Int) := by omega
                have g12 : (mid : Int) < (f : Int) := by omega
                obtain ⟨hlen, hm, ha, he, hmid, hz, hp, hl2, hr2⟩ := HL.out
                obtain ⟨hf, ea, em, ef, ee, -⟩ := HE.out
                obtain ⟨Y1, hr3, hp1, hs1, hk3⟩ := HR2.out
                have HM := hid (show Merged w W2 K b key P L R S from by
                  have hs2 : (L.drop (i - a) ++ R.drop (f - m)).Pairwise (Lt key) := by
                    have e1 : R.drop (f - m) = [] := List.drop_of_length_le (by omega)
                    rw [e1, List.append_nil]; exact pw_drop HH.out.sl _
                  have := merge_sorted (key := key) (L1 := L.take (i - a)) (L2 := L.drop (i - a)) (R1 := R.take (f - m)) (R2 := R.drop (f - m)) (by rw [List.take_append_drop]; exact HH.out.sl) (by rw [List.take_append_drop]; exact HH.out.sr) hp1 (List.Perm.refl _) hs1 hs2 HX.out.1 HX.out.2
                  rw [List.take_append_drop, List.take_append_drop] at this
                  exact ⟨Y1 ++ (L.drop (i - a) ++ R.drop (f - m)), by simpa [List.append_assoc] using hr3, this.1, this.2, hk3⟩)
                clear hlen hm ha he hmid hz hp hl2 hr2 hf ea em ef ee hr3 hp1 hs1 hk3 HR2 g9 g10
                go_wp2_with fail
                all_goals (try go_end0)
                all_goals (exact hR'.out _ _ ⟨rfl, HM.out⟩)
              · have g11 : ¬ (mid : Int) < (f : Int) := by omega
                obtain ⟨hlen, hm, ha, he, hmid, hz, hp, hl2, hr2⟩ := HL.out
                obtain ⟨hf, ea, em, ef, ee, -⟩ := HE.out
                obtain ⟨Y1, hr3, hp1, hs1, hk3⟩ := HR2.out
                have HM := hid (show Merged w W2 K b key P L R S from by
                  have hs2 : (L.drop (i - a) ++ R.drop (f - m)).Pairwise (Lt key) := by
                    have e1 : L.drop (i - a) = [] := List.drop_of_length_le (by omega)
                    rw [e1, List.nil_append]; exact pw_drop HH.out.sr _
                  have := merge_sorted (key := key) (L1 := L.take (i - a)) (L2 := L.drop (i - a)) (R1 := R.take (f - m)) (R2 := R.drop (f - m)) (by rw [List.take_append_drop]; exact HH.out.sl) (by rw [List.take_append_drop]; exact HH.out.sr) hp1 (List.Perm.refl _) hs1 hs2 HX.out.1 HX.out.2
                  rw [List.take_append_drop, List.take_append_drop] at this
                  exact ⟨Y1 ++ (L.drop (i - a) ++ R.drop (f - m)), by simpa [List.append_assoc] using hr3, this.1, this.2, hk3⟩)
                clear hlen hm ha he hmid hz hp hl2 hr2 hf ea em ef ee hr3 hp1 hs1 hk3 HR2 g9 g10
                go_wp2_with fail
                all_goals (try go_end0)
                all_goals (exact hR'.out _ _ ⟨rfl, HM.out⟩)
          · rcases Nat.lt_or_ge a i with g6 | g6
            · have g7 : ¬ (i : Int) < (mid : Int) := by omega
              have g8 : (a : Int) < (i : Int) := by omega
              obtain ⟨hlen, hm, ha, he, hmid, hz, hp, hl2, hr2⟩ := HL.out
              obtain ⟨hf, ea, em, ef, ee, -⟩ := HE.out
              obtain ⟨hr1, hk1⟩ := HR1.out
              have HR2 := hid (show ∃ Y1, Row W1 b (P ++ Y1 ++ (L.drop (i - a) ++ R.drop (f - m) ++ S)) ∧ Y1.Perm (L.take (i - a) ++ R.take (f - m)) ∧ Y1.Pairwise (Lt key) ∧ Keeps K w W1 from by
                refine ⟨L.take (i - a) ++ R.take (f - m), hr1, List.Perm.refl _, ?_, hk1⟩
                have e1 : f - m = 0 := by omega
                rw [e1, List.take_zero, List.append_nil]; exact pw_take HH.out.sl _)
              clear hlen hm ha he hmid hz hp hl2 hr2 hf ea em ef ee hr1 hk1 HR1 g5 g6
              by_cases g9 : mid < f ∧ f < e
              · have g10 : (mid : Int) < (f : Int) := by omega
                have g11 : (f : Int) < (e : Int) := by omega
                go_wp2_with fail
                all_goals
                  obtain ⟨hlen, hm, ha, he, hmid, hz, hp, hl2, hr2⟩ := HL.out
                  obtain ⟨hf, ea, em, ef, ee, -⟩ := HE.out
                  obtain ⟨Y1, hr3, hp1, hs1, hk3⟩ := HR2.out
                  have hy1 := hp1.length_eq
                  simp only [List.length_append, List.length_take] at hy1
                  refine (HIH.out W1 mid f e (P ++ Y1) (L.drop (i - a)) (R.drop (f - m)) S ⟨by simpa [List.append_assoc] using hr3, hkb, by first | (simp; done) | (simp; omega), by first | (simp; done) | (simp; omega), by first | (simp; done) | (simp; omega), by first | (simp; done) | (simp; omega), pw_drop HH.out.sl _, pw_drop HH.out.sr _,
                    fun x hx y hy => HH.out.ord x (List.mem_of_mem_drop hx) y (List.mem_of_mem_drop hy), fun x hx => HH.out.ul x (List.mem_of_mem_drop hx), fun x hx => HH.out.ur x (List.mem_of_mem_drop hx), by omega, by omega, by unfold maxLen; omega⟩ (hC.keep hk3) (by first | (simp; done) | (simp; omega)) (by first | (simp; done) | (simp; omega)) (by first | (simp; done) | (simp; omega))).mono ?_
                  rintro en W3 ⟨rfl, Y2, hr4, hp2, hs2, hk4⟩
                  have HM := hid (show Merged w W3 K b key P L R S from by
                    have := merge_sorted (key := key) (L1 := L.take (i - a)) (L2 := L.drop (i - a)) (R1 := R.take (f - m)) (R2 := R.drop (f - m)) (by rw [List.take_append_drop]; exact HH.out.sl) (by rw [List.take_append_drop]; exact HH.out.sr) hp1 hp2 hs1 hs2 HX.out.1 HX.out.2
                    rw [List.take_append_drop, List.take_append_drop] at this
                    exact ⟨Y1 ++ Y2, by simpa [List.append_assoc] using hr4, this.1, this.2, hk3.trans hk4⟩)
                  clear hlen hm ha he hmid hz hp hl2 hr2 hf ea em ef ee hr3 hp1 hs1 hk3 hy1 hr4 hp2 hs2 hk4 HR2 g9
                  go_wp2_with fail
                  all_goals (try go_end0)
                  all_goals (exact hR'.out _ _ ⟨rfl, HM.out⟩)
              · rcases Nat.lt_or_ge mid f with g10 | g10
                · have g11 : ¬ (f : Int) < (e : Int) := by omega
                  have g12 : (mid : Int) < (f : Int) := by omega
                  obtain ⟨hlen, hm, ha, he, hmid, hz, hp, hl2, hr2⟩ := HL.out
                  obtain ⟨hf, ea, em, ef, ee, -⟩ := HE.out
                  obtain ⟨Y1, hr3, hp1, hs1, hk3⟩ := HR2.out
                  have HM := hid (show Merged w W1 K b key P L R S from by
                    have hs2 : (L.drop (i - a) ++ R.drop (f - m)).Pairwise (Lt key) := by
                      have e1 : R.drop (f - m) = [] := List.drop_of_length_le (by omega)
                      rw [e1, List.append_nil]; exact pw_drop HH.out.sl _
                    have := merge_sorted (key := key) (L1 := L.take (i - a)) (L2 := L.drop (i - a)) (R1 := R.take (f - m)) (R2 := R.drop (f - m)) (by rw [List.take_append_drop]; exact HH.out.sl) (by rw [List.take_append_drop]; exact HH.out.sr) hp1 (List.Perm.refl _) hs1 hs2 HX.out.1 HX.out.2
                    rw [List.take_append_drop, List.take_append_drop] at this
                    exact ⟨Y1 ++ (L.drop (i - a) ++ R.drop (f - m)), by simpa [List.append_assoc] using hr3, this.1, this.2, hk3⟩)
                  clear hlen hm ha he hmid hz hp hl2 hr2 hf ea em ef ee hr3 hp1 hs1 hk3 HR2 g9 g10
                  go_wp2_with fail
                  all_goals (try go_end0)
                  all_goals (exact hR'.out _ _ ⟨rfl, HM.out⟩)
                · have g11 : ¬ (mid : Int) < (f : Int) := by omega
                  obtain ⟨hlen, hm, ha, he, hmid, hz, hp, hl2, hr2⟩ := HL.out
                  obtain ⟨hf, ea, em, ef, ee, -⟩ := HE.out
                  obtain ⟨Y1, hr3, hp1, hs1, hk3⟩ := HR2.out
                  have HM := hid (show Merged w W1 K b key P L R S from by
                    have hs2 : (L.drop (i - a) ++ R.drop (f - m)).Pairwise (Lt key) := by
                      have e1 : L.drop (i - a) = [] := List.drop_of_length_le (by omega)
                      rw [e1, List.nil_append]; exact pw_drop HH.out.sr _
                    have := merge_sorted (key := key) (L1 := L.take (i - a)) (L2 := L.drop (i - a)) (R1 := R.take (f - m)) (R2 := R.drop (f - m)) (by rw [List.take_append_drop]; exact HH.out.sl) (by rw [List.take_append_drop]; exact HH.out.sr) hp1 (List.Perm.refl _) hs1 hs2 HX.out.1 HX.out.2
                    rw [List.take_append_drop, List.take_append_drop] at this
                    exact ⟨Y1 ++ (L.drop (i - a) ++ R.drop (f - m)), by simpa [List.append_assoc] using hr3, this.1, this.2, hk3⟩)
                  clear hlen hm ha he hmid hz hp hl2 hr2 hf ea em ef ee hr3 hp1 hs1 hk3 HR2 g9 g10
                  go_wp2_with fail
                  all_goals (try go_end0)
                  all_goals (exact hR'.out _ _ ⟨rfl, HM.out⟩)
            · have g7 : ¬ (a : Int) < (i : Int) := by omega
              obtain ⟨hlen, hm, ha, he, hmid, hz, hp, hl2, hr2⟩ := HL.out
              obtain ⟨hf, ea, em, ef, ee, -⟩ := HE.out
              obtain ⟨hr1, hk1⟩ := HR1.out
              have HR2 := hid (show ∃ Y1, Row W1 b (P ++ Y1 ++ (L.drop (i - a) ++ R.drop (f - m) ++ S)) ∧ Y1.Perm (L.take (i - a) ++ R.take (f - m)) ∧ Y1.Pairwise (Lt key) ∧ Keeps K w W1 from by
                refine ⟨L.take (i - a) ++ R.take (f - m), hr1, List.Perm.refl _, ?_, hk1⟩
                have e1 : i - a = 0 := by omega
                rw [e1, List.take_zero, List.nil_append]; exact pw_take HH.out.sr _)
              clear hlen hm ha he hmid hz hp hl2 hr2 hf ea em ef ee hr1 hk1 HR1 g5 g6
              by_cases g9 : mid < f ∧ f < e
              · have g10 : (mid : Int) < (f : Int) := by omega
                have g11 : (f : Int) < (e : Int) := by omega
                go_wp2_with fail
                all_goals
                  obtain ⟨hlen, hm, ha, he, hmid, hz, hp, hl2, hr2⟩ := HL.out
                  obtain ⟨hf, ea, em, ef, ee, -⟩ := HE.out
                  obtain ⟨Y1, hr3, hp1, hs1, hk3⟩ := HR2.out
                  have hy1 := hp1.length_eq
                  simp only [List.length_append, List.length_take] at hy1
                  refine (HIH.out W1 mid f e (P ++ Y1) (L.drop (i - a)) (R.drop (f - m)) S ⟨by simpa [List.append_assoc] using hr3, hkb, by first | (simp; done) | (simp; omega), by first | (simp; done) | (simp; omega), by first | (simp; done) | (simp; omega), by first | (simp; done) | (simp; omega), pw_drop HH.out.sl _, pw_drop HH.out.sr _,
                    fun x hx y hy => HH.out.ord x (List.mem_of_mem_drop hx) y (List.mem_of_mem_drop hy), fun x hx => HH.out.ul x (List.mem_of_mem_drop hx), fun x hx => HH.out.ur x (List.mem_of_mem_drop hx), by omega, by omega, by unfold maxLen; omega⟩ (hC.keep hk3) (by first | (simp; done) | (simp; omega)) (by first | (simp; done) | (simp; omega)) (by first | (simp; done) | (simp; omega))).mono ?_
                  rintro en W3 ⟨rfl, Y2, hr4, hp2, hs2, hk4⟩
                  have HM := hid (show Merged w W3 K b key P L R S from by
                    have := merge_sorted (key := key) (L1 := L.take (i - a)) (L2 := L.drop (i - a)) (R1 := R.take (f - m)) (R2 := R.drop (f - m)) (by rw [List.take_append_drop]; exact HH.out.sl) (by rw [List.take_append_drop]; exact HH.out.sr) hp1 hp2 hs1 hs2 HX.out.1 HX.out.2
                    rw [List.take_append_drop, List.take_append_drop] at this
                    exact ⟨Y1 ++ Y2, by simpa [List.append_assoc] using hr4, this.1, this.2, hk3.trans hk4⟩)
                  clear hlen hm ha he hmid hz hp hl2 hr2 hf ea em ef ee hr3 hp1 hs1 hk3 hy1 hr4 hp2 hs2 hk4 HR2 g9
                  go_wp2_with fail
                  all_goals (try go_end0)
                  all_goals (exact hR'.out _ _ ⟨rfl, HM.out⟩)
              · rcases Nat.lt_or_ge mid f with g10 | g10
                · have g11 : ¬ (f : Int) < (e : Int) := by omega
                  have g12 : (mid : Int) < (f : Int) := by omega
                  obtain ⟨hlen, hm, ha, he, hmid, hz, hp, hl2, hr2⟩ := HL.out
                  obtain ⟨hf, ea, em, ef, ee, -⟩ := HE.out
                  obtain ⟨Y1, hr3, hp1, hs1, hk3⟩ := HR2.out
                  have HM := hid (show Merged w W1 K b key P L R S from by
                    have hs2 : (L.drop (i - a) ++ R.drop (f - m)).Pairwise (Lt key) := by
                      have e1 : R.drop (f - m) = [] := List.drop_of_length_le (by omega)
                      rw [e1, List.append_nil]; exact pw_drop HH.out.sl _
                    have := merge_sorted (key := key) (L1 := L.take (i - a)) (L2 := L.drop (i - a)) (R1 := R.take (f - m)) (R2 := R.drop (f - m)) (by rw [List.take_append_drop]; exact HH.out.sl) (by rw [List.take_append_drop]; exact HH.out.sr) hp1 (List.Perm.refl _) hs1 hs2 HX.out.1 HX.out.2
                    rw [List.take_append_drop, List.take_append_drop] at this
                    exact ⟨Y1 ++ (L.drop (i - a) ++ R.drop (f - m)), by simpa [List.append_assoc] using hr3, this.1, this.2, hk3⟩)
                  clear hlen hm ha he hmid hz hp hl2 hr2 hf ea em ef ee hr3 hp1 hs1 hk3 HR2 g9 g10
                  go_wp2_with fail
                  all_goals (try go_end0)
                  all_goals (exact hR'.out _ _ ⟨rfl, HM.out⟩)
                · have g11 : ¬ (mid : Int) < (f : Int) := by omega
                  obtain ⟨hlen, hm, ha, he, hmid, hz, hp, hl2, hr2⟩ := HL.out
                  obtain ⟨hf, ea, em, ef, ee, -⟩ := HE.out
                  obtain ⟨Y1, hr3, hp1, hs1, hk3⟩ := HR2.out
                  have HM := hid (show Merged w W1 K b key P L R S from by
                    have hs2 : (L.drop (i - a) ++ R.drop (f - m)).Pairwise (Lt key) := by
                      have e1 : L.drop (i - a) = [] := List.drop_of_length_le (by omega)
                      rw [e1, List.nil_append]; exact pw_drop HH.out.sr _
                    have := merge_sorted (key := key) (L1 := L.take (i - a)) (L2 := L.drop (i - a)) (R1 := R.take (f - m)) (R2 := R.drop (f - m)) (by rw [List.take_append_drop]; exact HH.out.sl) (by rw [List.take_append_drop]; exact HH.out.sr) hp1 (List.Perm.refl _) hs1 hs2 HX.out.1 HX.out.2
                    rw [List.take_append_drop, List.take_append_drop] at this
                    exact ⟨Y1 ++ (L.drop (i - a) ++ R.drop (f - m)), by simpa [List.append_assoc] using hr3, this.1, this.2, hk3⟩)
                  clear hlen hm ha he hmid hz hp hl2 hr2 hf ea em ef ee hr3 hp1 hs1 hk3 HR2 g9 g10
                  go_wp2_with fail
                  all_goals (try go_end0)
                  all_goals (exact hR'.out _ _ ⟨rfl, HM.out⟩)
        · rcases Nat.lt_or_ge i m with g2 | g2
          · have g3 : ¬ (m : Int) < (f : Int) := by omega
            have g4 : (i : Int) < (m : Int) := by omega
            obtain ⟨hlen, hm, ha, he, hmid, hz, hp, hl2, hr2⟩ := HL.out
            obtain ⟨hf, ea, em, ef, ee, -⟩ := HE.out
            have HR1 := hid (show Row wr b (P ++ (L.take (i - a) ++ R.take (f - m)) ++ (L.drop (i - a) ++ R.drop (f - m) ++ S)) ∧ Keeps K w wr from by
              refine ⟨?_, by rw [← HW.out]; exact (Keeps.refl _ _).drewN q⟩
              rw [← HW.out]; have := row_parts (i - a) (f - m) (HH.out.row.drewN q)
              have e1 : R.take (f - m) = [] := by rw [show f - m = 0 from by omega]; rfl
              rw [e1] at this ⊢; simp only [List.append_assoc, List.append_nil] at this ⊢; exact this)
            clear hlen hm ha he hmid hz hp hl2 hr2 hf ea em ef ee g1 g2
            by_cases g5 : a < i ∧ i < mid
            · have g6 : (a : Int) < (i : Int) := by omega
              have g7 : (i : Int) < (mid : Int) := by omega
              go_wp2_with fail
              obtain ⟨hlen, hm, ha, he, hmid, hz, hp, hl2, hr2⟩ := HL.out
              obtain ⟨hf, ea, em, ef, ee, -⟩ := HE.out
              refine (HIH.out wr a i mid P (L.take (i - a)) (R.take (f - m)) (L.drop (i - a) ++ R.drop (f - m) ++ S) ⟨by simpa [List.append_assoc] using HR1.out.1, hkb, by first | (simp; done) | (simp; omega), ha, by first | (simp; done) | (simp; omega), by first | (simp; done) | (simp; omega), pw_take HH.out.sl _, pw_take HH.out.sr _,
                fun x hx y hy => HH.out.ord x (List.mem_of_mem_take hx) y (List.mem_of_mem_take hy), fun x hx => HH.out.ul x (List.mem_of_mem_take hx), fun x hx => HH.out.ur x (List.mem_of_mem_take hx), by omega, by omega, by unfold maxLen; omega⟩ (hC.keep HR1.out.2) (by first | (simp; done) | (simp; omega)) (by first | (simp; done) | (simp; omega)) (by first | (simp; done) | (simp; omega))).mono ?_
              rintro en W2 ⟨rfl, Y1, hr2', hp1, hs1, hk2⟩
              have HR2 := hid (show ∃ Y1, Row W2 b (P ++ Y1 ++ (L.drop (i - a) ++ R.drop (f - m) ++ S)) ∧ Y1.Perm (L.take (i - a) ++ R.take (f - m)) ∧ Y1.Pairwise (Lt key) ∧ Keeps K w W2 from ⟨Y1, hr2', hp1, hs1, HR1.out.2.trans hk2⟩)
              clear hlen hm ha he hmid hz hp hl2 hr2 hf ea em ef ee hr2' hp1 hs1 hk2 HR1 g5
              by_cases g9 : mid < f ∧ f < e
              · have g10 : (mid : Int) < (f : Int) := by omega
                have g11 : (f : Int) < (e : Int) := by omega
                go_wp2_with fail
                all_goals
                  obtain ⟨hlen, hm, ha, he, hmid, hz, hp, hl2, hr2⟩ := HL.out
                  obtain ⟨hf, ea, em, ef, ee, -⟩ := HE.out
                  obtain ⟨Y1, hr3, hp1, hs1, hk3⟩ := HR2.out
                  have hy1 := hp1.length_eq
                  simp only [List.length_append, List.length_take] at hy1
                  refine (HIH.out W2 mid f e (P ++ Y1) (L.drop (i - a)) (R.drop (f - m)) S ⟨by simpa [List.append_assoc] using hr3, hkb, by first | (simp; done) | (simp; omega), by first | (simp; done) | (simp; omega), by first | (simp; done) | (simp; omega), by first | (simp; done) | (simp; omega), pw_drop HH.out.sl _, pw_drop HH.out.sr _,
                    fun x hx y hy => HH.out.ord x (List.mem_of_mem_drop hx) y (List.mem_of_mem_drop hy), fun x hx => HH.out.ul x (List.mem_of_mem_drop hx), fun x hx => HH.out.ur x (List.mem_of_mem_drop hx), by omega, by omega, by unfold maxLen; omega⟩ (hC.keep hk3) (by first | (simp; done) | (simp; omega)) (by first | (simp; done) | (simp; omega)) (by first | (simp; done) | (simp; omega))).mono ?_
                  rintro en W3 ⟨rfl, Y2, hr4, hp2, hs2, hk4⟩
                  have HM := hid (show Merged w W3 K b key P L R S from by
                    have := merge_sorted (key := key) (L1 := L.take (i - a)) (L2 := L.drop (i - a)) (R1 := R.take (f - m)) (R2 := R.drop (f - m)) (by rw [List.take_append_drop]; exact HH.out.sl) (by rw [List.take_append_drop]; exact HH.out.sr) hp1 hp2 hs1 hs2 HX.out.1 HX.out.2
                    rw [List.take_append_drop, List.take_append_drop] at this
                    exact ⟨Y1 ++ Y2, by simpa [List.append_assoc] using hr4, this.1, this.2, hk3.trans hk4⟩)
                  clear hlen hm ha he hmid hz hp hl2 hr2 hf ea em ef ee hr3 hp1 hs1 hk3 hy1 hr4 hp2 hs2 hk4 HR2 g9
                  go_wp2_with fail
                  all_goals (try go_end0)
                  all_goals (exact hR'.out _ _ ⟨rfl, HM.out⟩)
              · rcases Nat.lt_or_ge mid f with g10 | g10
                · have g11 : ¬ (f : Int) < (e : Int) := by omega
                  have g12 : (mid : Int) < (f : Int) := by omega
                  obtain ⟨hlen, hm, ha, he, hmid, hz, hp, hl2, hr2⟩ := HL.out
                  obtain ⟨hf, ea, em, ef, ee, -⟩ := HE.out
                  obtain ⟨Y1, hr3, hp1, hs1, hk3⟩ := HR2.out
                  have HM := hid (show Merged w W2 K b key P L R S from by
                    have hs2 : (L.drop (i - a) ++ R.drop (f - m)).Pairwise (Lt key) := by
                      have e1 : R.drop (f - m) = [] := List.drop_of_length_le (by omega)
                      rw [e1, List.append_nil]; exact pw_drop HH.out.sl _
                    have := merge_sorted (key := key) (L1 := L.take (i - a)) (L2 := L.drop (i - a)) (R1 := R.take (f - m)) (R2 := R.drop (f - m)) (by rw [List.take_append_drop]; exact HH.out.sl) (by rw [List.take_append_drop]; exact HH.out.sr) hp1 (List.Perm.refl _) hs1 hs2 HX.out.1 HX.out.2
                    rw [List.take_append_drop, List.take_append_drop] at this
                    exact ⟨Y1 ++ (L.drop (i - a) ++ R.drop (f - m)), by simpa [List.append_assoc] using hr3, this.1, this.2, hk3⟩)
                  clear hlen hm ha he hmid hz hp hl2 hr2 hf ea em ef ee hr3 hp1 hs1 hk3 HR2 g9 g10
                  go_wp2_with fail
                  all_goals (try go_end0)
                  all_goals (exact hR'.out _ _ ⟨rfl, HM.out⟩)
                · have g11 : ¬ (mid : Int) < (f : Int) := by omega
                  obtain ⟨hlen, hm, ha, he, hmid, hz, hp, hl2, hr2⟩ := HL.out
                  obtain ⟨hf, ea, em, ef, ee, -⟩ := HE.out
                  obtain ⟨Y1, hr3, hp1, hs1, hk3⟩ := HR2.out
                  have HM := hid (show Merged w W2 K b key P L R S from by
                    have hs2 : (L.drop (i - a) ++ R.drop (f - m)).Pairwise (Lt key) := by
                      have e1 : L.drop (i - a) = [] := List.drop_of_length_le (by omega)
                      rw [e1, List.nil_append]; exact pw_drop HH.out.sr _
                    have := merge_sorted (key := key) (L1 := L.take (i - a)) (L2 := L.drop (i - a)) (R1 := R.take (f - m)) (R2 := R.drop (f - m)) (by rw [List.take_append_drop]; exact HH.out.sl) (by rw [List.take_append_drop]; exact HH.out.sr) hp1 (List.Perm.refl _) hs1 hs2 HX.out.1 HX.out.2
                    rw [List.take_append_drop, List.take_append_drop] at this
                    exact ⟨Y1 ++ (L.drop (i - a) ++ R.drop (f - m)), by simpa [List.append_assoc] using hr3, this.1, this.2, hk3⟩)
                  clear hlen hm ha he hmid hz hp hl2 hr2 hf ea em ef ee hr3 hp1 hs1 hk3 HR2 g9 g10
                  go_wp2_with fail
                  all_goals (try go_end0)
                  all_goals (exact hR'.out _ _ ⟨rfl, HM.out⟩)
            · rcases Nat.lt_or_ge a i with g6 | g6
              · have g7 : ¬ (i : Int) < (mid : Int) := by omega
                have g8 : (a : Int) < (i : Int) := by omega
                obtain ⟨hlen, hm, ha, he, hmid, hz, hp, hl2, hr2⟩ := HL.out
                obtain ⟨hf, ea, em, ef, ee, -⟩ := HE.out
                obtain ⟨hr1, hk1⟩ := HR1.out
                have HR2 := hid (show ∃ Y1, Row wr b (P ++ Y1 ++ (L.drop (i - a) ++ R.drop (f - m) ++ S)) ∧ Y1.Perm (L.take (i - a) ++ R.take (f - m)) ∧ Y1.Pairwise (Lt key) ∧ Keeps K w wr from by
                  refine ⟨L.take (i - a) ++ R.take (f - m), hr1, List.Perm.refl _, ?_, hk1⟩
                  have e1 : f - m = 0 := by omega
                  rw [e1, List.take_zero, List.append_nil]; exact pw_take HH.out.sl _)
                clear hlen hm ha he hmid hz hp hl2 hr2 hf ea em ef ee hr1 hk1 HR1 g5 g6
                by_cases g9 : mid < f ∧ f < e
                · have g10 : (mid : Int) < (f : Int) := by omega
                  have g11 : (f : Int) < (e : Int) := by omega
                  go_wp2_with fail
                  all_goals
                    obtain ⟨hlen, hm, ha, he, hmid, hz, hp, hl2, hr2⟩ := HL.out
                    obtain ⟨hf, ea, em, ef, ee, -⟩ := HE.out
                    obtain ⟨Y1, hr3, hp1, hs1, hk3⟩ := HR2.out
                    have hy1 := hp1.length_eq
                    simp only [List.length_append, List.length_take] at hy1
                    refine (HIH.out wr mid f e (P ++ Y1) (L.drop (i - a)) (R.drop (f - m)) S ⟨by simpa [List.append_assoc] using hr3, hkb, by first | (simp; done) | (simp; omega), by first | (simp; done) | (simp; omega), by first | (simp; done) | (simp; omega), by first | (simp; done) | (simp; omega), pw_drop HH.out.sl _, pw_drop HH.out.sr _,
                      fun x hx y hy => HH.out.ord x (List.mem_of_mem_drop hx) y (List.mem_of_mem_drop hy), fun x hx => HH.out.ul x (List.mem_of_mem_drop hx), fun x hx => HH.out.ur x (List.mem_of_mem_drop hx), by omega, by omega, by unfold maxLen; omega⟩ (hC.keep hk3) (by first | (simp; done) | (simp; omega)) (by first | (simp; done) | (simp; omega)) (by first | (simp; done) | (simp; omega))).mono ?_
                    rintro en W3 ⟨rfl, Y2, hr4, hp2, hs2, hk4⟩
                    have HM := hid (show Merged w W3 K b key P L R S from by
                      have := merge_sorted (key := key) (L1 := L.take (i - a)) (L2 := L.drop (i - a)) (R1 := R.take (f - m)) (R2 := R.drop (f - m)) (by rw [List.take_append_drop]; exact HH.out.sl) (by rw [List.take_append_drop]; exact HH.out.sr) hp1 hp2 hs1 hs2 HX.out.1 HX.out.2
                      rw [List.take_append_drop, List.take_append_drop] at this
                      exact ⟨Y1 ++ Y2, by simpa [List.append_assoc] using hr4, this.1, this.2, hk3.trans hk4⟩)
                    clear hlen hm ha he hmid hz hp hl2 hr2 hf ea em ef ee hr3 hp1 hs1 hk3 hy1 hr4 hp2 hs2 hk4 HR2 g9
                    go_wp2_with fail
                    all_goals (try go_end0)
                    all_goals (exact hR'.out _ _ ⟨rfl, HM.out⟩)
                · rcases Nat.lt_or_ge mid f with g10 | g10
                  · have g11 : ¬ (f : Int) < (e : Int) := by omega
                    have g12 : (mid : Int) < (f : Int) := by omega
                    obtain ⟨hlen, hm, ha, he, hmid, hz, hp, hl2, hr2⟩ := HL.out
                    obtain ⟨hf, ea, em, ef, ee, -⟩ := HE.out
                    obtain ⟨Y1, hr3, hp1, hs1, hk3⟩ := HR2.out
                    have HM := hid (show Merged w wr K b key P L R S from by
                      have hs2 : (L.drop (i - a) ++ R.drop (f - m)).Pairwise (Lt key) := by
                        have e1 : R.drop (f - m) = [] := List.drop_of_length_le (by omega)
                        rw [e1, List.append_nil]; exact pw_drop HH.out.sl _
                      have := merge_sorted (key := key) (L1 := L.take (i - a)) (L2 := L.drop (i - a)) (R1 := R.take (f - m)) (R2 := R.drop (f - m)) (by rw [List.take_append_drop]; exact HH.out.sl) (by rw [List.take_append_drop]; exact HH.out.sr) hp1 (List.Perm.refl _) hs1 hs2 HX.out.1 HX.out.2
                      rw [List.take_append_drop, List.take_append_drop] at this
                      exact ⟨Y1 ++ (L.drop (i - a) ++ R.drop (f - m)), by simpa [List.append_assoc] using hr3, this.1, this.2, hk3⟩)
                    clear hlen hm ha he hmid hz hp hl2 hr2 hf ea em ef ee hr3 hp1 hs1 hk3 HR2 g9 g10
                    go_wp2_with fail
                    all_goals (try go_end0)
                    all_goals (exact hR'.out _ _ ⟨rfl, HM.out⟩)
                  · have g11 : ¬ (mid : Int) < (f : Int) := by omega
                    obtain ⟨hlen, hm, ha, he, hmid, hz, hp, hl2, hr2⟩ := HL.out
                    obtain ⟨hf, ea, em, ef, ee, -⟩ := HE.out
                    obtain ⟨Y1, hr3, hp1, hs1, hk3⟩ := HR2.out
                    have HM := hid (show Merged w wr K b key P L R S from by
                      have hs2 : (L.drop (i - a) ++ R.drop (f - m)).Pairwise (Lt key) := by
                        have e1 : L.drop (i - a) = [] := List.drop_of_length_le (by omega)
                        rw [e1, List.nil_append]; exact pw_drop HH.out.sr _
                      have := merge_sorted (key := key) (L1 := L.take (i - a)) (L2 := L.drop (i - a)) (R1 := R.take (f - m)) (R2 := R.drop (f - m)) (by rw [List.take_append_drop]; exact HH.out.sl) (by rw [List.take_append_drop]; exact HH.out.sr) hp1 (List.Perm.refl _) hs1 hs2 HX.out.1 HX.out.2
                      rw [List.take_append_drop, List.take_append_drop] at this
                      exact ⟨Y1 ++ (L.drop (i - a) ++ R.drop (f - m)), by simpa [List.append_assoc] using hr3, this.1, this.2, hk3⟩)
                    clear hlen hm ha he hmid hz hp hl2 hr2 hf ea em ef ee hr3 hp1 hs1 hk3 HR2 g9 g10
                    go_wp2_with fail
                    all_goals (try go_end0)
                    all_goals (exact hR'.out _ _ ⟨rfl, HM.out⟩)
              · have g7 : ¬ (a : Int) < (i : Int) := by omega
                obtain ⟨hlen, hm, ha, he, hmid, hz, hp, hl2, hr2⟩ := HL.out
                obtain ⟨hf, ea, em, ef, ee, -⟩ := HE.out
                obtain ⟨hr1, hk1⟩ := HR1.out
                have HR2 := hid (show ∃ Y1, Row wr b (P ++ Y1 ++ (L.drop (i - a) ++ R.drop (f - m) ++ S)) ∧ Y1.Perm (L.take (i - a) ++ R.take (f - m)) ∧ Y1.Pairwise (Lt key) ∧ Keeps K w wr from by
                  refine ⟨L.take (i - a) ++ R.take (f - m), hr1, List.Perm.refl _, ?_, hk1⟩
                  have e1 : i - a = 0 := by omega
                  rw [e1, List.take_zero, List.nil_append]; exact pw_take HH.out.sr _)
                clear hlen hm ha he hmid hz hp hl2 hr2 hf ea em ef ee hr1 hk1 HR1 g5 g6
                by_cases g9 : mid < f ∧ f < e
                · have g10 : (mid : Int) < (f : Int) := by omega
                  have g11 : (f : Int) < (e : Int) := by omega
                  go_wp2_with fail
                  all_goals
                    obtain ⟨hlen, hm, ha, he, hmid, hz, hp, hl2, hr2⟩ := HL.out
                    obtain ⟨hf, ea, em, ef, ee, -⟩ := HE.out
                    obtain ⟨Y1, hr3, hp1, hs1, hk3⟩ := HR2.out
                    have hy1 := hp1.length_eq
                    simp only [List.length_append, List.length_take] at hy1
                    refine (HIH.out wr mid f e (P ++ Y1) (L.drop (i - a)) (R.drop (f - m)) S ⟨by simpa [List.append_assoc] using hr3, hkb, by first | (simp; done) | (simp; omega), by first | (simp; done) | (simp; omega), by first | (simp; done) | (simp; omega), by first | (simp; done) | (simp; omega), pw_drop HH.out.sl _, pw_drop HH.out.sr _,
                      fun x hx y hy => HH.out.ord x (List.mem_of_mem_drop hx) y (List.mem_of_mem_drop hy), fun x hx => HH.out.ul x (List.mem_of_mem_drop hx), fun x hx => HH.out.ur x (List.mem_of_mem_drop hx), by omega, by omega, by unfold maxLen; omega⟩ (hC.keep hk3) (by first | (simp; done) | (simp; omega)) (by first | (simp; done) | (simp; omega)) (by first | (simp; done) | (simp; omega))).mono ?_
                    rintro en W3 ⟨rfl, Y2, hr4, hp2, hs2, hk4⟩
                    have HM := hid (show Merged w W3 K b key P L R S from by
                      have := merge_sorted (key := key) (L1 := L.take (i - a)) (L2 := L.drop (i - a)) (R1 := R.take (f - m)) (R2 := R.drop (f - m)) (by rw [List.take_append_drop]; exact HH.out.sl) (by rw [List.take_append_drop]; exact HH.out.sr) hp1 hp2 hs1 hs2 HX.out.1 HX.out.2
                      rw [List.take_append_drop, List.take_append_drop] at this
                      exact ⟨Y1 ++ Y2, by simpa [List.append_assoc] using hr4, this.1, this.2, hk3.trans hk4⟩)
                    clear hlen hm ha he hmid hz hp hl2 hr2 hf ea em ef ee hr3 hp1 hs1 hk3 hy1 hr4 hp2 hs2 hk4 HR2 g9
                    go_wp2_with fail
                    all_goals (try go_end0)
                    all_goals (exact hR'.out _ _ ⟨rfl, HM.out⟩)
                · rcases Nat.lt_or_ge mid f with g10 | g10
                  · have g11 : ¬ (f : Int) < (e : Int) := by omega
                    have g12 : (mid : Int) < (f : Int) := by omega
                    obtain ⟨hlen, hm, ha, he, hmid, hz, hp, hl2, hr2⟩ := HL.out
                    obtain ⟨hf, ea, em, ef, ee, -⟩ := HE.out
                    obtain ⟨Y1, hr3, hp1, hs1, hk3⟩ := HR2.out
                    have HM := hid (show Merged w wr K b key P L R S from by
                      have hs2 : (L.drop (i - a) ++ R.drop (f - m)).Pairwise (Lt key) := by
                        have e1 : R.drop (f - m) = [] := List.drop_of_length_le (by omega)
                        rw [e1, List.append_nil]; exact pw_drop HH.out.sl _
                      have := merge_sorted (key := key) (L1 := L.take (i - a)) (L2 := L.drop (i - a)) (R1 := R.take (f - m)) (R2 := R.drop (f - m)) (by rw [List.take_append_drop]; exact HH.out.sl) (by rw [List.take_append_drop]; exact HH.out.sr) hp1 (List.Perm.refl _) hs1 hs2 HX.out.1 HX.out.2
                      rw [List.take_append_drop, List.take_append_drop] at this
                      exact ⟨Y1 ++ (L.drop (i - a) ++ R.drop (f - m)), by simpa [List.append_assoc] using hr3, this.1, this.2, hk3⟩)
                    clear hlen hm ha he hmid hz hp hl2 hr2 hf ea em ef ee hr3 hp1 hs1 hk3 HR2 g9 g10
                    go_wp2_with fail
                    all_goals (try go_end0)
                    all_goals (exact hR'.out _ _ ⟨rfl, HM.out⟩)
                  · have g11 : ¬ (mid : Int) < (f : Int) := by omega
                    obtain ⟨hlen, hm, ha, he, hmid, hz, hp, hl2, hr2⟩ := HL.out
                    obtain ⟨hf, ea, em, ef, ee, -⟩ := HE.out
                    obtain ⟨Y1, hr3, hp1, hs1, hk3⟩ := HR2.out
                    have HM := hid (show Merged w wr K b key P L R S from by
                      have hs2 : (L.drop (i - a) ++ R.drop (f - m)).Pairwise (Lt key) := by
                        have e1 : L.drop (i - a) = [] := List.drop_of_length_le (by omega)
                        rw [e1, List.nil_append]; exact pw_drop HH.out.sr _
                      have := merge_sorted (key := key) (L1 := L.take (i - a)) (L2 := L.drop (i - a)) (R1 := R.take (f - m)) (R2 := R.drop (f - m)) (by rw [List.take_append_drop]; exact HH.out.sl) (by rw [List.take_append_drop]; exact HH.out.sr) hp1 (List.Perm.refl _) hs1 hs2 HX.out.1 HX.out.2
                      rw [List.take_append_drop, List.take_append_drop] at this
                      exact ⟨Y1 ++ (L.drop (i - a) ++ R.drop (f - m)), by simpa [List.append_assoc] using hr3, this.1, this.2, hk3⟩)
                    clear hlen hm ha he hmid hz hp hl2 hr2 hf ea em ef ee hr3 hp1 hs1 hk3 HR2 g9 g10
                    go_wp2_with fail
                    all_goals (try go_end0)
                    all_goals (exact hR'.out _ _ ⟨rfl, HM.out⟩)
          · have g3 : ¬ (i : Int) < (m : Int) := by omega
            obtain ⟨hlen, hm, ha, he, hmid, hz, hp, hl2, hr2⟩ := HL.out
            obtain ⟨hf, ea, em, ef, ee, -⟩ := HE.out
            have HR1 := hid (show Row wr b (P ++ (L.take (i - a) ++ R.take (f - m)) ++ (L.drop (i - a) ++ R.drop (f - m) ++ S)) ∧ Keeps K w wr from by
              refine ⟨?_, by rw [← HW.out]; exact (Keeps.refl _ _).drewN q⟩
              rw [← HW.out]; have := row_parts (i - a) (f - m) (HH.out.row.drewN q)
              have e2 : L.drop (i - a) = [] := List.drop_of_length_le (by omega)
              rw [e2] at this ⊢; simp only [List.append_assoc, List.nil_append, List.append_nil] at this ⊢; exact this)
            clear hlen hm ha he hmid hz hp hl2 hr2 hf ea em ef ee g1 g2
            by_cases g5 : a < i ∧ i < mid
            · have g6 : (a : Int) < (i : Int) := by omega
              have g7 : (i : Int) < (mid : Int) := by omega
              go_wp2_with fail
              obtain ⟨hlen, hm, ha, he, hmid, hz, hp, hl2, hr2⟩ := HL.out
              obtain ⟨hf, ea, em, ef, ee, -⟩ := HE.out
              refine (HIH.out wr a i mid P (L.take (i - a)) (R.take (f - m)) (L.drop (i - a) ++ R.drop (f - m) ++ S) ⟨by simpa [List.append_assoc] using HR1.out.1, hkb, by first | (simp; done) | (simp; omega), ha, by first | (simp; done) | (simp; omega), by first | (simp; done) | (simp; omega), pw_take HH.out.sl _, pw_take HH.out.sr _,
                fun x hx y hy => HH.out.ord x (List.mem_of_mem_take hx) y (List.mem_of_mem_take hy), fun x hx => HH.out.ul x (List.mem_of_mem_take hx), fun x hx => HH.out.ur x (List.mem_of_mem_take hx), by omega, by omega, by unfold maxLen; omega⟩ (hC.keep HR1.out.2) (by first | (simp; done) | (simp; omega)) (by first | (simp; done) | (simp; omega)) (by first | (simp; done) | (simp; omega))).mono ?_
              rintro en W2 ⟨rfl, Y1, hr2', hp1, hs1, hk2⟩
              have HR2 := hid (show ∃ Y1, Row W2 b (P ++ Y1 ++ (L.drop (i - a) ++ R.drop (f - m) ++ S)) ∧ Y1.Perm (L.take (i - a) ++ R.take (f - m)) ∧ Y1.Pairwise (Lt key) ∧ Keeps K w W2 from ⟨Y1, hr2', hp1, hs1, HR1.out.2.trans hk2⟩)
              clear hlen hm ha he hmid hz hp hl2 hr2 hf ea em ef ee hr2' hp1 hs1 hk2 HR1 g5
              by_cases g9 : mid < f ∧ f < e
              · have g10 : (mid : Int) < (f : Int) := by omega
                have g11 : (f : Int) < (e : Int) := by omega
                go_wp2_with fail
                all_goals
                  obtain ⟨hlen, hm, ha, he, hmid, hz, hp, hl2, hr2⟩ := HL.out
                  obtain ⟨hf, ea, em, ef, ee, -⟩ := HE.out
                  obtain ⟨Y1, hr3, hp1, hs1, hk3⟩ := HR2.out
                  have hy1 := hp1.length_eq
                  simp only [List.length_append, List.length_take] at hy1
                  refine (HIH.out W2 mid f e (P ++ Y1) (L.drop (i - a)) (R.drop (f - m)) S ⟨by simpa [List.append_assoc] using hr3, hkb, by first | (simp; done) | (simp; omega), by first | (simp; done) | (simp; omega), by first | (simp; done) | (simp; omega), by first | (simp; done) | (simp; omega), pw_drop HH.out.sl _, pw_drop HH.out.sr _,
                    fun x hx y hy => HH.out.ord x (List.mem_of_mem_drop hx) y (List.mem_of_mem_drop hy), fun x hx => HH.out.ul x (List.mem_of_mem_drop hx), fun x hx => HH.out.ur x (List.mem_of_mem_drop hx), by omega, by omega, by unfold maxLen; omega⟩ (hC.keep hk3) (by first | (simp; done) | (simp; omega)) (by first | (simp; done) | (simp; omega)) (by first | (simp; done) | (simp; omega))).mono ?_
                  rintro en W3 ⟨rfl, Y2, hr4, hp2, hs2, hk4⟩
                  have HM := hid (show Merged w W3 K b key P L R S from by
                    have := merge_sorted (key := key) (L1 := L.take (i - a)) (L2 := L.drop (i - a)) (R1 := R.take (f - m)) (R2 := R.drop (f - m)) (by rw [List.take_append_drop]; exact HH.out.sl) (by rw [List.take_append_drop]; exact HH.out.sr) hp1 hp2 hs1 hs2 HX.out.1 HX.out.2
                    rw [List.take_append_drop, List.take_append_drop] at this
                    exact ⟨Y1 ++ Y2, by simpa [List.append_assoc] using hr4, this.1, this.2, hk3.trans hk4⟩)
                  clear hlen hm ha he hmid hz hp hl2 hr2 hf ea em ef ee hr3 hp1 hs1 hk3 hy1 hr4 hp2 hs2 hk4 HR2 g9
                  go_wp2_with fail
                  all_goals (try go_end0)
                  all_goals (exact hR'.out _ _ ⟨rfl, HM.out⟩)
              · rcases Nat.lt_or_ge mid f with g10 | g10
                · have g11 : ¬ (f : Int) < (e : Int) := by omega
                  have g12 : (mid : Int) < (f : Int) := by omega
                  obtain ⟨hlen, hm, ha, he, hmid, hz, hp, hl2, hr2⟩ := HL.out
                  obtain ⟨hf, ea, em, ef, ee, -⟩ := HE.out
                  obtain ⟨Y1, hr3, hp1, hs1, hk3⟩ := HR2.out
                  have HM := hid (show Merged w W2 K b key P L R S from by
                    have hs2 : (L.drop (i - a) ++ R.drop (f - m)).Pairwise (Lt key) := by
                      have e1 : R.drop (f - m) = [] := List.drop_of_length_le (by omega)
                      rw [e1, List.append_nil]; exact pw_drop HH.out.sl _
                    have := merge_sorted (key := key) (L1 := L.take (i - a)) (L2 := L.drop (i - a)) (R1 := R.take (f - m)) (R2 := R.drop (f - m)) (by rw [List.take_append_drop]; exact HH.out.sl) (by rw [List.take_append_drop]; exact HH.out.sr) hp1 (List.Perm.refl _) hs1 hs2 HX.out.1 HX.out.2
                    rw [List.take_append_drop, List.take_append_drop] at this
                    exact ⟨Y1 ++ (L.drop (i - a) ++ R.drop (f - m)), by simpa [List.append_assoc] using hr3, this.1, this.2, hk3⟩)
                  clear hlen hm ha he hmid hz hp hl2 hr2 hf ea em ef ee hr3 hp1 hs1 hk3 HR2 g9 g10
                  go_wp2_with fail
                  all_goals (try go_end0)
                  all_goals (exact hR'.out _ _ ⟨rfl, HM.out⟩)
                · have g11 : ¬ (mid : Int) < (f : Int) := by omega
                  obtain ⟨hlen, hm, ha, he, hmid, hz, hp, hl2, hr2⟩ := HL.out
                  obtain ⟨hf, ea, em, ef, ee, -⟩ := HE.out
                  obtain ⟨Y1, hr3, hp1, hs1, hk3⟩ := HR2.out
                  have HM := hid (show Merged w W2 K b key P L R S from by
                    have hs2 : (L.drop (i - a) ++ R.drop (f - m)).Pairwise (Lt key) := by
                      have e1 : L.drop (i - a) = [] := List.drop_of_length_le (by omega)
                      rw [e1, List.nil_append]; exact pw_drop HH.out.sr _
                    have := merge_sorted (key := key) (L1 := L.take (i - a)) (L2 := L.drop (i - a)) (R1 := R.take (f - m)) (R2 := R.drop (f - m)) (by rw [List.take_append_drop]; exact HH.out.sl) (by rw [List.take_append_drop]; exact HH.out.sr) hp1 (List.Perm.refl _) hs1 hs2 HX.out.1 HX.out.2
                    rw [List.take_append_drop, List.take_append_drop] at this
                    exact ⟨Y1 ++ (L.drop (i - a) ++ R.drop (f - m)), by simpa [List.append_assoc] using hr3, this.1, this.2, hk3⟩)
                  clear hlen hm ha he hmid hz hp hl2 hr2 hf ea em ef ee hr3 hp1 hs1 hk3 HR2 g9 g10
                  go_wp2_with fail
                  all_goals (try go_end0)
                  all_goals (exact hR'.out _ _ ⟨rfl, HM.out⟩)
            · rcases Nat.lt_or_ge a i with g6 | g6
              · have g7 : ¬ (i : Int) < (mid : Int) := by omega
                have g8 : (a : Int) < (i : Int) := by omega
                obtain ⟨hlen, hm, ha, he, hmid, hz, hp, hl2, hr2⟩ := HL.out
                obtain ⟨hf, ea, em, ef, ee, -⟩ := HE.out
                obtain ⟨hr1, hk1⟩ := HR1.out
                have HR2 := hid (show ∃ Y1, Row wr b (P ++ Y1 ++ (L.drop (i - a) ++ R.drop (f - m) ++ S)) ∧ Y1.Perm (L.take (i - a) ++ R.take (f - m)) ∧ Y1.Pairwise (Lt key) ∧ Keeps K w wr from by
                  refine ⟨L.take (i - a) ++ R.take (f - m), hr1, List.Perm.refl _, ?_, hk1⟩
                  have e1 : f - m = 0 := by omega
                  rw [e1, List.take_zero, List.append_nil]; exact pw_take HH.out.sl _)
                clear hlen hm ha he hmid hz hp hl2 hr2 hf ea em ef ee hr1 hk1 HR1 g5 g6
                by_cases g9 : mid < f ∧ f < e
                · have g10 : (mid : Int) < (f : Int) := by omega
                  have g11 : (f : Int) < (e : Int) := by omega
                  go_wp2_with fail
                  all_goals
                    obtain ⟨hlen, hm, ha, he, hmid, hz, hp, hl2, hr2⟩ := HL.out
                    obtain ⟨hf, ea, em, ef, ee, -⟩ := HE.out
                    obtain ⟨Y1, hr3, hp1, hs1, hk3⟩ := HR2.out
                    have hy1 := hp1.length_eq
                    simp only [List.length_append, List.length_take] at hy1
                    refine (HIH.out wr mid f e (P ++ Y1) (L.drop (i - a)) (R.drop (f - m)) S ⟨by simpa [List.append_assoc] using hr3, hkb, by first | (simp; done) | (simp; omega), by first | (simp; done) | (simp; omega), by first | (simp; done) | (simp; omega), by first | (simp; done) | (simp; omega), pw_drop HH.out.sl _, pw_drop HH.out.sr _,
                      fun x hx y hy => HH.out.ord x (List.mem_of_mem_drop hx) y (List.mem_of_mem_drop hy), fun x hx => HH.out.ul x (List.mem_of_mem_drop hx), fun x hx => HH.out.ur x (List.mem_of_mem_drop hx), by omega, by omega, by unfold maxLen; omega⟩ (hC.keep hk3) (by first | (simp; done) | (simp; omega)) (by first | (simp; done) | (simp; omega)) (by first | (simp; done) | (simp; omega))).mono ?_
                    rintro en W3 ⟨rfl, Y2, hr4, hp2, hs2, hk4⟩
                    have HM := hid (show Merged w W3 K b key P L R S from by
                      have := merge_sorted (key := key) (L1 := L.take (i - a)) (L2 := L.drop (i - a)) (R1 := R.take (f - m)) (R2 := R.drop (f - m)) (by rw [List.take_append_drop]; exact HH.out.sl) (by rw [List.take_append_drop]; exact HH.out.sr) hp1 hp2 hs1 hs2 HX.out.1 HX.out.2
                      rw [List.take_append_drop, List.take_append_drop] at this
                      exact ⟨Y1 ++ Y2, by simpa [List.append_assoc] using hr4, this.1, this.2, hk3.trans hk4⟩)
                    clear hlen hm ha he hmid hz hp hl2 hr2 hf ea em ef ee hr3 hp1 hs1 hk3 hy1 hr4 hp2 hs2 hk4 HR2 g9
                    go_wp2_with fail
                    all_goals (try go_end0)
                    all_goals (exact hR'.out _ _ ⟨rfl, HM.out⟩)
                · rcases Nat.lt_or_ge mid f with g10 | g10
                  · have g11 : ¬ (f : Int) < (e : Int) := by omega
                    have g12 : (mid : Int) < (f : Int) := by omega
                    obtain ⟨hlen, hm, ha, he, hmid, hz, hp, hl2, hr2⟩ := HL.out
                    obtain ⟨hf, ea, em, ef, ee, -⟩ := HE.out
                    obtain ⟨Y1, hr3, hp1, hs1, hk3⟩ := HR2.out
                    have HM := hid (show Merged w wr K b key P L R S from by
                      have hs2 : (L.drop (i - a) ++ R.drop (f - m)).Pairwise (Lt key) := by
                        have e1 : R.drop (f - m) = [] := List.drop_of_length_le (by omega)
                        rw [e1, List.append_nil]; exact pw_drop HH.out.sl _
                      have := merge_sorted (key := key) (L1 := L.take (i - a)) (L2 := L.drop (i - a)) (R1 := R.take (f - m)) (R2 := R.drop (f - m)) (by rw [List.take_append_drop]; exact HH.out.sl) (by rw [List.take_append_drop]; exact HH.out.sr) hp1 (List.Perm.refl _) hs1 hs2 HX.out.1 HX.out.2
                      rw [List.take_append_drop, List.take_append_drop] at this
                      exact ⟨Y1 ++ (L.drop (i - a) ++ R.drop (f - m)), by simpa [List.append_assoc] using hr3, this.1, this.2, hk3⟩)
                    clear hlen hm ha he hmid hz hp hl2 hr2 hf ea em ef ee hr3 hp1 hs1 hk3 HR2 g9 g10
                    go_wp2_with fail
                    all_goals (try go_end0)
                    all_goals (exact hR'.out _ _ ⟨rfl, HM.out⟩)
                  · have g11 : ¬ (mid : Int) < (f : Int) := by omega
                    obtain ⟨hlen, hm, ha, he, hmid, hz, hp, hl2, hr2⟩ := HL.out
                    obtain ⟨hf, ea, em, ef, ee, -⟩ := HE.out
                    obtain ⟨Y1, hr3, hp1, hs1, hk3⟩ := HR2.out
                    have HM := hid (show Merged w wr K b key P L R S from by
                      have hs2 : (L.drop (i - a) ++ R.drop (f - m)).Pairwise (Lt key) := by
                        have e1 : L.drop (i - a) = [] := List.drop_of_length_le (by omega)
                        rw [e1, List.nil_append]; exact pw_drop HH.out.sr _
                      have := merge_sorted (key := key) (L1 := L.take (i - a)) (L2 := L.drop (i - a)) (R1 := R.take (f - m)) (R2 := R.drop (f - m)) (by rw [List.take_append_drop]; exact HH.out.sl) (by rw [List.take_append_drop]; exact HH.out.sr) hp1 (List.Perm.refl _) hs1 hs2 HX.out.1 HX.out.2
                      rw [List.take_append_drop, List.take_append_drop] at this
                      exact ⟨Y1 ++ (L.drop (i - a) ++ R.drop (f - m)), by simpa [List.append_assoc] using hr3, this.1, this.2, hk3⟩)
                    clear hlen hm ha he hmid hz hp hl2 hr2 hf ea em ef ee hr3 hp1 hs1 hk3 HR2 g9 g10
                    go_wp2_with fail
                    all_goals (try go_end0)
                    all_goals (exact hR'.out _ _ ⟨rfl, HM.out⟩)
              · have g7 : ¬ (a : Int) < (i : Int) := by omega
                obtain ⟨hlen, hm, ha, he, hmid, hz, hp, hl2, hr2⟩ := HL.out
                obtain ⟨hf, ea, em, ef, ee, -⟩ := HE.out
                obtain ⟨hr1, hk1⟩ := HR1.out
                have HR2 := hid (show ∃ Y1, Row wr b (P ++ Y1 ++ (L.drop (i - a) ++ R.drop (f - m) ++ S)) ∧ Y1.Perm (L.take (i - a) ++ R.take (f - m)) ∧ Y1.Pairwise (Lt key) ∧ Keeps K w wr from by
                  refine ⟨L.take (i - a) ++ R.take (f - m), hr1, List.Perm.refl _, ?_, hk1⟩
                  have e1 : i - a = 0 := by omega
                  rw [e1, List.take_zero, List.nil_append]; exact pw_take HH.out.sr _)
                clear hlen hm ha he hmid hz hp hl2 hr2 hf ea em ef ee hr1 hk1 HR1 g5 g6
                by_cases g9 : mid < f ∧ f < e
                · have g10 : (mid : Int) < (f : Int) := by omega
                  have g11 : (f : Int) < (e : Int) := by omega
                  go_wp2_with fail
                  all_goals
                    obtain ⟨hlen, hm, ha, he, hmid, hz, hp, hl2, hr2⟩ := HL.out
                    obtain ⟨hf, ea, em, ef, ee, -⟩ := HE.out
                    obtain ⟨Y1, hr3, hp1, hs1, hk3⟩ := HR2.out
                    have hy1 := hp1.length_eq
                    simp only [List.length_append, List.length_take] at hy1
                    refine (HIH.out wr mid f e (P ++ Y1) (L.drop (i - a)) (R.drop (f - m)) S ⟨by simpa [List.append_assoc] using hr3, hkb, by first | (simp; done) | (simp; omega), by first | (simp; done) | (simp; omega), by first | (simp; done) | (simp; omega), by first | (simp; done) | (simp; omega), pw_drop HH.out.sl _, pw_drop HH.out.sr _,
                      fun x hx y hy => HH.out.ord x (List.mem_of_mem_drop hx) y (List.mem_of_mem_drop hy), fun x hx => HH.out.ul x (List.mem_of_mem_drop hx), fun x hx => HH.out.ur x (List.mem_of_mem_drop hx), by omega, by omega, by unfold maxLen; omega⟩ (hC.keep hk3) (by first | (simp; done) | (simp; omega)) (by first | (simp; done) | (simp; omega)) (by first | (simp; done) | (simp; omega))).mono ?_
                    rintro en W3 ⟨rfl, Y2, hr4, hp2, hs2, hk4⟩
                    have HM := hid (show Merged w W3 K b key P L R S from by
                      have := merge_sorted (key := key) (L1 := L.take (i - a)) (L2 := L.drop (i - a)) (R1 := R.take (f - m)) (R2 := R.drop (f - m)) (by rw [List.take_append_drop]; exact HH.out.sl) (by rw [List.take_append_drop]; exact HH.out.sr) hp1 hp2 hs1 hs2 HX.out.1 HX.out.2
                      rw [List.take_append_drop, List.take_append_drop] at this
                      exact ⟨Y1 ++ Y2, by simpa [List.append_assoc] using hr4, this.1, this.2, hk3.trans hk4⟩)
                    clear hlen hm ha he hmid hz hp hl2 hr2 hf ea em ef ee hr3 hp1 hs1 hk3 hy1 hr4 hp2 hs2 hk4 HR2 g9
                    go_wp2_with fail
                    all_goals (try go_end0)
                    all_goals (exact hR'.out _ _ ⟨rfl, HM.out⟩)
                · rcases Nat.lt_or_ge mid f with g10 | g10
                  · have g11 : ¬ (f : Int) < (e : Int) := by omega
                    have g12 : (mid : Int) < (f : Int) := by omega
                    obtain ⟨hlen, hm, ha, he, hmid, hz, hp, hl2, hr2⟩ := HL.out
                    obtain ⟨hf, ea, em, ef, ee, -⟩ := HE.out
                    obtain ⟨Y1, hr3, hp1, hs1, hk3⟩ := HR2.out
                    have HM := hid (show Merged w wr K b key P L R S from by
                      have hs2 : (L.drop (i - a) ++ R.drop (f - m)).Pairwise (Lt key) := by
                        have e1 : R.drop (f - m) = [] := List.drop_of_length_le (by omega)
                        rw [e1, List.append_nil]; exact pw_drop HH.out.sl _
                      have := merge_sorted (key := key) (L1 := L.take (i - a)) (L2 := L.drop (i - a)) (R1 := R.take (f - m)) (R2 := R.drop (f - m)) (by rw [List.take_append_drop]; exact HH.out.sl) (by rw [List.take_append_drop]; exact HH.out.sr) hp1 (List.Perm.refl _) hs1 hs2 HX.out.1 HX.out.2
                      rw [List.take_append_drop, List.take_append_drop] at this
                      exact ⟨Y1 ++ (L.drop (i - a) ++ R.drop (f - m)), by simpa [List.append_assoc] using hr3, this.1, this.2, hk3⟩)
                    clear hlen hm ha he hmid hz hp hl2 hr2 hf ea em ef ee hr3 hp1 hs1 hk3 HR2 g9 g10
                    go_wp2_with fail
                    all_goals (try go_end0)
                    all_goals (exact hR'.out _ _ ⟨rfl, HM.out⟩)
                  · have g11 : ¬ (mid : Int) < (f : Int) := by omega
                    obtain ⟨hlen, hm, ha, he, hmid, hz, hp, hl2, hr2⟩ := HL.out
                    obtain ⟨hf, ea, em, ef, ee, -⟩ := HE.out
                    obtain ⟨Y1, hr3, hp1, hs1, hk3⟩ := HR2.out
                    have HM := hid (show Merged w wr K b key P L R S from by
                      have hs2 : (L.drop (i - a) ++ R.drop (f - m)).Pairwise (Lt key) := by
                        have e1 : L.drop (i - a) = [] := List.drop_of_length_le (by omega)
                        rw [e1, List.nil_append]; exact pw_drop HH.out.sr _
                      have := merge_sorted (key := key) (L1 := L.take (i - a)) (L2 := L.drop (i - a)) (R1 := R.take (f - m)) (R2 := R.drop (f - m)) (by rw [List.take_append_drop]; exact HH.out.sl) (by rw [List.take_append_drop]; exact HH.out.sr) hp1 (List.Perm.refl _) hs1 hs2 HX.out.1 HX.out.2
                      rw [List.take_append_drop, List.take_append_drop] at this
                      exact ⟨Y1 ++ (L.drop (i - a) ++ R.drop (f - m)), by simpa [List.append_assoc] using hr3, this.1, this.2, hk3⟩)
                    clear hlen hm ha he hmid hz hp hl2 hr2 hf ea em ef ee hr3 hp1 hs1 hk3 HR2 g9 g10
                    go_wp2_with fail
                    all_goals (try go_end0)
                    all_goals (exact hR'.out _ _ ⟨rfl, HM.out⟩)
  · have u2 : ¬ (m : Int) > (mid : Int) := by omega
    have HM := hid hmm
    clear hlen hm ha he hmid hz hp hl2 hr2 H IH hmm
    go_enter Try.func57, Try.ntmps57
    go_wp2_with fail
    go_loopw [20, 21] (fun vi vj wr => ∃ (i j q : Nat), vi = .int .i64 (i : Int) ∧ vj = .int .i64 (j : Int) ∧ a ≤ i ∧ i ≤ j ∧ j ≤ m ∧ w.drewN q = wr ∧
        Hid (∀ c x y, L[c - a]? = some x → R[z - 1 - c - m]? = some y → (a ≤ c → c < i → Lt key x y) ∧ (j ≤ c → c < m → Lt key y x))) (fun i j _ => (intOf j).toNat - (intOf i).toNat)
    case atStart => exact ⟨a, m, 0, rfl, rfl, Nat.le_refl _, by obtain ⟨hlen, hm, ha, he, hmid, hz, hp, hl2, hr2⟩ := HL.out; have := HM.out; omega, Nat.le_refl _, rfl, hid fun c x y hx hy => ⟨fun h1 h2 => by omega, fun h1 h2 => by omega⟩⟩
    case round =>
      obtain ⟨i, j, q, rfl, rfl, hmi, hij, hje, hw, HI⟩ := hrel
      have HW := hid hw
      clear hw
      by_cases hlt : i < j
      · obtain ⟨c, hc⟩ : ∃ c, c = (i + j) / 2 := ⟨_, rfl⟩
        obtain ⟨hlen, hm, ha, he, hmid, hz, hp, hl2, hr2⟩ := HL.out
        have hmm := HM.out
        obtain ⟨pc, hpc⟩ : ∃ pc, p = pc + c := ⟨p - c, by omega⟩
        have s1 : ((i : Int) + (j : Int)) / 2 = (c : Int) := by omega
        have s2 : (c : Int) < (n : Int) := by omega
        have s3 : (pc : Int) < (n : Int) := by omega
        have s5 : (p : Int) - (c : Int) = (pc : Int) := by omega
        have s4 : (i : Int) < (j : Int) := by omega
        have ebd : a ≤ c ∧ c < m ∧ m ≤ pc ∧ pc < e := by omega
        obtain ⟨x, hx⟩ : ∃ x, L[c - a]? = some x := ⟨_, List.getElem?_eq_getElem (by omega)⟩
        obtain ⟨y, hy⟩ : ∃ y, R[pc - m]? = some y := ⟨_, List.getElem?_eq_getElem (by omega)⟩
        have c1 : wr.cell? ⟨b, pc, none⟩ = some (.int .i64 (y : Int)) := by
          rw [← HW.out]; refine (HH.out.row.drewN q).cell ?_
          have e : pc = P.length + L.length + (pc - m) := by omega
          rw [e]; exact getR hy
        have c2 : wr.cell? ⟨b, c, none⟩ = some (.int .i64 (x : Int)) := by
          rw [← HW.out]; refine (HH.out.row.drewN q).cell ?_
          have e : c = P.length + (c - a) := by omega
          rw [e]; exact getP hx
        have hxL := List.mem_of_getElem? hx
        have hyR := List.mem_of_getElem? hy
        have hxy := HH.out.ord x hxL y hyR
        have hcmp := fun k => hC (wr.drewN k) (by rw [← HW.out]; exact ((Keeps.refl _ _).drewN q).drewN k) y x (HH.out.ur y hyR) (HH.out.ul x hxL)
        have hcv := cmpv_lt (key := key) hxy
        have HY := hid (And.intro hx (And.intro hy (And.intro hc (And.intro hpc (And.intro hxy ebd)))))
        obtain ⟨X, hX⟩ : ∃ X : Int, X = (x : Int) := ⟨_, rfl⟩
        obtain ⟨Y, hY⟩ : ∃ Y : Int, Y = (y : Int) := ⟨_, rfl⟩
        obtain ⟨V, hV⟩ : ∃ V : Int, V = cmpv key y x := ⟨_, rfl⟩
        simp only [← hX, ← hY, ← hV] at c1 c2 hcmp hcv
        clear hX hY hV hlen hm ha he hmid hz hp hl2 hr2 hxL hyR hxy hx hy hc hpc ebd hmm
        have HCV := hid hcv
        clear hcv
        have HIJ := hid (And.intro hmi (And.intro hij (And.intro hje hlt)))
        by_cases hv : V < 0
        · have hd : decide (V < 0) = true := decide_eq_true hv
          go_wp2_with fail
          go_quiet (first | (go_at_call 35; refine Calls.quiet_of (hcmp _)))
          go_wp2_with fail
          go_roundw
          case rel =>
            obtain ⟨hmi, hij, hje, hlt⟩ := HIJ.out
            obtain ⟨hx, hy, hc, hpc, hxy, ebd⟩ := HY.out
            obtain ⟨hlen, hm, ha, he, hmid, hz, hp, hl2, hr2⟩ := HL.out
            have hmm := HM.out
            have hyx := HCV.out.1 (by omega)
            refine ⟨i, c, q + nq, rfl, by first | rfl | go_num, by omega, by omega, by omega, by rw [← HW.out, World.drewN_drewN], hid fun k u v hu hv' => ⟨fun h1 h2 => (HI.out k u v hu hv').1 h1 h2, fun h1 h2 => ?_⟩⟩
            exact lt_mid (lt_le HH.out.sr hv' hy (by omega)) hyx (lt_le HH.out.sl hx hu (by omega))
          case measure => obtain ⟨hmi, hij, hje, hlt⟩ := HIJ.out; obtain ⟨hx, hy, hc, hpc, hxy, ebd⟩ := HY.out; simp [intOf]; omega
        · have hd : decide (V < 0) = false := decide_eq_false hv
          go_wp2_with fail
          go_quiet (first | (go_at_call 35; refine Calls.quiet_of (hcmp _)))
          go_wp2_with fail
          go_roundw
          case rel =>
            obtain ⟨hmi, hij, hje, hlt⟩ := HIJ.out
            obtain ⟨hx, hy, hc, hpc, hxy, ebd⟩ := HY.out
            obtain ⟨hlen, hm, ha, he, hmid, hz, hp, hl2, hr2⟩ := HL.out
            have hmm := HM.out
            have hyx := Lt.total (i := y) (j := x) (fun h => by have := HCV.out.2 h; omega) (by omega)
            refine ⟨c + 1, j, q + nq, by first | rfl | go_num, rfl, by omega, by omega, hje, by rw [← HW.out, World.drewN_drewN], hid fun k u v hu hv' => ⟨fun h1 h2 => ?_, fun h1 h2 => (HI.out k u v hu hv').2 h1 h2⟩⟩
            have hk1 := (List.getElem?_eq_some_iff.1 hv').1
            exact lt_mid (lt_le HH.out.sl hu hx (by omega)) hyx (lt_le HH.out.sr hy hv' (by omega))
          case measure => obtain ⟨hmi, hij, hje, hlt⟩ := HIJ.out; obtain ⟨hx, hy, hc, hpc, hxy, ebd⟩ := HY.out; simp [intOf]; omega
      · have hij' : i = j := by omega
        subst hij'
        have z0 : ¬ (i : Int) < (i : Int) := by omega
        obtain ⟨hlen, hm, ha, he, hmid, hz, hp, hl2, hr2⟩ := HL.out
        have hmm := HM.out
        obtain ⟨f, hf⟩ : ∃ f, z = f + i := ⟨z - i, by omega⟩
        have e1 : (z : Int) - (i : Int) = (f : Int) := by omega
        have ebd : a ≤ i ∧ i ≤ m ∧ m ≤ f ∧ f ≤ e ∧ f - m = z - i - m := by omega
        have hx := sym_cross (key := key) (L := L) (R := R) (a := a) (m := m) (e := e) (z := z) (s := i) (s0 := a) (r0 := m) HH.out.sl HH.out.sr (by omega) (by omega) hmi hje ebd.1
          (fun c x y h1 h2 h3 h4 => (HI.out c x y h3 h4).1 h1 h2) (fun c x y h1 h2 h3 h4 => (HI.out c x y h3 h4).2 h1 h2) (fun c h1 h2 => by omega) (fun h => by omega) (fun h => by omega)
        rw [← ebd.2.2.2.2] at hx
        have HX := hid hx
        have HE := hid (And.intro hf ebd)
        have f1 : i ≤ n := by omega
        have f2 : f ≤ n := by omega
        clear hx ebd hf hlen hm ha he hmid hz hp hl2 hr2 hmm HI hlt hij hmi hje
        by_cases g1 : i < m ∧ m < f
        · have g2 : (i : Int) < (m : Int) := by omega
          have g3 : (m : Int) < (f : Int) := by omega
          go_wp2_with fail
          obtain ⟨hlen, hm, ha, he, hmid, hz, hp, hl2, hr2⟩ := HL.out
          obtain ⟨hf, ea, em, ef, ee, -⟩ := HE.out
          refine (rotate_ok (w := wr) (K := K) (b := b) (n := n) (cap := cap) (a := i) (m := m) (e := f) (P := P ++ L.take (i - a)) (U := L.drop (i - a)) (V := R.take (f - m)) (S := R.drop (f - m) ++ S) _ ?_ hkb (by first | (simp; done) | (simp; omega)) (by first | (simp; done) | (simp; omega)) (by first | (simp; done) | (simp; omega)) (by first | (simp; done) | (simp; omega)) (by first | (simp; done) | (simp; omega)) (by first | (simp; done) | (simp; omega)) (by omega) (by omega) (by unfold maxLen; omega)).mono ?_
          · rw [← HW.out]; exact row_parts _ _ (HH.out.row.drewN q)
          rintro en W1 ⟨rfl, hr1, hk1⟩
          have HR1 := hid (show Row W1 b (P ++ (L.take (i - a) ++ R.take (f - m)) ++ (L.drop (i - a) ++ R.drop (f - m) ++ S)) ∧ Keeps K w W1 from ⟨by simpa [List.append_assoc] using hr1, (show Keeps K w wr from by rw [← HW.out]; exact (Keeps.refl _ _).drewN q).trans hk1⟩)
          clear hlen hm ha he hmid hz hp hl2 hr2 hf ea em ef ee hr1 hk1 g1
          by_cases g5 : a < i ∧ i < mid
          · have g6 : (a : Int) < (i : Int) := by omega
            have g7 : (i : Int) < (mid : Int) := by omega
            go_wp2_with fail
            obtain ⟨hlen, hm, ha, he, hmid, hz, hp, hl2, hr2⟩ := HL.out
            obtain ⟨hf, ea, em, ef, ee, -⟩ := HE.out
            refine (HIH.out W1 a i mid P (L.take (i - a)) (R.take (f - m)) (L.drop (i - a) ++ R.drop (f - m) ++ S) ⟨by simpa [List.append_assoc] using HR1.out.1, hkb, by first | (simp; done) | (simp; omega), ha, by first | (simp; done) | (simp; omega), by first | (simp; done) | (simp; omega), pw_take HH.out.sl _, pw_take HH.out.sr _,
              fun x hx y hy => HH.out.ord x (List.mem_of_mem_take hx) y (List.mem_of_mem_take hy), fun x hx => HH.out.ul x (List.mem_of_mem_take hx), fun x hx => HH.out.ur x (List.mem_of_mem_take hx), by omega, by omega, by unfold maxLen; omega⟩ (hC.keep HR1.out.2) (by first | (simp; done) | (simp; omega)) (by first | (simp; done) | (simp; omega)) (by first | (simp; done) | (simp; omega))).mono ?_
            rintro en W2 ⟨rfl, Y1, hr2', hp1, hs1, hk2⟩
            have HR2 := hid (show ∃ Y1, Row W2 b (P ++ Y1 ++ (L.drop (i - a) ++ R.drop (f - m) ++ S)) ∧ Y1.Perm (L.take (i - a) ++ R.take (f - m)) ∧ Y1.Pairwise (Lt key) ∧ Keeps K w W2 from ⟨Y1, hr2', hp1, hs1, HR1.out.2.trans hk2⟩)
            clear hlen hm ha he hmid hz hp hl2 hr2 hf ea em ef ee hr2' hp1 hs1 hk2 HR1 g5
            by_cases g9 : mid < f ∧ f < e
            · have g10 : (mid : Int) < (f : Int) := by omega
              have g11 : (f : Int) < (e : Int) := by omega
              go_wp2_with fail
              all_goals
                obtain ⟨hlen, hm, ha, he, hmid, hz, hp, hl2, hr2⟩ := HL.out
                obtain ⟨hf, ea, em, ef, ee, -⟩ := HE.out
                obtain ⟨Y1, hr3, hp1, hs1, hk3⟩ := HR2.out
                have hy1 := hp1.length_eq
                simp only [List.length_append, List.length_take] at hy1
                refine (HIH.out W2 mid f e (P ++ Y1) (L.drop (i - a)) (R.drop (f - m)) S ⟨by simpa [List.append_assoc] using hr3, hkb, by first | (simp; done) | (simp; omega), by first | (simp; done) | (simp; omega), by first | (simp; done) | (simp; omega), by first | (simp; done) | (simp; omega), pw_drop HH.out.sl _, pw_drop HH.out.sr _,
                  fun x hx y hy => HH.out.ord x (List.mem_of_mem_drop hx) y (List.mem_of_mem_drop hy), fun x hx => HH.out.ul x (List.mem_of_mem_drop hx), fun x hx => HH.out.ur x (List.mem_of_mem_drop hx), by omega, by omega, by unfold maxLen; omega⟩ (hC.keep hk3) (by first | (simp; done) | (simp; omega)) (by first | (simp; done) | (simp; omega)) (by first | (simp; done) | (simp; omega))).mono ?_
                rintro en W3 ⟨rfl, Y2, hr4, hp2, hs2, hk4⟩
                have HM := hid (show Merged w W3 K b key P L R S from by
                  have := merge_sorted (key := key) (L1 := L.take (i - a)) (L2 := L.drop (i - a)) (R1 := R.take (f - m)) (R2 := R.drop (f - m)) (by rw [List.take_append_drop]; exact HH.out.sl) (by rw [List.take_append_drop]; exact HH.out.sr) hp1 hp2 hs1 hs2 HX.out.1 HX.out.2
                  rw [List.take_append_drop, List.take_append_drop] at this
                  exact ⟨Y1 ++ Y2, by simpa [List.append_assoc] using hr4, this.1, this.2, hk3.trans hk4⟩)
                clear hlen hm ha he hmid hz hp hl2 hr2 hf ea em ef ee hr3 hp1 hs1 hk3 hy1 hr4 hp2 hs2 hk4 HR2 g9
                go_wp2_with fail
                all_goals (try go_end0)
                all_goals (exact hR'.out _ _ ⟨rfl, HM.out⟩)
            · rcases Nat.lt_or_ge mid f with g10 | g10
              · have g11 : ¬ (f : Int) < (e : Int) := by omega
                have g12 : (mid : Int) < (f : Int) := by omega
                obtain ⟨hlen, hm, ha, he, hmid, hz, hp, hl2, hr2⟩ := HL.out
                obtain ⟨hf, ea, em, ef, ee, -⟩ := HE.out
                obtain ⟨Y1, hr3, hp1, hs1, hk3⟩ := HR2.out
                have HM := hid (show Merged w W2 K b key P L R S from by
                  have hs2 : (L.drop (i - a) ++ R.drop (f - m)).Pairwise (Lt key) := by
                    have e1 : R.drop (f - m) = [] := List.drop_of_length_le (by omega)
                    rw [e1, List.append_nil]; exact pw_drop HH.out.sl _
                  have := merge_sorted (key := key) (L1 := L.take (i - a)) (L2 := L.drop (i - a)) (R1 := R.take (f - m)) (R2 := R.drop (f - m)) (by rw [List.take_append_drop]; exact HH.out.sl) (by rw [List.take_append_drop]; exact HH.out.sr) hp1 (List.Perm.refl _) hs1 hs2 HX.out.1 HX.out.2
                  rw [List.take_append_drop, List.take_append_drop] at this
                  exact ⟨Y1 ++ (L.drop (i - a) ++ R.drop (f - m)), by simpa [List.append_assoc] using hr3, this.1, this.2, hk3⟩)
                clear hlen hm ha he hmid hz hp hl2 hr2 hf ea em ef ee hr3 hp1 hs1 hk3 HR2 g9 g10
                go_wp2_with fail
                all_goals (try go_end0)
                all_goals (exact hR'.out _ _ ⟨rfl, HM.out⟩)
              · have g11 : ¬ (mid : Int) < (f : Int) := by omega
                obtain ⟨hlen, hm, ha, he, hmid, hz, hp, hl2, hr2⟩ := HL.out
                obtain ⟨hf, ea, em, ef, ee, -⟩ := HE.out
                obtain ⟨Y1, hr3, hp1, hs1, hk3⟩ := HR2.out
                have HM := hid (show Merged w W2 K b key P L R S from by
                  have hs2 : (L.drop (i - a) ++ R.drop (f - m)).Pairwise (Lt key) := by
                    have e1 : L.drop (i - a) = [] := List.drop_of_length_le (by omega)
                    rw [e1, List.nil_append]; exact pw_drop HH.out.sr _
                  have := merge_sorted (key := key) (L1 := L.take (i - a)) (L2 := L.drop (i - a)) (R1 := R.take (f - m)) (R2 := R.drop (f - m)) (by rw [List.take_append_drop]; exact HH.out.sl) (by rw [List.take_append_drop]; exact HH.out.sr) hp1 (List.Perm.refl _) hs1 hs2 HX.out.1 HX.out.2
                  rw [List.take_append_drop, List.take_append_drop] at this
                  exact ⟨Y1 ++ (L.drop (i - a) ++ R.drop (f - m)), by simpa [List.append_assoc] using hr3, this.1, this.2, hk3⟩)
                clear hlen hm ha he hmid hz hp hl2 hr2 hf ea em ef ee hr3 hp1 hs1 hk3 HR2 g9 g10
                go_wp2_with fail
                all_goals (try go_end0)
                all_goals (exact hR'.out _ _ ⟨rfl, HM.out⟩)
          · rcases Nat.lt_or_ge a i with g6 | g6
            · have g7 : ¬ (i : Int) < (mid : Int) := by omega
              have g8 : (a : Int) < (i : Int) := by omega
              obtain ⟨hlen, hm, ha, he, hmid, hz, hp, hl2, hr2⟩ := HL.out
              obtain ⟨hf, ea, em, ef, ee, -⟩ := HE.out
              obtain ⟨hr1, hk1⟩ := HR1.out
              have HR2 := hid (show ∃ Y1, Row W1 b (P ++ Y1 ++ (L.drop (i - a) ++ R.drop (f - m) ++ S)) ∧ Y1.Perm (L.take (i - a) ++ R.take (f - m)) ∧ Y1.Pairwise (Lt key) ∧ Keeps K w W1 from by
                refine ⟨L.take (i - a) ++ R.take (f - m), hr1, List.Perm.refl _, ?_, hk1⟩
                have e1 : f - m = 0 := by omega
                rw [e1, List.take_zero, List.append_nil]; exact pw_take HH.out.sl _)
              clear hlen hm ha he hmid hz hp hl2 hr2 hf ea em ef ee hr1 hk1 HR1 g5 g6
              by_cases g9 : mid < f ∧ f < e
              · have g10 : (mid : Int) < (f : Int) := by omega
                have g11 : (f : Int) < (e : Int) := by omega
                go_wp2_with fail
                all_goals
                  obtain ⟨hlen, hm, ha, he, hmid, hz, hp, hl2, hr2⟩ := HL.out
                  obtain ⟨hf, ea, em, ef, ee, -⟩ := HE.out
                  obtain ⟨Y1, hr3, hp1, hs1, hk3⟩ := HR2.out
                  have hy1 := hp1.length_eq
                  simp only [List.length_append, List.length_take] at hy1
                  refine (HIH.out W1 mid f e (P ++ Y1) (L.drop (i - a)) (R.drop (f - m)) S ⟨by simpa [List.append_assoc] using hr3, hkb, by first | (simp; done) | (simp; omega), by first | (simp; done) | (simp; omega), by first | (simp; done) | (simp; omega), by first | (simp; done) | (simp; omega), pw_drop HH.out.sl _, pw_drop HH.out.sr _,
                    fun x hx y hy => HH.out.ord x (List.mem_of_mem_drop hx) y (List.mem_of_mem_drop hy), fun x hx => HH.out.ul x (List.mem_of_mem_drop hx), fun x hx => HH.out.ur x (List.mem_of_mem_drop hx), by omega, by omega, by unfold maxLen; omega⟩ (hC.keep hk3) (by first | (simp; done) | (simp; omega)) (by first | (simp; done) | (simp; omega)) (by first | (simp; done) | (simp; omega))).mono ?_
                  rintro en W3 ⟨rfl, Y2, hr4, hp2, hs2, hk4⟩
                  have HM := hid (show Merged w W3 K b key P L R S from by
                    have := merge_sorted (key := key) (L1 := L.take (i - a)) (L2 := L.drop (i - a)) (R1 := R.take (f - m)) (R2 := R.drop (f - m)) (by rw [List.take_append_drop]; exact HH.out.sl) (by rw [List.take_append_drop]; exact HH.out.sr) hp1 hp2 hs1 hs2 HX.out.1 HX.out.2
                    rw [List.take_append_drop, List.take_append_drop] at this
                    exact ⟨Y1 ++ Y2, by simpa [List.append_assoc] using hr4, this.1, this.2, hk3.trans hk4⟩)
                  clear hlen hm ha he hmid hz hp hl2 hr2 hf ea em ef ee hr3 hp1 hs1 hk3 hy1 hr4 hp2 hs2 hk4 HR2 g9
                  go_wp2_with fail
                  all_goals (try go_end0)
                  all_goals (exact hR'.out _ _ ⟨rfl, HM.out⟩)
              · rcases Nat.lt_or_ge mid f with g10 | g10
                · have g11 : ¬ (f : Int) < (e : Int) := by omega
                  have g12 : (mid : Int) < (f : Int) := by omega
                  obtain ⟨hlen, hm, ha, he, hmid, hz, hp, hl2, hr2⟩ := HL.out
                  obtain ⟨hf, ea, em, ef, ee, -⟩ := HE.out
                  obtain ⟨Y1, hr3, hp1, hs1, hk3⟩ := HR2.out
                  have HM := hid (show Merged w W1 K b key P L R S from by
                    have hs2 : (L.drop (i - a) ++ R.drop (f - m)).Pairwise (Lt key) := by
                      have e1 : R.drop (f - m) = [] := List.drop_of_length_le (by omega)
                      rw [e1, List.append_nil]; exact pw_drop HH.out.sl _
                    have := merge_sorted (key := key) (L1 := L.take (i - a)) (L2 := L.drop (i - a)) (R1 := R.take (f - m)) (R2 := R.drop (f - m)) (by rw [List.take_append_drop]; exact HH.out.sl) (by rw [List.take_append_drop]; exact HH.out.sr) hp1 (List.Perm.refl _) hs1 hs2 HX.out.1 HX.out.2
                    rw [List.take_append_drop, List.take_append_drop] at this
                    exact ⟨Y1 ++ (L.drop (i - a) ++ R.drop (f - m)), by simpa [List.append_assoc] using hr3, this.1, this.2, hk3⟩)
                  clear hlen hm ha he hmid hz hp hl2 hr2 hf ea em ef ee hr3 hp1 hs1 hk3 HR2 g9 g10
                  go_wp2_with fail
                  all_goals (try go_end0)
                  all_goals (exact hR'.out _ _ ⟨rfl, HM.out⟩)
                · have g11 : ¬ (mid : Int) < (f : Int) := by omega
                  obtain ⟨hlen, hm, ha, he, hmid, hz, hp, hl2, hr2⟩ := HL.out
                  obtain ⟨hf, ea, em, ef, ee, -⟩ := HE.out
                  obtain ⟨Y1, hr3, hp1, hs1, hk3⟩ := HR2.out
                  have HM := hid (show Merged w W1 K b key P L R S from by
                    have hs2 : (L.drop (i - a) ++ R.drop (f - m)).Pairwise (Lt key) := by
                      have e1 : L.drop (i - a) = [] := List.drop_of_length_le (by omega)
                      rw [e1, List.nil_append]; exact pw_drop HH.out.sr _
                    have := merge_sorted (key := key) (L1 := L.take (i - a)) (L2 := L.drop (i - a)) (R1 := R.take (f - m)) (R2 := R.drop (f - m)) (by rw [List.take_append_drop]; exact HH.out.sl) (by rw [List.take_append_drop]; exact HH.out.sr) hp1 (List.Perm.refl _) hs1 hs2 HX.out.1 HX.out.2
                    rw [List.take_append_drop, List.take_append_drop] at this
                    exact ⟨Y1 ++ (L.drop (i - a) ++ R.drop (f - m)), by simpa [List.append_assoc] using hr3, this.1, this.2, hk3⟩)
                  clear hlen hm ha he hmid hz hp hl2 hr2 hf ea em ef ee hr3 hp1 hs1 hk3 HR2 g9 g10
                  go_wp2_with fail
                  all_goals (try go_end0)
                  all_goals (exact hR'.out _ _ ⟨rfl, HM.out⟩)
            · have g7 : ¬ (a : Int) < (i : Int) := by omega
              obtain ⟨hlen, hm, ha, he, hmid, hz, hp, hl2, hr2⟩ := HL.out
              obtain ⟨hf, ea, em, ef, ee, -⟩ := HE.out
              obtain ⟨hr1, hk1⟩ := HR1.out
              have HR2 := hid (show ∃ Y1, Row W1 b (P ++ Y1 ++ (L.drop (i - a) ++ R.drop (f - m) ++ S)) ∧ Y1.Perm (L.take (i - a) ++ R.take (f - m)) ∧ Y1.Pairwise (Lt key) ∧ Keeps K w W1 from by
                refine ⟨L.take (i - a) ++ R.take (f - m), hr1, List.Perm.refl _, ?_, hk1⟩
                have e1 : i - a = 0 := by omega
                rw [e1, List.take_zero, List.nil_append]; exact pw_take HH.out.sr _)
              clear hlen hm ha he hmid hz hp hl2 hr2 hf ea em ef ee hr1 hk1 HR1 g5 g6
              by_cases g9 : mid < f ∧ f < e
              · have g10 : (mid : Int) < (f : Int) := by omega
                have g11 : (f : Int) < (e : Int) := by omega
                go_wp2_with fail
                all_goals
                  obtain ⟨hlen, hm, ha, he, hmid, hz, hp, hl2, hr2⟩ := HL.out
                  obtain ⟨hf, ea, em, ef, ee, -⟩ := HE.out
                  obtain ⟨Y1, hr3, hp1, hs1, hk3⟩ := HR2.out
                  have hy1 := hp1.length_eq
                  simp only [List.length_append, List.length_take] at hy1
                  refine (HIH.out W1 mid f e (P ++ Y1) (L.drop (i - a)) (R.drop (f - m)) S ⟨by simpa [List.append_assoc] using hr3, hkb, by first | (simp; done) | (simp; omega), by first | (simp; done) | (simp; omega), by first | (simp; done) | (simp; omega), by first | (simp; done) | (simp; omega), pw_drop HH.out.sl _, pw_drop HH.out.sr _,
                    fun x hx y hy => HH.out.ord x (List.mem_of_mem_drop hx) y (List.mem_of_mem_drop hy), fun x hx => HH.out.ul x (List.mem_of_mem_drop hx), fun x hx => HH.out.ur x (List.mem_of_mem_drop hx), by omega, by omega, by unfold maxLen; omega⟩ (hC.keep hk3) (by first | (simp; done) | (simp; omega)) (by first | (simp; done) | (simp; omega)) (by first | (simp; done) | (simp; omega))).mono ?_
                  rintro en W3 ⟨rfl, Y2, hr4, hp2, hs2, hk4⟩
                  have HM := hid (show Merged w W3 K b key P L R S from by
                    have := merge_sorted (key := key) (L1 := L.take (i - a)) (L2 := L.drop (i - a)) (R1 := R.take (f - m)) (R2 := R.drop (f - m)) (by rw [List.take_append_drop]; exact HH.out.sl) (by rw [List.take_append_drop]; exact HH.out.sr) hp1 hp2 hs1 hs2 HX.out.1 HX.out.2
                    rw [List.take_append_drop, List.take_append_drop] at this
                    exact ⟨Y1 ++ Y2, by simpa [List.append_assoc] using hr4, this.1, this.2, hk3.trans hk4⟩)
                  clear hlen hm ha he hmid hz hp hl2 hr2 hf ea em ef ee hr3 hp1 hs1 hk3 hy1 hr4 hp2 hs2 hk4 HR2 g9
                  go_wp2_with fail
                  all_goals (try go_end0)
                  all_goals (exact hR'.out _ _ ⟨rfl, HM.out⟩)
              · rcases Nat.lt_or_ge mid f with g10 | g10
                · have g11 : ¬ (f : Int) < (e : Int) := by omega
                  have g12 : (mid : Int) < (f : Int) := by omega
                  obtain ⟨hlen, hm, ha, he, hmid, hz, hp, hl2, hr2⟩ := HL.out
                  obtain ⟨hf, ea, em, ef, ee, -⟩ := HE.out
                  obtain ⟨Y1, hr3, hp1, hs1, hk3⟩ := HR2.out
                  have HM := hid (show Merged w W1 K b key P L R S from by
                    have hs2 : (L.drop (i - a) ++ R.drop (f - m)).Pairwise (Lt key) := by
                      have e1 : R.drop (f - m) = [] := List.drop_of_length_le (by omega)
                      rw [e1, List.append_nil]; exact pw_drop HH.out.sl _
                    have := merge_sorted (key := key) (L1 := L.take (i - a)) (L2 := L.drop (i - a)) (R1 := R.take (f - m)) (R2 := R.drop (f - m)) (by rw [List.take_append_drop]; exact HH.out.sl) (by rw [List.take_append_drop]; exact HH.out.sr) hp1 (List.Perm.refl _) hs1 hs2 HX.out.1 HX.out.2
                    rw [List.take_append_drop, List.take_append_drop] at this
                    exact ⟨Y1 ++ (L.drop (i - a) ++ R.drop (f - m)), by simpa [List.append_assoc] using hr3, this.1, this.2, hk3⟩)
                  clear hlen hm ha he hmid hz hp hl2 hr2 hf ea em ef ee hr3 hp1 hs1 hk3 HR2 g9 g10
                  go_wp2_with fail
                  all_goals (try go_end0)
                  all_goals (exact hR'.out _ _ ⟨rfl, HM.out⟩)
                · have g11 : ¬ (mid : Int) < (f : Int) := by omega
                  obtain ⟨hlen, hm, ha, he, hmid, hz, hp, hl2, hr2⟩ := HL.out
                  obtain ⟨hf, ea, em, ef, ee, -⟩ := HE.out
                  obtain ⟨Y1, hr3, hp1, hs1, hk3⟩ := HR2.out
                  have HM := hid (show Merged w W1 K b key P L R S from by
                    have hs2 : (L.drop (i - a) ++ R.drop (f - m)).Pairwise (Lt key) := by
                      have e1 : L.drop (i - a) = [] := List.drop_of_length_le (by omega)
                      rw [e1, List.nil_append]; exact pw_drop HH.out.sr _
                    have := merge_sorted (key := key) (L1 := L.take (i - a)) (L2 := L.drop (i - a)) (R1 := R.take (f - m)) (R2 := R.drop (f - m)) (by rw [List.take_append_drop]; exact HH.out.sl) (by rw [List.take_append_drop]; exact HH.out.sr) hp1 (List.Perm.refl _) hs1 hs2 HX.out.1 HX.out.2
                    rw [List.take_append_drop, List.take_append_drop] at this
                    exact ⟨Y1 ++ (L.drop (i - a) ++ R.drop (f - m)), by simpa [List.append_assoc] using hr3, this.1, this.2, hk3⟩)
                  clear hlen hm ha he hmid hz hp hl2 hr2 hf ea em ef ee hr3 hp1 hs1 hk3 HR2 g9 g10
                  go_wp2_with fail
                  all_goals (try go_end0)
                  all_goals (exact hR'.out _ _ ⟨rfl, HM.out⟩)
        · rcases Nat.lt_or_ge i m with g2 | g2
          · have g3 : ¬ (m : Int) < (f : Int) := by omega
            have g4 : (i : Int) < (m : Int) := by omega
            obtain ⟨hlen, hm, ha, he, hmid, hz, hp, hl2, hr2⟩ := HL.out
            obtain ⟨hf, ea, em, ef, ee, -⟩ := HE.out
            have HR1 := hid (show Row wr b (P ++ (L.take (i - a) ++ R.take (f - m)) ++ (L.drop (i - a) ++ R.drop (f - m) ++ S)) ∧ Keeps K w wr from by
              refine ⟨?_, by rw [← HW.out]; exact (Keeps.refl _ _).drewN q⟩
              rw [← HW.out]; have := row_parts (i - a) (f - m) (HH.out.row.drewN q)
              have e1 : R.take (f - m) = [] := by rw [show f - m = 0 from by omega]; rfl
              rw [e1] at this ⊢; simp only [List.append_assoc, List.append_nil] at this ⊢; exact this)
            clear hlen hm ha he hmid hz hp hl2 hr2 hf ea em ef ee g1 g2
            by_cases g5 : a < i ∧ i < mid
            · have g6 : (a : Int) < (i : Int) := by omega
              have g7 : (i : Int) < (mid : Int) := by omega
              go_wp2_with fail
              obtain ⟨hlen, hm, ha, he, hmid, hz, hp, hl2, hr2⟩ := HL.out
              obtain ⟨hf, ea, em, ef, ee, -⟩ := HE.out
              refine (HIH.out wr a i mid P (L.take (i - a)) (R.take (f - m)) (L.drop (i - a) ++ R.drop (f - m) ++ S) ⟨by simpa [List.append_assoc] using HR1.out.1, hkb, by first | (simp; done) | (simp; omega), ha, by first | (simp; done) | (simp; omega), by first | (simp; done) | (simp; omega), pw_take HH.out.sl _, pw_take HH.out.sr _,
                fun x hx y hy => HH.out.ord x (List.mem_of_mem_take hx) y (List.mem_of_mem_take hy), fun x hx => HH.out.ul x (List.mem_of_mem_take hx), fun x hx => HH.out.ur x (List.mem_of_mem_take hx), by omega, by omega, by unfold maxLen; omega⟩ (hC.keep HR1.out.2) (by first | (simp; done) | (simp; omega)) (by first | (simp; done) | (simp; omega)) (by first | (simp; done) | (simp; omega))).mono ?_
              rintro en W2 ⟨rfl, Y1, hr2', hp1, hs1, hk2⟩
              have HR2 := hid (show ∃ Y1, Row W2 b (P ++ Y1 ++ (L.drop (i - a) ++ R.drop (f - m) ++ S)) ∧ Y1.Perm (L.take (i - a) ++ R.take (f - m)) ∧ Y1.Pairwise (Lt key) ∧ Keeps K w W2 from ⟨Y1, hr2', hp1, hs1, HR1.out.2.trans hk2⟩)
              clear hlen hm ha he hmid hz hp hl2 hr2 hf ea em ef ee hr2' hp1 hs1 hk2 HR1 g5
              by_cases g9 : mid < f ∧ f < e
              · have g10 : (mid : Int) < (f : Int) := by omega
                have g11 : (f : Int) < (e : Int) := by omega
                go_wp2_with fail
                all_goals
                  obtain ⟨hlen, hm, ha, he, hmid, hz, hp, hl2, hr2⟩ := HL.out
                  obtain ⟨hf, ea, em, ef, ee, -⟩ := HE.out
                  obtain ⟨Y1, hr3, hp1, hs1, hk3⟩ := HR2.out
                  have hy1 := hp1.length_eq
                  simp only [List.length_append, List.length_take] at hy1
                  refine (HIH.out W2 mid f e (P ++ Y1) (L.drop (i - a)) (R.drop (f - m)) S ⟨by simpa [List.append_assoc] using hr3, hkb, by first | (simp; done) | (simp; omega), by first | (simp; done) | (simp; omega), by first | (simp; done) | (simp; omega), by first | (simp; done) | (simp; omega), pw_drop HH.out.sl _, pw_drop HH.out.sr _,
                    fun x hx y hy => HH.out.ord x (List.mem_of_mem_drop hx) y (List.mem_of_mem_drop hy), fun x hx => HH.out.ul x (List.mem_of_mem_drop hx), fun x hx => HH.out.ur x (List.mem_of_mem_drop hx), by omega, by omega, by unfold maxLen; omega⟩ (hC.keep hk3) (by first | (simp; done) | (simp; omega)) (by first | (simp; done) | (simp; omega)) (by first | (simp; done) | (simp; omega))).mono ?_
                  rintro en W3 ⟨rfl, Y2, hr4, hp2, hs2, hk4⟩
                  have HM := hid (show Merged w W3 K b key P L R S from by
                    have := merge_sorted (key := key) (L1 := L.take (i - a)) (L2 := L.drop (i - a)) (R1 := R.take (f - m)) (R2 := R.drop (f - m)) (by rw [List.take_append_drop]; exact HH.out.sl) (by rw [List.take_append_drop]; exact HH.out.sr) hp1 hp2 hs1 hs2 HX.out.1 HX.out.2
                    rw [List.take_append_drop, List.take_append_drop] at this
                    exact ⟨Y1 ++ Y2, by simpa [List.append_assoc] using hr4, this.1, this.2, hk3.trans hk4⟩)
                  clear hlen hm ha he hmid hz hp hl2 hr2 hf ea em ef ee hr3 hp1 hs1 hk3 hy1 hr4 hp2 hs2 hk4 HR2 g9
                  go_wp2_with fail
                  all_goals (try go_end0)
                  all_goals (exact hR'.out _ _ ⟨rfl, HM.out⟩)
              · rcases Nat.lt_or_ge mid f with g10 | g10
                · have g11 : ¬ (f : Int) < (e : Int) := by omega
                  have g12 : (mid : Int) < (f : Int) := by omega
                  obtain ⟨hlen, hm, ha, he, hmid, hz, hp, hl2, hr2⟩ := HL.out
                  obtain ⟨hf, ea, em, ef, ee, -⟩ := HE.out
                  obtain ⟨Y1, hr3, hp1, hs1, hk3⟩ := HR2.out
                  have HM := hid (show Merged w W2 K b key P L R S from by
                    have hs2 : (L.drop (i - a) ++ R.drop (f - m)).Pairwise (Lt key) := by
                      have e1 : R.drop (f - m) = [] := List.drop_of_length_le (by omega)
                      rw [e1, List.append_nil]; exact pw_drop HH.out.sl _
                    have := merge_sorted (key := key) (L1 := L.take (i - a)) (L2 := L.drop (i - a)) (R1 := R.take (f - m)) (R2 := R.drop (f - m)) (by rw [List.take_append_drop]; exact HH.out.sl) (by rw [List.take_append_drop]; exact HH.out.sr) hp1 (List.Perm.refl _) hs1 hs2 HX.out.1 HX.out.2
                    rw [List.take_append_drop, List.take_append_drop] at this
                    exact ⟨Y1 ++ (L.drop (i - a) ++ R.drop (f - m)), by simpa [List.append_assoc] using hr3, this.1, this.2, hk3⟩)
                  clear hlen hm ha he hmid hz hp hl2 hr2 hf ea em ef ee hr3 hp1 hs1 hk3 HR2 g9 g10
                  go_wp2_with fail
                  all_goals (try go_end0)
                  all_goals (exact hR'.out _ _ ⟨rfl, HM.out⟩)
                · have g11 : ¬ (mid : Int) < (f : Int) := by omega
                  obtain ⟨hlen, hm, ha, he, hmid, hz, hp, hl2, hr2⟩ := HL.out
                  obtain ⟨hf, ea, em, ef, ee, -⟩ := HE.out
                  obtain ⟨Y1, hr3, hp1, hs1, hk3⟩ := HR2.out
                  have HM := hid (show Merged w W2 K b key P L R S from by
                    have hs2 : (L.drop (i - a) ++ R.drop (f - m)).Pairwise (Lt key) := by
                      have e1 : L.drop (i - a) = [] := List.drop_of_length_le (by omega)
                      rw [e1, List.nil_append]; exact pw_drop HH.out.sr _
                    have := merge_sorted (key := key) (L1 := L.take (i - a)) (L2 := L.drop (i - a)) (R1 := R.take (f - m)) (R2 := R.drop (f - m)) (by rw [List.take_append_drop]; exact HH.out.sl) (by rw [List.take_append_drop]; exact HH.out.sr) hp1 (List.Perm.refl _) hs1 hs2 HX.out.1 HX.out.2
                    rw [List.take_append_drop, List.take_append_drop] at this
                    exact ⟨Y1 ++ (L.drop (i - a) ++ R.drop (f - m)), by simpa [List.append_assoc] using hr3, this.1, this.2, hk3⟩)
                  clear hlen hm ha he hmid hz hp hl2 hr2 hf ea em ef ee hr3 hp1 hs1 hk3 HR2 g9 g10
                  go_wp2_with fail
                  all_goals (try go_end0)
                  all_goals (exact hR'.out _ _ ⟨rfl, HM.out⟩)
            · rcases Nat.lt_or_ge a i with g6 | g6
              · have g7 : ¬ (i : Int) < (mid : Int) := by omega
                have g8 : (a : Int) < (i : Int) := by omega
                obtain ⟨hlen, hm, ha, he, hmid, hz, hp, hl2, hr2⟩ := HL.out
                obtain ⟨hf, ea, em, ef, ee, -⟩ := HE.out
                obtain ⟨hr1, hk1⟩ := HR1.out
                have HR2 := hid (show ∃ Y1, Row wr b (P ++ Y1 ++ (L.drop (i - a) ++ R.drop (f - m) ++ S)) ∧ Y1.Perm (L.take (i - a) ++ R.take (f - m)) ∧ Y1.Pairwise (Lt key) ∧ Keeps K w wr from by
                  refine ⟨L.take (i - a) ++ R.take (f - m), hr1, List.Perm.refl _, ?_, hk1⟩
                  have e1 : f - m = 0 := by omega
                  rw [e1, List.take_zero, List.append_nil]; exact pw_take HH.out.sl _)
                clear hlen hm ha he hmid hz hp hl2 hr2 hf ea em ef ee hr1 hk1 HR1 g5 g6
                by_cases g9 : mid < f ∧ f < e
                · have g10 : (mid : Int) < (f : Int) := by omega
                  have g11 : (f : Int) < (e : Int) := by omega
                  go_wp2_with fail
                  all_goals
                    obtain ⟨hlen, hm, ha, he, hmid, hz, hp, hl2, hr2⟩ := HL.out
                    obtain ⟨hf, ea, em, ef, ee, -⟩ := HE.out
                    obtain ⟨Y1, hr3, hp1, hs1, hk3⟩ := HR2.out
                    have hy1 := hp1.length_eq
                    simp only [List.length_append, List.length_take] at hy1
                    refine (HIH.out wr mid f e (P ++ Y1) (L.drop (i - a)) (R.drop (f - m)) S ⟨by simpa [List.append_assoc] using hr3, hkb, by first | (simp; done) | (simp; omega), by first | (simp; done) | (simp; omega), by first | (simp; done) | (simp; omega), by first | (simp; done) | (simp; omega), pw_drop HH.out.sl _, pw_drop HH.out.sr _,
                      fun x hx y hy => HH.out.ord x (List.mem_of_mem_drop hx) y (List.mem_of_mem_drop hy), fun x hx => HH.out.ul x (List.mem_of_mem_drop hx), fun x hx => HH.out.ur x (List.mem_of_mem_drop hx), by omega, by omega, by unfold maxLen; omega⟩ (hC.keep hk3) (by first | (simp; done) | (simp; omega)) (by first | (simp; done) | (simp; omega)) (by first | (simp; done) | (simp; omega))).mono ?_
                    rintro en W3 ⟨rfl, Y2, hr4, hp2, hs2, hk4⟩
                    have HM := hid (show Merged w W3 K b key P L R S from by
                      have := merge_sorted (key := key) (L1 := L.take (i - a)) (L2 := L.drop (i - a)) (R1 := R.take (f - m)) (R2 := R.drop (f - m)) (by rw [List.take_append_drop]; exact HH.out.sl) (by rw [List.take_append_drop]; exact HH.out.sr) hp1 hp2 hs1 hs2 HX.out.1 HX.out.2
                      rw [List.take_append_drop, List.take_append_drop] at this
                      exact ⟨Y1 ++ Y2, by simpa [List.append_assoc] using hr4, this.1, this.2, hk3.trans hk4⟩)
                    clear hlen hm ha he hmid hz hp hl2 hr2 hf ea em ef ee hr3 hp1 hs1 hk3 hy1 hr4 hp2 hs2 hk4 HR2 g9
                    go_wp2_with fail
                    all_goals (try go_end0)
                    all_goals (exact hR'.out _ _ ⟨rfl, HM.out⟩)
                · rcases Nat.lt_or_ge mid f with g10 | g10
                  · have g11 : ¬ (f : Int) < (e : Int) := by omega
                    have g12 : (mid : Int) < (f : Int) := by omega
                    obtain ⟨hlen, hm, ha, he, hmid, hz, hp, hl2, hr2⟩ := HL.out
                    obtain ⟨hf, ea, em, ef, ee, -⟩ := HE.out
                    obtain ⟨Y1, hr3, hp1, hs1, hk3⟩ := HR2.out
                    have HM := hid (show Merged w wr K b key P L R S from by
                      have hs2 : (L.drop (i - a) ++ R.drop (f - m)).Pairwise (Lt key) := by
                        have e1 : R.drop (f - m) = [] := List.drop_of_length_le (by omega)
                        rw [e1, List.append_nil]; exact pw_drop HH.out.sl _
                      have := merge_sorted (key := key) (L1 := L.take (i - a)) (L2 := L.drop (i - a)) (R1 := R.take (f - m)) (R2 := R.drop (f - m)) (by rw [List.take_append_drop]; exact HH.out.sl) (by rw [List.take_append_drop]; exact HH.out.sr) hp1 (List.Perm.refl _) hs1 hs2 HX.out.1 HX.out.2
                      rw [List.take_append_drop, List.take_append_drop] at this
                      exact ⟨Y1 ++ (L.drop (i - a) ++ R.drop (f - m)), by simpa [List.append_assoc] using hr3, this.1, this.2, hk3⟩)
                    clear hlen hm ha he hmid hz hp hl2 hr2 hf ea em ef ee hr3 hp1 hs1 hk3 HR2 g9 g10
                    go_wp2_with fail
                    all_goals (try go_end0)
                    all_goals (exact hR'.out _ _ ⟨rfl, HM.out⟩)
                  · have g11 : ¬ (mid : Int) < (f : Int) := by omega
                    obtain ⟨hlen, hm, ha, he, hmid, hz, hp, hl2, hr2⟩ := HL.out
                    obtain ⟨hf, ea, em, ef, ee, -⟩ := HE.out
                    obtain ⟨Y1, hr3, hp1, hs1, hk3⟩ := HR2.out
                    have HM := hid (show Merged w wr K b key P L R S from by
                      have hs2 : (L.drop (i - a) ++ R.drop (f - m)).Pairwise (Lt key) := by
                        have e1 : L.drop (i - a) = [] := List.drop_of_length_le (by omega)
                        rw [e1, List.nil_append]; exact pw_drop HH.out.sr _
                      have := merge_sorted (key := key) (L1 := L.take (i - a)) (L2 := L.drop (i - a)) (R1 := R.take (f - m)) (R2 := R.drop (f - m)) (by rw [List.take_append_drop]; exact HH.out.sl) (by rw [List.take_append_drop]; exact HH.out.sr) hp1 (List.Perm.refl _) hs1 hs2 HX.out.1 HX.out.2
                      rw [List.take_append_drop, List.take_append_drop] at this
                      exact ⟨Y1 ++ (L.drop (i - a) ++ R.drop (f - m)), by simpa [List.append_assoc] using hr3, this.1, this.2, hk3⟩)
                    clear hlen hm ha he hmid hz hp hl2 hr2 hf ea em ef ee hr3 hp1 hs1 hk3 HR2 g9 g10
                    go_wp2_with fail
                    all_goals (try go_end0)
                    all_goals (exact hR'.out _ _ ⟨rfl, HM.out⟩)
              · have g7 : ¬ (a : Int) < (i : Int) := by omega
                obtain ⟨hlen, hm, ha, he, hmid, hz, hp, hl2, hr2⟩ := HL.out
                obtain ⟨hf, ea, em, ef, ee, -⟩ := HE.out
                obtain ⟨hr1, hk1⟩ := HR1.out
                have HR2 := hid (show ∃ Y1, Row wr b (P ++ Y1 ++ (L.drop (i - a) ++ R.drop (f - m) ++ S)) ∧ Y1.Perm (L.take (i - a) ++ R.take (f - m)) ∧ Y1.Pairwise (Lt key) ∧ Keeps K w wr from by
                  refine ⟨L.take (i - a) ++ R.take (f - m), hr1, List.Perm.refl _, ?_, hk1⟩
                  have e1 : i - a = 0 := by omega
                  rw [e1, List.take_zero, List.nil_append]; exact pw_take HH.out.sr _)
                clear hlen hm ha he hmid hz hp hl2 hr2 hf ea em ef ee hr1 hk1 HR1 g5 g6
                by_cases g9 : mid < f ∧ f < e
                · have g10 : (mid : Int) < (f : Int) := by omega
                  have g11 : (f : Int) < (e : Int) := by omega
                  go_wp2_with fail
                  all_goals
                    obtain ⟨hlen, hm, ha, he, hmid, hz, hp, hl2, hr2⟩ := HL.out
                    obtain ⟨hf, ea, em, ef, ee, -⟩ := HE.out
                    obtain ⟨Y1, hr3, hp1, hs1, hk3⟩ := HR2.out
                    have hy1 := hp1.length_eq
                    simp only [List.length_append, List.length_take] at hy1
                    refine (HIH.out wr mid f e (P ++ Y1) (L.drop (i - a)) (R.drop (f - m)) S ⟨by simpa [List.append_assoc] using hr3, hkb, by first | (simp; done) | (simp; omega), by first | (simp; done) | (simp; omega), by first | (simp; done) | (simp; omega), by first | (simp; done) | (simp; omega), pw_drop HH.out.sl _, pw_drop HH.out.sr _,
                      fun x hx y hy => HH.out.ord x (List.mem_of_mem_drop hx) y (List.mem_of_mem_drop hy), fun x hx => HH.out.ul x (List.mem_of_mem_drop hx), fun x hx => HH.out.ur x (List.mem_of_mem_drop hx), by omega, by omega, by unfold maxLen; omega⟩ (hC.keep hk3) (by first | (simp; done) | (simp; omega)) (by first | (simp; done) | (simp; omega)) (by first | (simp; done) | (simp; omega))).mono ?_
                    rintro en W3 ⟨rfl, Y2, hr4, hp2, hs2, hk4⟩
                    have HM := hid (show Merged w W3 K b key P L R S from by
                      have := merge_sorted (key := key) (L1 := L.take (i - a)) (L2 := L.drop (i - a)) (R1 := R.take (f - m)) (R2 := R.drop (f - m)) (by rw [List.take_append_drop]; exact HH.out.sl) (by rw [List.take_append_drop]; exact HH.out.sr) hp1 hp2 hs1 hs2 HX.out.1 HX.out.2
                      rw [List.take_append_drop, List.take_append_drop] at this
                      exact ⟨Y1 ++ Y2, by simpa [List.append_assoc] using hr4, this.1, this.2, hk3.trans hk4⟩)
                    clear hlen hm ha he hmid hz hp hl2 hr2 hf ea em ef ee hr3 hp1 hs1 hk3 hy1 hr4 hp2 hs2 hk4 HR2 g9
                    go_wp2_with fail
                    all_goals (try go_end0)
                    all_goals (exact hR'.out _ _ ⟨rfl, HM.out⟩)
                · rcases Nat.lt_or_ge mid f with g10 | g10
                  · have g11 : ¬ (f : Int) < (e : Int) := by omega
                    have g12 : (mid : Int) < (f : Int) := by omega
                    obtain ⟨hlen, hm, ha, he, hmid, hz, hp, hl2, hr2⟩ := HL.out
                    obtain ⟨hf, ea, em, ef, ee, -⟩ := HE.out
                    obtain ⟨Y1, hr3, hp1, hs1, hk3⟩ := HR2.out
                    have HM := hid (show Merged w wr K b key P L R S from by
                      have hs2 : (L.drop (i - a) ++ R.drop (f - m)).Pairwise (Lt key) := by
                        have e1 : R.drop (f - m) = [] := List.drop_of_length_le (by omega)
                        rw [e1, List.append_nil]; exact pw_drop HH.out.sl _
                      have := merge_sorted (key := key) (L1 := L.take (i - a)) (L2 := L.drop (i - a)) (R1 := R.take (f - m)) (R2 := R.drop (f - m)) (by rw [List.take_append_drop]; exact HH.out.sl) (by rw [List.take_append_drop]; exact HH.out.sr) hp1 (List.Perm.refl _) hs1 hs2 HX.out.1 HX.out.2
                      rw [List.take_append_drop, List.take_append_drop] at this
                      exact ⟨Y1 ++ (L.drop (i - a) ++ R.drop (f - m)), by simpa [List.append_assoc] using hr3, this.1, this.2, hk3⟩)
                    clear hlen hm ha he hmid hz hp hl2 hr2 hf ea em ef ee hr3 hp1 hs1 hk3 HR2 g9 g10
                    go_wp2_with fail
                    all_goals (try go_end0)
                    all_goals (exact hR'.out _ _ ⟨rfl, HM.out⟩)
                  · have g11 : ¬ (mid : Int) < (f : Int) := by omega
                    obtain ⟨hlen, hm, ha, he, hmid, hz, hp, hl2, hr2⟩ := HL.out
                    obtain ⟨hf, ea, em, ef, ee, -⟩ := HE.out
                    obtain ⟨Y1, hr3, hp1, hs1, hk3⟩ := HR2.out
                    have HM := hid (show Merged w wr K b key P L R S from by
                      have hs2 : (L.drop (i - a) ++ R.drop (f - m)).Pairwise (Lt key) := by
                        have e1 : L.drop (i - a) = [] := List.drop_of_length_le (by omega)
                        rw [e1, List.nil_append]; exact pw_drop HH.out.sr _
                      have := merge_sorted (key := key) (L1 := L.take (i - a)) (L2 := L.drop (i - a)) (R1 := R.take (f - m)) (R2 := R.drop (f - m)) (by rw [List.take_append_drop]; exact HH.out.sl) (by rw [List.take_append_drop]; exact HH.out.sr) hp1 (List.Perm.refl _) hs1 hs2 HX.out.1 HX.out.2
                      rw [List.take_append_drop, List.take_append_drop] at this
                      exact ⟨Y1 ++ (L.drop (i - a) ++ R.drop (f - m)), by simpa [List.append_assoc] using hr3, this.1, this.2, hk3⟩)
                    clear hlen hm ha he hmid hz hp hl2 hr2 hf ea em ef ee hr3 hp1 hs1 hk3 HR2 g9 g10
                    go_wp2_with fail
                    all_goals (try go_end0)
                    all_goals (exact hR'.out _ _ ⟨rfl, HM.out⟩)
          · have g3 : ¬ (i : Int) < (m : Int) := by omega
            obtain ⟨hlen, hm, ha, he, hmid, hz, hp, hl2, hr2⟩ := HL.out
            obtain ⟨hf, ea, em, ef, ee, -⟩ := HE.out
            have HR1 := hid (show Row wr b (P ++ (L.take (i - a) ++ R.take (f - m)) ++ (L.drop (i - a) ++ R.drop (f - m) ++ S)) ∧ Keeps K w wr from by
              refine ⟨?_, by rw [← HW.out]; exact (Keeps.refl _ _).drewN q⟩
              rw [← HW.out]; have := row_parts (i - a) (f - m) (HH.out.row.drewN q)
              have e2 : L.drop (i - a) = [] := List.drop_of_length_le (by omega)
              rw [e2] at this ⊢; simp only [List.append_assoc, List.nil_append, List.append_nil] at this ⊢; exact this)
            clear hlen hm ha he hmid hz hp hl2 hr2 hf ea em ef ee g1 g2
            by_cases g5 : a < i ∧ i < mid
            · have g6 : (a : Int) < (i : Int) := by omega
              have g7 : (i : Int) < (mid : Int) := by omega
              go_wp2_with fail
              obtain ⟨hlen, hm, ha, he, hmid, hz, hp, hl2, hr2⟩ := HL.out
              obtain ⟨hf, ea, em, ef, ee, -⟩ := HE.out
              refine (HIH.out wr a i mid P (L.take (i - a)) (R.take (f - m)) (L.drop (i - a) ++ R.drop (f - m) ++ S) ⟨by simpa [List.append_assoc] using HR1.out.1, hkb, by first | (simp; done) | (simp; omega), ha, by first | (simp; done) | (simp; omega), by first | (simp; done) | (simp; omega), pw_take HH.out.sl _, pw_take HH.out.sr _,
                fun x hx y hy => HH.out.ord x (List.mem_of_mem_take hx) y (List.mem_of_mem_take hy), fun x hx => HH.out.ul x (List.mem_of_mem_take hx), fun x hx => HH.out.ur x (List.mem_of_mem_take hx), by omega, by omega, by unfold maxLen; omega⟩ (hC.keep HR1.out.2) (by first | (simp; done) | (simp; omega)) (by first | (simp; done) | (simp; omega)) (by first | (simp; done) | (simp; omega))).mono ?_
              rintro en W2 ⟨rfl, Y1, hr2', hp1, hs1, hk2⟩
              have HR2 := hid (show ∃ Y1, Row W2 b (P ++ Y1 ++ (L.drop (i - a) ++ R.drop (f - m) ++ S)) ∧ Y1.Perm (L.take (i - a) ++ R.take (f - m)) ∧ Y1.Pairwise (Lt key) ∧ Keeps K w W2 from ⟨Y1, hr2', hp1, hs1, HR1.out.2.trans hk2⟩)
              clear hlen hm ha he hmid hz hp hl2 hr2 hf ea em ef ee hr2' hp1 hs1 hk2 HR1 g5
              by_cases g9 : mid < f ∧ f < e
              · have g10 : (mid : Int) < (f : Int) := by omega
                have g11 : (f : Int) < (e : Int) := by omega
                go_wp2_with fail
                all_goals
                  obtain ⟨hlen, hm, ha, he, hmid, hz, hp, hl2, hr2⟩ := HL.out
                  obtain ⟨hf, ea, em, ef, ee, -⟩ := HE.out
                  obtain ⟨Y1, hr3, hp1, hs1, hk3⟩ := HR2.out
                  have hy1 := hp1.length_eq
                  simp only [List.length_append, List.length_take] at hy1
                  refine (HIH.out W2 mid f e (P ++ Y1) (L.drop (i - a)) (R.drop (f - m)) S ⟨by simpa [List.append_assoc] using hr3, hkb, by first | (simp; done) | (simp; omega), by first | (simp; done) | (simp; omega), by first | (simp; done) | (simp; omega), by first | (simp; done) | (simp; omega), pw_drop HH.out.sl _, pw_drop HH.out.sr _,
                    fun x hx y hy => HH.out.ord x (List.mem_of_mem_drop hx) y (List.mem_of_mem_drop hy), fun x hx => HH.out.ul x (List.mem_of_mem_drop hx), fun x hx => HH.out.ur x (List.mem_of_mem_drop hx), by omega, by omega, by unfold maxLen; omega⟩ (hC.keep hk3) (by first | (simp; done) | (simp; omega)) (by first | (simp; done) | (simp; omega)) (by first | (simp; done) | (simp; omega))).mono ?_
                  rintro en W3 ⟨rfl, Y2, hr4, hp2, hs2, hk4⟩
                  have HM := hid (show Merged w W3 K b key P L R S from by
                    have := merge_sorted (key := key) (L1 := L.take (i - a)) (L2 := L.drop (i - a)) (R1 := R.take (f - m)) (R2 := R.drop (f - m)) (by rw [List.take_append_drop]; exact HH.out.sl) (by rw [List.take_append_drop]; exact HH.out.sr) hp1 hp2 hs1 hs2 HX.out.1 HX.out.2
                    rw [List.take_append_drop, List.take_append_drop] at this
                    exact ⟨Y1 ++ Y2, by simpa [List.append_assoc] using hr4, this.1, this.2, hk3.trans hk4⟩)
                  clear hlen hm ha he hmid hz hp hl2 hr2 hf ea em ef ee hr3 hp1 hs1 hk3 hy1 hr4 hp2 hs2 hk4 HR2 g9
                  go_wp2_with fail
                  all_goals (try go_end0)
                  all_goals (exact hR'.out _ _ ⟨rfl, HM.out⟩)
              · rcases Nat.lt_or_ge mid f with g10 | g10
                · have g11 : ¬ (f : Int) < (e : Int) := by omega
                  have g12 : (mid : Int) < (f : Int) := by omega
                  obtain ⟨hlen, hm, ha, he, hmid, hz, hp, hl2, hr2⟩ := HL.out
                  obtain ⟨hf, ea, em, ef, ee, -⟩ := HE.out
                  obtain ⟨Y1, hr3, hp1, hs1, hk3⟩ := HR2.out
                  have HM := hid (show Merged w W2 K b key P L R S from by
                    have hs2 : (L.drop (i - a) ++ R.drop (f - m)).Pairwise (Lt key) := by
                      have e1 : R.drop (f - m) = [] := List.drop_of_length_le (by omega)
                      rw [e1, List.append_nil]; exact pw_drop HH.out.sl _
                    have := merge_sorted (key := key) (L1 := L.take (i - a)) (L2 := L.drop (i - a)) (R1 := R.take (f - m)) (R2 := R.drop (f - m)) (by rw [List.take_append_drop]; exact HH.out.sl) (by rw [List.take_append_drop]; exact HH.out.sr) hp1 (List.Perm.refl _) hs1 hs2 HX.out.1 HX.out.2
                    rw [List.take_append_drop, List.take_append_drop] at this
                    exact ⟨Y1 ++ (L.drop (i - a) ++ R.drop (f - m)), by simpa [List.append_assoc] using hr3, this.1, this.2, hk3⟩)
                  clear hlen hm ha he hmid hz hp hl2 hr2 hf ea em ef ee hr3 hp1 hs1 hk3 HR2 g9 g10
                  go_wp2_with fail
                  all_goals (try go_end0)
                  all_goals (exact hR'.out _ _ ⟨rfl, HM.out⟩)
                · have g11 : ¬ (mid : Int) < (f : Int) := by omega
                  obtain ⟨hlen, hm, ha, he, hmid, hz, hp, hl2, hr2⟩ := HL.out
                  obtain ⟨hf, ea, em, ef, ee, -⟩ := HE.out
                  obtain ⟨Y1, hr3, hp1, hs1, hk3⟩ := HR2.out
                  have HM := hid (show Merged w W2 K b key P L R S from by
                    have hs2 : (L.drop (i - a) ++ R.drop (f - m)).Pairwise (Lt key) := by
                      have e1 : L.drop (i - a) = [] := List.drop_of_length_le (by omega)
                      rw [e1, List.nil_append]; exact pw_drop HH.out.sr _
                    have := merge_sorted (key := key) (L1 := L.take (i - a)) (L2 := L.drop (i - a)) (R1 := R.take (f - m)) (R2 := R.drop (f - m)) (by rw [List.take_append_drop]; exact HH.out.sl) (by rw [List.take_append_drop]; exact HH.out.sr) hp1 (List.Perm.refl _) hs1 hs2 HX.out.1 HX.out.2
                    rw [List.take_append_drop, List.take_append_drop] at this
                    exact ⟨Y1 ++ (L.drop (i - a) ++ R.drop (f - m)), by simpa [List.append_assoc] using hr3, this.1, this.2, hk3⟩)
                  clear hlen hm ha he hmid hz hp hl2 hr2 hf ea em ef ee hr3 hp1 hs1 hk3 HR2 g9 g10
                  go_wp2_with fail
                  all_goals (try go_end0)
                  all_goals (exact hR'.out _ _ ⟨rfl, HM.out⟩)
            · rcases Nat.lt_or_ge a i with g6 | g6
              · have g7 : ¬ (i : Int) < (mid : Int) := by omega
                have g8 : (a : Int) < (i : Int) := by omega
                obtain ⟨hlen, hm, ha, he, hmid, hz, hp, hl2, hr2⟩ := HL.out
                obtain ⟨hf, ea, em, ef, ee, -⟩ := HE.out
                obtain ⟨hr1, hk1⟩ := HR1.out
                have HR2 := hid (show ∃ Y1, Row wr b (P ++ Y1 ++ (L.drop (i - a) ++ R.drop (f - m) ++ S)) ∧ Y1.Perm (L.take (i - a) ++ R.take (f - m)) ∧ Y1.Pairwise (Lt key) ∧ Keeps K w wr from by
                  refine ⟨L.take (i - a) ++ R.take (f - m), hr1, List.Perm.refl _, ?_, hk1⟩
                  have e1 : f - m = 0 := by omega
                  rw [e1, List.take_zero, List.append_nil]; exact pw_take HH.out.sl _)
                clear hlen hm ha he hmid hz hp hl2 hr2 hf ea em ef ee hr1 hk1 HR1 g5 g6
                by_cases g9 : mid < f ∧ f < e
                · have g10 : (mid : Int) < (f : Int) := by omega
                  have g11 : (f : Int) < (e : Int) := by omega
                  go_wp2_with fail
                  all_goals
                    obtain ⟨hlen, hm, ha, he, hmid, hz, hp, hl2, hr2⟩ := HL.out
                    obtain ⟨hf, ea, em, ef, ee, -⟩ := HE.out
                    obtain ⟨Y1, hr3, hp1, hs1, hk3⟩ := HR2.out
                    have hy1 := hp1.length_eq
                    simp only [List.length_append, List.length_take] at hy1
                    refine (HIH.out wr mid f e (P ++ Y1) (L.drop (i - a)) (R.drop (f - m)) S ⟨by simpa [List.append_assoc] using hr3, hkb, by first | (simp; done) | (simp; omega), by first | (simp; done) | (simp; omega), by first | (simp; done) | (simp; omega), by first | (simp; done) | (simp; omega), pw_drop HH.out.sl _, pw_drop HH.out.sr _,
                      fun x hx y hy => HH.out.ord x (List.mem_of_mem_drop hx) y (List.mem_of_mem_drop hy), fun x hx => HH.out.ul x (List.mem_of_mem_drop hx), fun x hx => HH.out.ur x (List.mem_of_mem_drop hx), by omega, by omega, by unfold maxLen; omega⟩ (hC.keep hk3) (by first | (simp; done) | (simp; omega)) (by first | (simp; done) | (simp; omega)) (by first | (simp; done) | (simp; omega))).mono ?_
                    rintro en W3 ⟨rfl, Y2, hr4, hp2, hs2, hk4⟩
                    have HM := hid (show Merged w W3 K b key P L R S from by
                      have := merge_sorted (key := key) (L1 := L.take (i - a)) (L2 := L.drop (i - a)) (R1 := R.take (f - m)) (R2 := R.drop (f - m)) (by rw [List.take_append_drop]; exact HH.out.sl) (by rw [List.take_append_drop]; exact HH.out.sr) hp1 hp2 hs1 hs2 HX.out.1 HX.out.2
                      rw [List.take_append_drop, List.take_append_drop] at this
                      exact ⟨Y1 ++ Y2, by simpa [List.append_assoc] using hr4, this.1, this.2, hk3.trans hk4⟩)
                    clear hlen hm ha he hmid hz hp hl2 hr2 hf ea em ef ee hr3 hp1 hs1 hk3 hy1 hr4 hp2 hs2 hk4 HR2 g9
                    go_wp2_with fail
                    all_goals (try go_end0)
                    all_goals (exact hR'.out _ _ ⟨rfl, HM.out⟩)
                · rcases Nat.lt_or_ge mid f with g10 | g10
                  · have g11 : ¬ (f : Int) < (e : Int) := by omega
                    have g12 : (mid : Int) < (f : Int) := by omega
                    obtain ⟨hlen, hm, ha, he, hmid, hz, hp, hl2, hr2⟩ := HL.out
                    obtain ⟨hf, ea, em, ef, ee, -⟩ := HE.out
                    obtain ⟨Y1, hr3, hp1, hs1, hk3⟩ := HR2.out
                    have HM := hid (show Merged w wr K b key P L R S from by
                      have hs2 : (L.drop (i - a) ++ R.drop (f - m)).Pairwise (Lt key) := by
                        have e1 : R.drop (f - m) = [] := List.drop_of_length_le (by omega)
                        rw [e1, List.append_nil]; exact pw_drop HH.out.sl _
                      have := merge_sorted (key := key) (L1 := L.take (i - a)) (L2 := L.drop (i - a)) (R1 := R.take (f - m)) (R2 := R.drop (f - m)) (by rw [List.take_append_drop]; exact HH.out.sl) (by rw [List.take_append_drop]; exact HH.out.sr) hp1 (List.Perm.refl _) hs1 hs2 HX.out.1 HX.out.2
                      rw [List.take_append_drop, List.take_append_drop] at this
                      exact ⟨Y1 ++ (L.drop (i - a) ++ R.drop (f - m)), by simpa [List.append_assoc] using hr3, this.1, this.2, hk3⟩)
                    clear hlen hm ha he hmid hz hp hl2 hr2 hf ea em ef ee hr3 hp1 hs1 hk3 HR2 g9 g10
                    go_wp2_with fail
                    all_goals (try go_end0)
                    all_goals (exact hR'.out _ _ ⟨rfl, HM.out⟩)
                  · have g11 : ¬ (mid : Int) < (f : Int) := by omega
                    obtain ⟨hlen, hm, ha, he, hmid, hz, hp, hl2, hr2⟩ := HL.out
                    obtain ⟨hf, ea, em, ef, ee, -⟩ := HE.out
                    obtain ⟨Y1, hr3, hp1, hs1, hk3⟩ := HR2.out
                    have HM := hid (show Merged w wr K b key P L R S from by
                      have hs2 : (L.drop (i - a) ++ R.drop (f - m)).Pairwise (Lt key) := by
                        have e1 : L.drop (i - a) = [] := List.drop_of_length_le (by omega)
                        rw [e1, List.nil_append]; exact pw_drop HH.out.sr _
                      have := merge_sorted (key := key) (L1 := L.take (i - a)) (L2 := L.drop (i - a)) (R1 := R.take (f - m)) (R2 := R.drop (f - m)) (by rw [List.take_append_drop]; exact HH.out.sl) (by rw [List.take_append_drop]; exact HH.out.sr) hp1 (List.Perm.refl _) hs1 hs2 HX.out.1 HX.out.2
                      rw [List.take_append_drop, List.take_append_drop] at this
                      exact ⟨Y1 ++ (L.drop (i - a) ++ R.drop (f - m)), by simpa [List.append_assoc] using hr3, this.1, this.2, hk3⟩)
                    clear hlen hm ha he hmid hz hp hl2 hr2 hf ea em ef ee hr3 hp1 hs1 hk3 HR2 g9 g10
                    go_wp2_with fail
                    all_goals (try go_end0)
                    all_goals (exact hR'.out _ _ ⟨rfl, HM.out⟩)
              · have g7 : ¬ (a : Int) < (i : Int) := by omega
                obtain ⟨hlen, hm, ha, he, hmid, hz, hp, hl2, hr2⟩ := HL.out
                obtain ⟨hf, ea, em, ef, ee, -⟩ := HE.out
                obtain ⟨hr1, hk1⟩ := HR1.out
                have HR2 := hid (show ∃ Y1, Row wr b (P ++ Y1 ++ (L.drop (i - a) ++ R.drop (f - m) ++ S)) ∧ Y1.Perm (L.take (i - a) ++ R.take (f - m)) ∧ Y1.Pairwise (Lt key) ∧ Keeps K w wr from by
                  refine ⟨L.take (i - a) ++ R.take (f - m), hr1, List.Perm.refl _, ?_, hk1⟩
                  have e1 : i - a = 0 := by omega
                  rw [e1, List.take_zero, List.nil_append]; exact pw_take HH.out.sr _)
                clear hlen hm ha he hmid hz hp hl2 hr2 hf ea em ef ee hr1 hk1 HR1 g5 g6
                by_cases g9 : mid < f ∧ f < e
                · have g10 : (mid : Int) < (f : Int) := by omega
                  have g11 : (f : Int) < (e : Int) := by omega
                  go_wp2_with fail
                  all_goals
                    obtain ⟨hlen, hm, ha, he, hmid, hz, hp, hl2, hr2⟩ := HL.out
                    obtain ⟨hf, ea, em, ef, ee, -⟩ := HE.out
                    obtain ⟨Y1, hr3, hp1, hs1, hk3⟩ := HR2.out
                    have hy1 := hp1.length_eq
                    simp only [List.length_append, List.length_take] at hy1
                    refine (HIH.out wr mid f e (P ++ Y1) (L.drop (i - a)) (R.drop (f - m)) S ⟨by simpa [List.append_assoc] using hr3, hkb, by first | (simp; done) | (simp; omega), by first | (simp; done) | (simp; omega), by first | (simp; done) | (simp; omega), by first | (simp; done) | (simp; omega), pw_drop HH.out.sl _, pw_drop HH.out.sr _,
                      fun x hx y hy => HH.out.ord x (List.mem_of_mem_drop hx) y (List.mem_of_mem_drop hy), fun x hx => HH.out.ul x (List.mem_of_mem_drop hx), fun x hx => HH.out.ur x (List.mem_of_mem_drop hx), by omega, by omega, by unfold maxLen; omega⟩ (hC.keep hk3) (by first | (simp; done) | (simp; omega)) (by first | (simp; done) | (simp; omega)) (by first | (simp; done) | (simp; omega))).mono ?_
                    rintro en W3 ⟨rfl, Y2, hr4, hp2, hs2, hk4⟩
                    have HM := hid (show Merged w W3 K b key P L R S from by
                      have := merge_sorted (key := key) (L1 := L.take (i - a)) (L2 := L.drop (i - a)) (R1 := R.take (f - m)) (R2 := R.drop (f - m)) (by rw [List.take_append_drop]; exact HH.out.sl) (by rw [List.take_append_drop]; exact HH.out.sr) hp1 hp2 hs1 hs2 HX.out.1 HX.out.2
                      rw [List.take_append_drop, List.take_append_drop] at this
                      exact ⟨Y1 ++ Y2, by simpa [List.append_assoc] using hr4, this.1, this.2, hk3.trans hk4⟩)
                    clear hlen hm ha he hmid hz hp hl2 hr2 hf ea em ef ee hr3 hp1 hs1 hk3 hy1 hr4 hp2 hs2 hk4 HR2 g9
                    go_wp2_with fail
                    all_goals (try go_end0)
                    all_goals (exact hR'.out _ _ ⟨rfl, HM.out⟩)
                · rcases Nat.lt_or_ge mid f with g10 | g10
                  · have g11 : ¬ (f : Int) < (e : Int) := by omega
                    have g12 : (mid : Int) < (f : Int) := by omega
                    obtain ⟨hlen, hm, ha, he, hmid, hz, hp, hl2, hr2⟩ := HL.out
                    obtain ⟨hf, ea, em, ef, ee, -⟩ := HE.out
                    obtain ⟨Y1, hr3, hp1, hs1, hk3⟩ := HR2.out
                    have HM := hid (show Merged w wr K b key P L R S from by
                      have hs2 : (L.drop (i - a) ++ R.drop (f - m)).Pairwise (Lt key) := by
                        have e1 : R.drop (f - m) = [] := List.drop_of_length_le (by omega)
                        rw [e1, List.append_nil]; exact pw_drop HH.out.sl _
                      have := merge_sorted (key := key) (L1 := L.take (i - a)) (L2 := L.drop (i - a)) (R1 := R.take (f - m)) (R2 := R.drop (f - m)) (by rw [List.take_append_drop]; exact HH.out.sl) (by rw [List.take_append_drop]; exact HH.out.sr) hp1 (List.Perm.refl _) hs1 hs2 HX.out.1 HX.out.2
                      rw [List.take_append_drop, List.take_append_drop] at this
                      exact ⟨Y1 ++ (L.drop (i - a) ++ R.drop (f - m)), by simpa [List.append_assoc] using hr3, this.1, this.2, hk3⟩)
                    clear hlen hm ha he hmid hz hp hl2 hr2 hf ea em ef ee hr3 hp1 hs1 hk3 HR2 g9 g10
                    go_wp2_with fail
                    all_goals (try go_end0)
                    all_goals (exact hR'.out _ _ ⟨rfl, HM.out⟩)
                  · have g11 : ¬ (mid : Int) < (f : Int) := by omega
                    obtain ⟨hlen, hm, ha, he, hmid, hz, hp, hl2, hr2⟩ := HL.out
                    obtain ⟨hf, ea, em, ef, ee, -⟩ := HE.out
                    obtain ⟨Y1, hr3, hp1, hs1, hk3⟩ := HR2.out
                    have HM := hid (show Merged w wr K b key P L R S from by
                      have hs2 : (L.drop (i - a) ++ R.drop (f - m)).Pairwise (Lt key) := by
                        have e1 : L.drop (i - a) = [] := List.drop_of_length_le (by omega)
                        rw [e1, List.nil_append]; exact pw_drop HH.out.sr _
                      have := merge_sorted (key := key) (L1 := L.take (i - a)) (L2 := L.drop (i - a)) (R1 := R.take (f - m)) (R2 := R.drop (f - m)) (by rw [List.take_append_drop]; exact HH.out.sl) (by rw [List.take_append_drop]; exact HH.out.sr) hp1 (List.Perm.refl _) hs1 hs2 HX.out.1 HX.out.2
                      rw [List.take_append_drop, List.take_append_drop] at this
                      exact ⟨Y1 ++ (L.drop (i - a) ++ R.drop (f - m)), by simpa [List.append_assoc] using hr3, this.1, this.2, hk3⟩)
                    clear hlen hm ha he hmid hz hp hl2 hr2 hf ea em ef ee hr3 hp1 hs1 hk3 HR2 g9 g10
                    go_wp2_with fail
                    all_goals (try go_end0)
                    all_goals (exact hR'.out _ _ ⟨rfl, HM.out⟩)

theorem sym_merge {K : Nat → Prop} {b n cap N lb : Nat} {key : Nat → Int} : ∀ (k : Nat) (w : World) (a m e : Nat) (P L R S : List Nat), Merge w K b n cap a m e N key P L R S → CmpOK K w N key lb → 0 < L.length → 0 < R.length → L.length + R.length ≤ k →
    Calls Try.prog 57 #[.slice (some ⟨b, 0, none⟩) n cap, .int .i64 (a : Int), .int .i64 (m : Int), .int .i64 (e : Int), .func (.func 35) #[] #[.pointer (some ⟨lb, 0, none⟩)]] w fun en w' =>
      en = .returned (.tuple #[]) ∧ Merged w w' K b key P L R S
  | 0, w, a, m, e, P, L, R, S, H, hC, hl, hr, hk => by omega
  | k + 1, w, a, m, e, P, L, R, S, H, hC, hl, hr, hk => by
    rcases Nat.lt_or_ge L.length 2 with h1 | h1
    · obtain ⟨x, rfl⟩ : ∃ x, L = [x] := List.length_eq_one_iff.1 (by omega)
      exact sym_one H hC hr
    · rcases Nat.lt_or_ge R.length 2 with h2 | h2
      · obtain ⟨x, rfl⟩ : ∃ x, R = [x] := List.length_eq_one_iff.1 (by omega)
        exact sym_last H hC h1
      · exact sym_gen H hC h1 h2 (fun w a m e P L' R' S H' hC' hl' hr' hk' => sym_merge k w a m e P L' R' S H' hC' hl' hr' (by omega))
end Go.Proofs.Ytbmgmjfpoepgpaa

