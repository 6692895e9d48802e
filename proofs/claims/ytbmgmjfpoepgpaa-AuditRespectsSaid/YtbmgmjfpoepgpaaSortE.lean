/- Contracts: slices.symMergeCmpFunc where the second row has one element. -/
import Derived.Test.YtbmgmjfpoepgpaaSortD
namespace Go.Proofs.Ytbmgmjfpoepgpaa
open Go.RowKit

set_option maxRecDepth 100000 in
set_option maxHeartbeats 4000000 in
theorem sym_last {w : World} {K : Nat → Prop} {b n cap a m e N lb : Nat} {key : Nat → Int} {P L S : List Nat} {x : Nat} (H : Merge w K b n cap a m e N key P L [x] S) (hC : CmpOK K w N key lb) (hr : 2 ≤ L.length) :
    Calls Try.prog 57 #[.slice (some ⟨b, 0, none⟩) n cap, .int .i64 (a : Int), .int .i64 (m : Int), .int .i64 (e : Int), .func (.func 35) #[] #[.pointer (some ⟨lb, 0, none⟩)]] w fun en w' =>
      en = .returned (.tuple #[]) ∧ Merged w w' K b key P L [x] S := by
  have hcb := H.cap2
  have hcap := H.cap1
  have hbig := H.big
  unfold maxLen at hcb
  have hlen : n = P.length + L.length + 1 + S.length := by rw [H.hn]; simp; omega
  have hm := H.hm
  have ha := H.ha
  have he := H.he
  have hkb := H.kb
  simp only [List.length_singleton] at hm he
  have b1 : e = m + 1 := by omega
  have b2 : a < m := by omega
  have b3 : e ≤ n := by omega
  have ba : m < n := by omega
  have t0 : ((m : Int) - (a : Int) == 1) = false := by simp; omega
  have t1 : (e : Int) - (m : Int) = 1 := by omega
  have HH := hid H
  have HL := hid (And.intro hlen (And.intro hm (And.intro ha he)))
  have HB := hid b1
  clear hlen hm ha he H b1
  refine calls_hide fun R' hR' => ?_
  go_enter Try.func57, Try.ntmps57
  go_wp2_with fail
  go_loopw [14, 15] (fun vi vj wr => ∃ (i j q : Nat), vi = .int .i64 (i : Int) ∧ vj = .int .i64 (j : Int) ∧ a ≤ i ∧ i ≤ j ∧ j ≤ m ∧ w.drewN q = wr ∧
      Hid (∀ k y, L[k]? = some y → (a + k < i → Lt key y x) ∧ (j ≤ a + k → Lt key x y))) (fun i j _ => (intOf j).toNat - (intOf i).toNat)
  case atStart =>
    refine ⟨a, m, 0, rfl, rfl, Nat.le_refl _, by omega, Nat.le_refl _, rfl, hid fun k y hk => ⟨fun h => by omega, fun h => ?_⟩⟩
    have := (List.getElem?_eq_some_iff.1 hk).1
    obtain ⟨hlen, hm, ha, he⟩ := HL.out
    omega
  case round =>
    obtain ⟨i, j, q, rfl, rfl, hmi, hij, hje, hw, HI⟩ := hrel
    have HW := hid hw
    clear hw
    by_cases hlt : i < j
    · obtain ⟨c, hc⟩ : ∃ c, c = (i + j) / 2 := ⟨_, rfl⟩
      have s1 : ((i : Int) + (j : Int)) / 2 = (c : Int) := by omega
      have s2 : (c : Int) < (n : Int) := by omega
      have s3 : (m : Int) < (n : Int) := by omega
      have s4 : (i : Int) < (j : Int) := by omega
      obtain ⟨hlen, hm, ha, he⟩ := HL.out
      obtain ⟨y, hy⟩ : ∃ y, L[c - a]? = some y := ⟨_, List.getElem?_eq_getElem (by omega)⟩
      have c1 : wr.cell? ⟨b, c, none⟩ = some (.int .i64 (y : Int)) := by
        rw [← HW.out]; refine (HH.out.row.drewN q).cell ?_
        have e : c = P.length + (c - a) := by omega
        rw [e]; exact getP (P := P) (R := [x]) (S := S) hy
      have c2 : wr.cell? ⟨b, m, none⟩ = some (.int .i64 (x : Int)) := by
        rw [← HW.out]; refine (HH.out.row.drewN q).cell ?_
        have := getR (P := P) (L := L) (R := [x]) (S := S) (k := 0) (x := x) rfl
        rw [hm]; exact this
      have hyR := List.mem_of_getElem? hy
      have hxy := HH.out.ord y hyR x (by simp)
      have hcmp := fun k => hC (wr.drewN k) (by rw [← HW.out]; exact ((Keeps.refl _ _).drewN q).drewN k) x y (HH.out.ur x (by simp)) (HH.out.ul y hyR)
      have hcv := cmpv_lt (key := key) hxy
      have HY := hid (And.intro hy (And.intro hc hxy))
      obtain ⟨X, hX⟩ : ∃ X : Int, X = (x : Int) := ⟨_, rfl⟩
      obtain ⟨Y, hY⟩ : ∃ Y : Int, Y = (y : Int) := ⟨_, rfl⟩
      obtain ⟨V, hV⟩ : ∃ V : Int, V = cmpv key x y := ⟨_, rfl⟩
      simp only [← hX, ← hY, ← hV] at c1 c2 hcmp hcv
      clear hX hY hV hlen hm ha he hyR hxy hy hc
      have HCV := hid hcv
      clear hcv
      have HIJ := hid (And.intro hmi (And.intro hij (And.intro hje hlt)))
      by_cases hv : V < 0
      · have hd : decide (V < 0) = true := decide_eq_true hv
        go_wp2_with fail
        go_quiet (first | (go_at_call 35; refine Calls.quiet_of (hcmp _)))
        go_wp2_with fail
        go_roundw
        case rel =>
          obtain ⟨hmi, hij, hje, hlt⟩ := HIJ.out
          obtain ⟨hy, hc, hxy⟩ := HY.out
          refine ⟨i, c, q + nq, rfl, by first | rfl | go_num, by omega, by omega, by omega, by rw [← HW.out, World.drewN_drewN], hid fun k z hk => ⟨fun h => (HI.out k z hk).1 h, fun h => ?_⟩⟩
          have hyx := HCV.out.1 (by omega)
          have hl := (List.getElem?_eq_some_iff.1 hy)
          have hk' := (List.getElem?_eq_some_iff.1 hk)
          rcases Nat.lt_or_ge (c - a) k with h' | h'
          · have := sorted_get HH.out.sl hk'.1 h'
            rw [hl.2, hk'.2] at this
            exact hyx.trans this
          · have e : k = c - a := by omega
            subst e
            rw [hy] at hk; injection hk with hk
            rw [← hk]; exact hyx
        case measure => obtain ⟨hmi, hij, hje, hlt⟩ := HIJ.out; obtain ⟨hy, hc, hxy⟩ := HY.out; simp [intOf]; omega
      · have hd : decide (V < 0) = false := decide_eq_false hv
        go_wp2_with fail
        go_quiet (first | (go_at_call 35; refine Calls.quiet_of (hcmp _)))
        go_wp2_with fail
        go_roundw
        case rel =>
          obtain ⟨hmi, hij, hje, hlt⟩ := HIJ.out
          obtain ⟨hy, hc, hxy⟩ := HY.out
          refine ⟨c + 1, j, q + nq, by first | rfl | go_num, rfl, by omega, by omega, hje, by rw [← HW.out, World.drewN_drewN], hid fun k z hk => ⟨fun h => ?_, fun h => (HI.out k z hk).2 h⟩⟩
          have hyx := Lt.total (i := x) (j := y) (fun h => by have := HCV.out.2 h; omega) (by omega)
          have hl := (List.getElem?_eq_some_iff.1 hy)
          have hk' := (List.getElem?_eq_some_iff.1 hk)
          rcases Nat.lt_or_ge k (c - a) with h' | h'
          · have := sorted_get HH.out.sl hl.1 h'
            rw [hl.2, hk'.2] at this
            exact this.trans hyx
          · have e : k = c - a := by omega
            subst e
            rw [hy] at hk; injection hk with hk
            rw [← hk]; exact hyx
        case measure => obtain ⟨hmi, hij, hje, hlt⟩ := HIJ.out; obtain ⟨hy, hc, hxy⟩ := HY.out; simp [intOf]; omega
    · have hij' : i = j := by omega
      subst hij'
      have z0 : ¬ (i : Int) < (i : Int) := by omega
      have HE := hid (And.intro hmi hje)
      clear hlt
      go_wp2_with fail
      go_loopw [17] (fun vk wr2 => ∃ (k : Nat), vk = .int .i64 (k : Int) ∧ i ≤ k ∧ k ≤ m ∧ Hid (Row wr2 b (P ++ L.take (k - a) ++ x :: L.drop (k - a) ++ S) ∧ Keeps K w wr2)) (fun k _ => (intOf k).toNat)
      case atStart =>
        obtain ⟨hlen, hm, ha, he⟩ := HL.out
        refine ⟨m, rfl, HE.out.2, Nat.le_refl _, hid ⟨?_, by rw [← HW.out]; exact (Keeps.refl _ _).drewN q⟩⟩
        rw [← HW.out, List.take_of_length_le (by omega), List.drop_of_length_le (by omega)]
        have := HH.out.row.drewN q
        simpa [List.append_assoc] using this
      case round =>
        obtain ⟨k, rfl, hak, hki, HK2⟩ := hrel
        by_cases hlt : i < k
        · obtain ⟨hR2, hk2⟩ := HK2.out
          obtain ⟨hlen, hm, ha, he⟩ := HL.out
          have hai := HE.out.1
          obtain ⟨k0, rfl⟩ : ∃ k0, k = k0 + 1 := ⟨k - 1, by omega⟩
          obtain ⟨y, hy⟩ : ∃ y, L[k0 - a]? = some y := ⟨_, List.getElem?_eq_getElem (by omega)⟩
          obtain ⟨k1, hk1⟩ : ∃ k1, k1 = k0 + 1 := ⟨_, rfl⟩
          have ek : k0 + 1 - a = (k0 - a) + 1 := by omega
          have hR3 : Row wr b ((P ++ L.take (k0 - a)) ++ y :: [] ++ x :: (L.drop (k0 - a + 1) ++ S)) := by
            rw [ek, take_get hy] at hR2; simpa [List.append_assoc] using hR2
          have hl1 : k0 = (P ++ L.take (k0 - a)).length := by simp; omega
          have hl2 : k1 = (P ++ L.take (k0 - a)).length + 1 + ([] : List Nat).length := by simp; omega
          have hs := hR3.swap' hl1 hl2
          obtain ⟨c1, c2, _, c3⟩ := hR3.facts hl1 hl2
          have f1 := hR3.free k0
          have f2 := hR3.free k1
          have c3 := c3 (.int .i64 (y : Int))
          have HN := hid (show Row ((wr.setCell ⟨b, k1, none⟩ (.int .i64 (y : Int))).setCell ⟨b, k0, none⟩ (.int .i64 (x : Int))) b (P ++ L.take (k0 - a) ++ x :: L.drop (k0 - a) ++ S) ∧ Keeps K w ((wr.setCell ⟨b, k1, none⟩ (.int .i64 (y : Int))).setCell ⟨b, k0, none⟩ (.int .i64 (x : Int))) from by
            refine ⟨?_, hk2.set2 hkb _ _ _ _⟩
            rw [drop_get hy]
            simpa [List.append_assoc] using hs)
          have g0 : ((k0 + 1 : Nat) : Int) = (k1 : Int) := by omega
          have g1 : (k1 : Int) - 1 = (k0 : Int) := by omega
          have g2 : (k1 : Int) < (n : Int) := by omega
          have g3 : (k0 : Int) < (n : Int) := by omega
          have g4 : (k1 : Int) > (i : Int) := by omega
          obtain ⟨X, hX⟩ : ∃ X : Int, X = (x : Int) := ⟨_, rfl⟩
          obtain ⟨Y, hY⟩ : ∃ Y : Int, Y = (y : Int) := ⟨_, rfl⟩
          simp only [← hX, ← hY] at c1 c2 c3 HN
          have HK1 := hid (And.intro hk1 (And.intro hlt (And.intro hki hai)))
          rw [g0]
          clear hX hY hR2 hk2 hlen hm ha he hy hk1 hR3 hl1 hl2 hs HK2 g0 hlt hak hki hai ek
          go_wp2_with fail
          go_big_region
          clear c1 c2 c3 f1 f2
          go_wp2_with fail
          go_roundw
          case rel => obtain ⟨hk1, hlt, hki, hai⟩ := HK1.out; exact ⟨k0, by first | rfl | go_num, by omega, by omega, hid ⟨HN.out.1.drew, HN.out.2.drew⟩⟩
          case measure => obtain ⟨hk1, hlt, hki, hai⟩ := HK1.out; simp [intOf]; omega
        · have hk' : k = i := by omega
          subst hk'
          have g4 : ¬ (k : Int) > (k : Int) := by omega
          go_wp2_with fail
          go_end0
          obtain ⟨hR2, hk2⟩ := HK2.out
          obtain ⟨hlen, hm, ha, he⟩ := HL.out
          have hE := HE.out
          refine hR'.out _ _ ⟨rfl, L.take (k - a) ++ x :: L.drop (k - a), by simpa [List.append_assoc] using hR2, ?_, ?_, hk2⟩
          · refine (put_perm x _ _).trans ?_
            rw [List.take_append_drop]; exact (List.perm_append_comm (l₁ := [x]))
          · refine put_sorted (by rw [List.take_append_drop]; exact HH.out.sl) (fun y hy => ?_) (fun y hy => ?_)
            · obtain ⟨p, hp, hpk, e⟩ := mem_take_get hy
              exact (HI.out p y (by rw [List.getElem?_eq_getElem hp, e])).1 (by omega)
            · obtain ⟨p, hp, hpk, e⟩ := mem_drop_get hy
              exact (HI.out p y (by rw [List.getElem?_eq_getElem hp, e])).2 (by omega)
end Go.Proofs.Ytbmgmjfpoepgpaa
