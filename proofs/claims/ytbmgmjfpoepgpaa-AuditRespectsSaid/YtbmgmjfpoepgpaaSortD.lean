/- Contracts: slices.symMergeCmpFunc where one of both rows has one element. -/
import Derived.Test.YtbmgmjfpoepgpaaSortC
import Derived.Laws.BitsLemmas
namespace Go.Proofs.Ytbmgmjfpoepgpaa
open Go.RowKit

/-- what symMerge is told -/
structure Merge (w : World) (K : Nat → Prop) (b n cap a m e N : Nat) (key : Nat → Int) (P L R S : List Nat) : Prop where
  row : Row w b (P ++ L ++ R ++ S)
  kb : ¬ K b
  hn : n = (P ++ L ++ R ++ S).length
  ha : a = P.length
  hm : m = P.length + L.length
  he : e = P.length + L.length + R.length
  sl : L.Pairwise (Lt key)
  sr : R.Pairwise (Lt key)
  ord : ∀ x ∈ L, ∀ y ∈ R, x < y
  ul : ∀ x ∈ L, x < N
  ur : ∀ x ∈ R, x < N
  big : n ≤ 1099511627776
  cap1 : n ≤ cap
  cap2 : cap ≤ maxLen
def Merged (w w' : World) (K : Nat → Prop) (b : Nat) (key : Nat → Int) (P L R S : List Nat) : Prop :=
  ∃ Y, Row w' b (P ++ Y ++ S) ∧ Y.Perm (L ++ R) ∧ Y.Pairwise (Lt key) ∧ Keeps K w w'

theorem getP {P L R S : List Nat} {k x : Nat} (h : L[k]? = some x) : (P ++ L ++ R ++ S)[P.length + k]? = some x := by
  have hk := (List.getElem?_eq_some_iff.1 h).1
  have e : P ++ L ++ R ++ S = P ++ (L ++ (R ++ S)) := by simp
  rw [e, List.getElem?_append_right (Nat.le_add_right ..), Nat.add_sub_cancel_left, List.getElem?_append_left hk]
  exact h
theorem getR {P L R S : List Nat} {k x : Nat} (h : R[k]? = some x) : (P ++ L ++ R ++ S)[P.length + L.length + k]? = some x := by
  have := getP (P := P ++ L) (R := S) (S := []) h
  simpa [List.append_assoc] using this

set_option maxRecDepth 100000 in
set_option maxHeartbeats 4000000 in
theorem sym_one {w : World} {K : Nat → Prop} {b n cap a m e N lb : Nat} {key : Nat → Int} {P R S : List Nat} {x : Nat} (H : Merge w K b n cap a m e N key P [x] R S) (hC : CmpOK K w N key lb) (hr : 0 < R.length) :
    Calls Try.prog 57 #[.slice (some ⟨b, 0, none⟩) n cap, .int .i64 (a : Int), .int .i64 (m : Int), .int .i64 (e : Int), .func (.func 35) #[] #[.pointer (some ⟨lb, 0, none⟩)]] w fun en w' =>
      en = .returned (.tuple #[]) ∧ Merged w w' K b key P [x] R S := by
  have hcb := H.cap2
  have hcap := H.cap1
  have hbig := H.big
  unfold maxLen at hcb
  have hlen : n = P.length + 1 + R.length + S.length := by rw [H.hn]; simp; omega
  have hm := H.hm
  have ha := H.ha
  have he := H.he
  have hkb := H.kb
  simp only [List.length_singleton] at hm he
  have b1 : m = a + 1 := by omega
  have b2 : m < e := by omega
  have b3 : e ≤ n := by omega
  have ba : a < n := by omega
  have t0 : (m : Int) - (a : Int) = 1 := by omega
  have HH := hid H
  have HL := hid (And.intro hlen (And.intro hm (And.intro ha he)))
  have HB := hid b1
  clear hlen hm ha he H b1
  refine calls_hide fun R' hR' => ?_
  go_enter Try.func57, Try.ntmps57
  go_wp2_with fail
  go_loopw [10, 11] (fun vi vj wr => ∃ (i j q : Nat), vi = .int .i64 (i : Int) ∧ vj = .int .i64 (j : Int) ∧ m ≤ i ∧ i ≤ j ∧ j ≤ e ∧ w.drewN q = wr ∧
      Hid (∀ k y, R[k]? = some y → (m + k < i → Lt key y x) ∧ (j ≤ m + k → Lt key x y))) (fun i j _ => (intOf j).toNat - (intOf i).toNat)
  case atStart =>
    refine ⟨m, e, 0, rfl, rfl, Nat.le_refl _, by omega, Nat.le_refl _, rfl, hid fun k y hk => ⟨fun h => by omega, fun h => ?_⟩⟩
    have := (List.getElem?_eq_some_iff.1 hk).1
    obtain ⟨hlen, hm, ha, he⟩ := HL.out
    omega
  case round =>
    obtain ⟨i, j, q, rfl, rfl, hmi, hij, hje, hw, HI⟩ := hrel
    have HW := hid hw
    clear hw
    by_cases hlt : i < j
    · obtain ⟨c, hc⟩ : ∃ c, c = (i + j) / 2 := ⟨_, rfl⟩
      have s1 : ((i : Int) + (j : Int)) / 2 = (c : Int) := by omega
      have s2 : (c : Int) < (n : Int) := by omega
      have s3 : (a : Int) < (n : Int) := by omega
      have s4 : (i : Int) < (j : Int) := by omega
      obtain ⟨hlen, hm, ha, he⟩ := HL.out
      obtain ⟨y, hy⟩ : ∃ y, R[c - m]? = some y := ⟨_, List.getElem?_eq_getElem (by omega)⟩
      have c1 : wr.cell? ⟨b, c, none⟩ = some (.int .i64 (y : Int)) := by
        rw [← HW.out]; refine (HH.out.row.drewN q).cell ?_
        have e : c = P.length + [x].length + (c - m) := by simp; omega
        rw [e]; exact getR (P := P) (L := [x]) (S := S) hy
      have c2 : wr.cell? ⟨b, a, none⟩ = some (.int .i64 (x : Int)) := by
        rw [← HW.out]; refine (HH.out.row.drewN q).cell ?_
        have := getP (P := P) (L := [x]) (R := R) (S := S) (k := 0) (x := x) rfl
        rw [ha]; simp only [Nat.add_zero] at this; exact this
      have hyR := List.mem_of_getElem? hy
      have hxy := HH.out.ord x (by simp) y hyR
      have hcmp := fun k => hC (wr.drewN k) (by rw [← HW.out]; exact ((Keeps.refl _ _).drewN q).drewN k) y x (HH.out.ur y hyR) (HH.out.ul x (by simp))
      have hcv := cmpv_lt (key := key) hxy
      have HY := hid (And.intro hy (And.intro hc hxy))
      obtain ⟨X, hX⟩ : ∃ X : Int, X = (x : Int) := ⟨_, rfl⟩
      obtain ⟨Y, hY⟩ : ∃ Y : Int, Y = (y : Int) := ⟨_, rfl⟩
      obtain ⟨V, hV⟩ : ∃ V : Int, V = cmpv key y x := ⟨_, rfl⟩
      simp only [← hX, ← hY, ← hV] at c1 c2 hcmp hcv
      clear hX hY hV hlen hm ha he hyR hxy hy hc
      have HCV := hid hcv
      clear hcv
      have HIJ := hid (And.intro hmi (And.intro hij (And.intro hje hlt)))
      by_cases hv : V < 0
      · have hd : decide (V < 0) = true := decide_eq_true hv
        go_wp2_with fail
        go_quiet (first | (go_at_call 35; refine Calls.quiet_of (hcmp _)))
        go_wp2_with fail
        go_roundw
        case rel =>
          obtain ⟨hmi, hij, hje, hlt⟩ := HIJ.out
          obtain ⟨hy, hc, hxy⟩ := HY.out
          refine ⟨c + 1, j, q + nq, by first | rfl | go_num, rfl, by omega, by omega, hje, by rw [← HW.out, World.drewN_drewN], hid fun k z hk => ⟨fun h => ?_, fun h => (HI.out k z hk).2 h⟩⟩
          have hyx := HCV.out.1 hv
          have hl := (List.getElem?_eq_some_iff.1 hy)
          have hk' := (List.getElem?_eq_some_iff.1 hk)
          rcases Nat.lt_or_ge k (c - m) with h' | h'
          · have := sorted_get HH.out.sr hl.1 h'
            rw [hl.2, hk'.2] at this
            exact this.trans hyx
          · have e : k = c - m := by omega
            subst e
            rw [hy] at hk; injection hk with hk
            rw [← hk]; exact hyx
        case measure => obtain ⟨hmi, hij, hje, hlt⟩ := HIJ.out; obtain ⟨hy, hc, hxy⟩ := HY.out; simp [intOf]; omega
      · have hd : decide (V < 0) = false := decide_eq_false hv
        go_wp2_with fail
        go_quiet (first | (go_at_call 35; refine Calls.quiet_of (hcmp _)))
        go_wp2_with fail
        go_roundw
        case rel =>
          obtain ⟨hmi, hij, hje, hlt⟩ := HIJ.out
          obtain ⟨hy, hc, hxy⟩ := HY.out
          refine ⟨i, c, q + nq, rfl, by first | rfl | go_num, by omega, by omega, by omega, by rw [← HW.out, World.drewN_drewN], hid fun k z hk => ⟨fun h => (HI.out k z hk).1 h, fun h => ?_⟩⟩
          have hyx := Lt.total (i := y) (j := x) (fun h => by have := HCV.out.2 h; omega) (by omega)
          have hl := (List.getElem?_eq_some_iff.1 hy)
          have hk' := (List.getElem?_eq_some_iff.1 hk)
          rcases Nat.lt_or_ge (c - m) k with h' | h'
          · have := sorted_get HH.out.sr hk'.1 h'
            rw [hl.2, hk'.2] at this
            exact hyx.trans this
          · have e : k = c - m := by omega
            subst e
            rw [hy] at hk; injection hk with hk
            rw [← hk]; exact hyx
        case measure => obtain ⟨hmi, hij, hje, hlt⟩ := HIJ.out; obtain ⟨hy, hc, hxy⟩ := HY.out; simp [intOf]; omega
    · have hij' : i = j := by omega
      subst hij'
      have z0 : ¬ (i : Int) < (i : Int) := by omega
      obtain ⟨i1, hi1⟩ : ∃ i1, i = i1 + 1 := ⟨i - 1, by omega⟩
      have z1 : (i : Int) - 1 = (i1 : Int) := by omega
      have HI1 := hid hi1
      have HE := hid (And.intro hmi hje)
      clear hi1 hlt
      go_wp2_with fail
      go_loopw [13] (fun vk wr2 => ∃ (k : Nat), vk = .int .i64 (k : Int) ∧ a ≤ k ∧ k ≤ i1 ∧ Hid (Row wr2 b (P ++ R.take (k - a) ++ x :: R.drop (k - a) ++ S) ∧ Keeps K w wr2)) (fun k _ => i1 - (intOf k).toNat)
      case atStart =>
        refine ⟨a, rfl, Nat.le_refl _, by have := HI1.out; have := HB.out; omega, hid ⟨?_, by rw [← HW.out]; exact (Keeps.refl _ _).drewN q⟩⟩
        rw [← HW.out]
        have := HH.out.row.drewN q
        simpa [List.append_assoc] using this
      case round =>
        obtain ⟨k, rfl, hak, hki, HK2⟩ := hrel
        by_cases hlt : k < i1
        · obtain ⟨hR2, hk2⟩ := HK2.out
          obtain ⟨hlen, hm, ha, he⟩ := HL.out
          have hi1 := HI1.out
          obtain ⟨y, hy⟩ : ∃ y, R[k - a]? = some y := ⟨_, List.getElem?_eq_getElem (by omega)⟩
          obtain ⟨k1, hk1⟩ : ∃ k1, k1 = k + 1 := ⟨_, rfl⟩
          have hR3 : Row wr b ((P ++ R.take (k - a)) ++ x :: [] ++ y :: (R.drop (k - a + 1) ++ S)) := by
            rw [drop_get hy] at hR2; simpa [List.append_assoc] using hR2
          have hl1 : k = (P ++ R.take (k - a)).length := by simp; omega
          have hl2 : k1 = (P ++ R.take (k - a)).length + 1 + ([] : List Nat).length := by simp; omega
          have hs := hR3.swap hl1 hl2
          obtain ⟨c1, c2, c3, _⟩ := hR3.facts hl1 hl2
          have f1 := hR3.free k
          have f2 := hR3.free k1
          have c3 := c3 (.int .i64 (y : Int))
          have HN := hid (show Row ((wr.setCell ⟨b, k, none⟩ (.int .i64 (y : Int))).setCell ⟨b, k1, none⟩ (.int .i64 (x : Int))) b (P ++ R.take (k1 - a) ++ x :: R.drop (k1 - a) ++ S) ∧ Keeps K w ((wr.setCell ⟨b, k, none⟩ (.int .i64 (y : Int))).setCell ⟨b, k1, none⟩ (.int .i64 (x : Int))) from by
            have e1 : k1 - a = (k - a) + 1 := by omega
            refine ⟨?_, hk2.set2 hkb _ _ _ _⟩
            rw [e1, take_get hy]
            simpa [List.append_assoc] using hs)
          have g1 : (k : Int) + 1 = (k1 : Int) := by omega
          have g2 : (k1 : Int) < (n : Int) := by omega
          have g3 : (k : Int) < (n : Int) := by omega
          have g4 : (k : Int) < (i1 : Int) := by omega
          obtain ⟨X, hX⟩ : ∃ X : Int, X = (x : Int) := ⟨_, rfl⟩
          obtain ⟨Y, hY⟩ : ∃ Y : Int, Y = (y : Int) := ⟨_, rfl⟩
          simp only [← hX, ← hY] at c1 c2 c3 HN
          have HK1 := hid (And.intro hk1 (And.intro hlt hak))
          clear hX hY hR2 hk2 hlen hm ha he hi1 hy hk1 hR3 hl1 hl2 hs HK2
          go_wp2_with fail
          go_big_region
          clear c1 c2 c3 f1 f2
          go_wp2_with fail
          go_roundw
          case rel => obtain ⟨hk1, hlt, hak⟩ := HK1.out; exact ⟨k1, by first | rfl | go_num, by omega, by omega, hid ⟨HN.out.1.drew, HN.out.2.drew⟩⟩
          case measure => obtain ⟨hk1, hlt, hak⟩ := HK1.out; simp [intOf]; omega
        · have hk' : k = i1 := by omega
          subst hk'
          have g4 : ¬ (k : Int) < (k : Int) := by omega
          go_wp2_with fail
          go_end0
          obtain ⟨hR2, hk2⟩ := HK2.out
          obtain ⟨hlen, hm, ha, he⟩ := HL.out
          have hi1 := HI1.out
          have hb1 := HB.out
          refine hR'.out _ _ ⟨rfl, R.take (k - a) ++ x :: R.drop (k - a), by simpa [List.append_assoc] using hR2, ?_, ?_, hk2⟩
          · refine (put_perm x _ _).trans ?_
            rw [List.take_append_drop]; exact List.Perm.refl _
          · refine put_sorted (by rw [List.take_append_drop]; exact HH.out.sr) (fun y hy => ?_) (fun y hy => ?_)
            · obtain ⟨p, hp, hpk, e⟩ := mem_take_get hy
              exact (HI.out p y (by rw [List.getElem?_eq_getElem hp, e])).1 (by omega)
            · obtain ⟨p, hp, hpk, e⟩ := mem_drop_get hy
              exact (HI.out p y (by rw [List.getElem?_eq_getElem hp, e])).2 (by omega)
end Go.Proofs.Ytbmgmjfpoepgpaa
