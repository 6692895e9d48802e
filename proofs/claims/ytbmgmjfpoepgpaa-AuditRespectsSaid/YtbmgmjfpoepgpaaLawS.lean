/- Contracts: SameInts; the chapter's example of layer 24. -/
import Derived.Test.YtbmgmjfpoepgpaaOrdB
import Derived.Test.YtbmgmjfpoepgpaaRespB
namespace Go.Proofs.Ytbmgmjfpoepgpaa
open Go.RowKit

set_option maxRecDepth 100000 in
set_option maxHeartbeats 1000000 in
theorem same_ints {w : World} {K : Nat → Prop} {xs ys : List Int} {va vb : Value} (ha : SlAt w K 1 va xs.length (xs.map (Value.int .i64))) (hb : SlAt w K 1 vb ys.length (ys.map (Value.int .i64))) :
    Calls Try.prog 9 #[va, vb] w fun e w' => e = .returned (.bool (decide (xs = ys))) ∧ ∃ n, w.drewN n = w' := by
  have HA := hid ha
  have HB := hid hb
  obtain ⟨A, ca, rfl, h1, h2⟩ := ha.form
  obtain ⟨B, cb, rfl, h3, h4⟩ := hb.form
  unfold maxLen at h2 h4
  clear ha hb
  refine calls_hide fun R' hR' => ?_
  by_cases hl : xs.length = ys.length
  · have hbf : ((xs.length : Int) != (ys.length : Int)) = false := by simp [hl]
    have HL := hid hl
    clear hl
    go_enter Try.func9, Try.ntmps9
    go_wp2_with fail
    go_loopw [13] (fun i wr => ∃ k n : Nat, i = .int .i64 k ∧ k ≤ xs.length ∧ w.drewN n = wr ∧ xs.take k = ys.take k) (fun i _ => xs.length - (intOf i).toNat)
    case atStart => exact ⟨0, 0, rfl, Nat.zero_le _, rfl, rfl⟩
    case round =>
      obtain ⟨k, n, rfl, hk, hw, htk⟩ := hrel
      have HT := hid htk
      have HW := hid hw
      clear htk hw
      by_cases hlt : k < xs.length
      · obtain ⟨b1, o1, c1, e1, _, x1⟩ := HA.out.get k xs[k] (List.getElem?_eq_getElem hlt)
        obtain ⟨b2, o2, c2, e2, _, x2⟩ := HB.out.get k (ys[k]'(by have := HL.out; omega)) (List.getElem?_eq_getElem _)
        injection e1 with e1 _ e1'
        injection e2 with e2 _ e2'
        subst e1 e1' e2 e2'
        have y1 : wr.cell? ⟨b1, o1 + k, none⟩ = some (.int .i64 xs[k]) := by rw [← HW.out]; exact x1
        have y2 : wr.cell? ⟨b2, o2 + k, none⟩ = some (.int .i64 (ys[k]'(by have := HL.out; omega))) := by rw [← HW.out]; exact x2
        have hlt2 : k < ys.length := by have := HL.out; omega
        have i1 : (k : Int) < (xs.length : Int) := by omega
        have i2 : (k : Int) < (ys.length : Int) := by omega
        generalize hx : xs[k] = x at *
        generalize hy : ys[k] = y at *
        have HX := hid hx
        have HY := hid hy
        clear hx hy x1 x2
        by_cases hxy : x = y
        · have hb : (x != y) = false := by simp [hxy]
          have HXY := hid hxy
          clear hxy
          go_wp2_with fail
          go_quiet (fail)
          go_wp2_with fail
          go_roundw
          case rel => exact ⟨k + 1, n + nq, by go_num, by omega, by rw [← HW.out]; simp [World.drewN, Nat.add_assoc], by
            rw [List.take_succ_eq_append_getElem hlt, List.take_succ_eq_append_getElem hlt2, HT.out, HX.out, HY.out, HXY.out]⟩
          case measure => simp [intOf]; omega
        · have hb : (x != y) = true := by simp [hxy]
          have HXY := hid hxy
          clear hxy
          go_wp2_with fail
          go_quiet (fail)
          go_wp2_with fail
          refine hR'.out _ _ ⟨?_, n + nq, by rw [← HW.out]; simp [World.drewN, Nat.add_assoc]⟩
          have : xs ≠ ys := fun e => HXY.out (by rw [← HX.out, ← HY.out]; simp [e])
          simp [this]
      · have hkl : k = xs.length := by omega
        subst hkl
        go_wp2_with fail
        refine hR'.out _ _ ⟨?_, n, HW.out⟩
        have : xs = ys := by have := HT.out; rw [List.take_length, HL.out, List.take_length] at this; exact this
        simp [this]
  · have hbf : ((xs.length : Int) != (ys.length : Int)) = true := by simp; omega
    have HL := hid hl
    clear hl
    go_enter Try.func9, Try.ntmps9
    go_wp2_with fail
    refine hR'.out _ _ ⟨?_, 0, rfl⟩
    have : xs ≠ ys := fun e => HL.out (by rw [e])
    simp [this]

def intsOf (xs : List Nat) : List Int := xs.map fun (i : Nat) => (i : Int)
theorem map_iv (xs : List Nat) : xs.map iv = (intsOf xs).map (Value.int .i64) := by
  unfold intsOf; rw [List.map_map]; rfl
theorem intsOf_inj {xs ys : List Nat} (h : intsOf xs = intsOf ys) : xs = ys := by
  have : ∀ xs ys : List Nat, intsOf xs = intsOf ys → xs = ys := by
    intro xs
    induction xs with
    | nil => intro ys h; cases ys with | nil => rfl | cons y ys => simp [intsOf] at h
    | cons x xs ih =>
      intro ys h
      cases ys with
      | nil => simp [intsOf] at h
      | cons y ys =>
        simp only [intsOf, List.map_cons, List.cons.injEq] at h
        have h1 : x = y := by omega
        rw [h1, ih ys h.2]
  exact this xs ys h

theorem HistAt.of_blk {w : World} {K : Nat → Prop} {b : Nat} {l : List DoneM} (h : Blk w b (l.flatMap DoneM.cells)) (hK : K b) (hn : l.length ≤ maxLen) : HistAt w K (.slice (some ⟨b, 0, none⟩) l.length l.length) l := by
  refine ⟨_, _, rfl, Nat.le_refl _, hn, ?_, fun _ => ⟨b, 0, rfl, hK, fun j u hu => by rw [Nat.zero_add, h.cell]; exact hu⟩⟩
  have : ∀ l : List DoneM, (l.flatMap DoneM.cells).length = l.length * 13 := by
    intro l
    induction l with
    | nil => rfl
    | cons d l ih => rw [List.flatMap_cons, List.length_append, DoneM.len, ih, List.length_cons]; omega
  exact this l

def d0 : DoneM := ⟨[.int .i64 0, .int .i64 0, .int .u32 0, .slice none 0 0, .int .u32 0, .string ⟨#[]⟩, .int .i64 0, .slice none 0 0], 4, 5, 6, [.int .u32 0, .int .i64 0], rfl, rfl⟩
def d1 : DoneM := ⟨[.int .i64 0, .int .i64 0, .int .u32 0, .slice none 0 0, .int .u32 0, .string ⟨#[]⟩, .int .i64 0, .slice none 0 0], 1, 3, 3, [.int .u32 0, .int .i64 0], rfl, rfl⟩

set_option maxRecDepth 100000 in
set_option maxHeartbeats 2000000 in
theorem fixed24 (w : World) : Calls Try.prog 8 #[] w fun e w' => e = .returned (.bool true) ∧ Keeps (· < w.heap.size) w w' := by
  refine calls_hide fun R' hR' => ?_
  go_enter Try.func8, Try.ntmps8
  go_wp2_with fail
  refine calls_gen (fun w0 => Blk w0 w.heap.size ([d0, d1].flatMap DoneM.cells) ∧ Keeps (· < w.heap.size) w w0) ⟨Blk.new w ([d0, d1].flatMap DoneM.cells) _, (Keeps.refl _ _).alloc (fun b hb => hb) _⟩ (fun w0 H0 => ?_)
  obtain ⟨hb0, hk0⟩ := H0
  have hlt := hb0.lt
  have hh : ∀ W, Keeps (· < w0.heap.size) w0 W → HistAt W (· < W.heap.size) (.slice (some ⟨w.heap.size, 0, none⟩) 2 2) [d0, d1] := fun W hW =>
    HistAt.of_blk (l := [d0, d1]) (hb0.keep hW hlt) (by have := hW.size; omega) (by unfold maxLen; simp)
  have HX := hid (And.intro hk0 (And.intro hlt hh))
  generalize w.heap.size = B at *
  refine (order_call (l := [d0, d1]) (hh w0 (Keeps.refl _ _)) (fun b hb => hb) (by simp)).mono ?_
  rintro e w1 ⟨g, rfl, hs1, hk1⟩
  have es : srt (keyOf [d0, d1]) 0 2 = [1, 0] := by decide
  change SlAt w1 (· < w1.heap.size) 1 g 2 ((srt (keyOf [d0, d1]) 0 2).map iv) at hs1
  rw [es] at hs1
  have HY := hid (And.intro hs1 hk1)
  clear hb0 hk0 hlt hh hs1 hk1 es
  go_wp2_with fail
  refine calls_gen (fun W => Blk W w1.heap.size (([1, 0] : List Int).map (Value.int .i64)) ∧ Keeps (· < w1.heap.size) w1 W) ⟨Blk.new w1 (([1, 0] : List Int).map (Value.int .i64)) _, (Keeps.refl _ _).alloc (fun b hb => hb) _⟩ (fun w2 HW => ?_)
  obtain ⟨hb, hk⟩ := HW
  have hk02 : Keeps (· < w0.heap.size) w0 w2 := HY.out.2.trans (hk.mono fun b hb => by have := HY.out.2.size; omega)
  have HK2 := hid hk02
  refine (same_ints (w := w2) (K := (· < w2.heap.size)) (xs := [1, 0]) (ys := [1, 0]) ((HY.out.1.keep hk (fun b hb => hb)).mono fun b hb => by have := hk.size; omega) (SlAt.of_blk hb hb.lt (by unfold maxLen; simp))).mono ?_
  rintro e w3' ⟨rfl, n3, rfl⟩
  have e1 : decide (([1, 0] : List Int) = [1, 0]) = true := by decide
  rw [e1]
  have hk03 : Keeps (· < w0.heap.size) w0 (w2.drewN n3) := hk02.drewN n3
  clear hb hk hk02 HY HK2
  generalize w2.drewN n3 = w3 at *
  have HK3 := hid hk03
  clear hk03
  go_wp2_with fail
  refine calls_gen (fun W => Blk W w3.heap.size (([0, 1] : List Int).map (Value.int .i64)) ∧ Keeps (· < w3.heap.size) w3 W) ⟨Blk.new w3 (([0, 1] : List Int).map (Value.int .i64)) _, (Keeps.refl _ _).alloc (fun b hb => hb) _⟩ (fun w4 HW => ?_)
  obtain ⟨hb, hk⟩ := HW
  have hk04 : Keeps (· < w0.heap.size) w0 w4 := HK3.out.trans (hk.mono fun b hb => by have := HK3.out.size; omega)
  have hA1 : ¬ Aud [d0, d1] [0, 1] := fun h => (h.2 1 (by decide)).2 0 1 0 (by decide) rfl rfl (by decide)
  refine (@resp_call w4 (· < w4.heap.size) (· < w4.heap.size) _ _ [d0, d1] [0, 1] (HX.out.2.2 w4 hk04) (fun b hb => hb) (SlAt.of_blk hb hb.lt (by unfold maxLen; simp)) (fun b hb => hb) (by simp) (by simp) (isFalse hA1)).mono ?_
  rintro e w5 ⟨rfl, hk5⟩
  have hk05 : Keeps (· < w0.heap.size) w0 w5 := hk04.trans (hk5.mono fun b hb => by have := hk04.size; omega)
  have HK5 := hid hk05
  have e2 : @decide (Aud [d0, d1] [0, 1]) (isFalse hA1) = false := rfl
  rw [e2]
  clear hb hk hk04 hk5 hk05 HK3 e2
  go_wp2_with fail
  refine calls_gen (fun W => Blk W w5.heap.size (([1, 0] : List Int).map (Value.int .i64)) ∧ Keeps (· < w5.heap.size) w5 W) ⟨Blk.new w5 (([1, 0] : List Int).map (Value.int .i64)) _, (Keeps.refl _ _).alloc (fun b hb => hb) _⟩ (fun w6 HW => ?_)
  obtain ⟨hb, hk⟩ := HW
  have hk06 : Keeps (· < w0.heap.size) w0 w6 := HK5.out.trans (hk.mono fun b hb => by have := HK5.out.size; omega)
  have hA2 : Aud [d0, d1] [1, 0] := by
    refine ⟨rfl, fun k hk => ?_⟩
    rcases k with _ | _ | k
    · exact ⟨⟨1, rfl, by decide, by decide⟩, fun u i j hu => by omega⟩
    · refine ⟨⟨0, rfl, by decide, by decide⟩, fun u i j hu hi hj => ?_⟩
      obtain rfl : u = 0 := by omega
      have h1 : (0 : Int) = (i : Int) := by simpa using hi
      have h2 : (1 : Int) = (j : Int) := by simpa using hj
      obtain rfl : i = 0 := by omega
      obtain rfl : j = 1 := by omega
      decide
    · have hk' : k + 1 + 1 < 2 := hk
      omega
  refine (@resp_call w6 (· < w6.heap.size) (· < w6.heap.size) _ _ [d0, d1] [1, 0] (HX.out.2.2 w6 hk06) (fun b hb => hb) (SlAt.of_blk hb hb.lt (by unfold maxLen; simp)) (fun b hb => hb) (by simp) (by simp) (isTrue hA2)).mono ?_
  rintro e w7 ⟨rfl, hk7⟩
  have hk07 : Keeps (· < w0.heap.size) w0 w7 := hk06.trans (hk7.mono fun b hb => by have := hk06.size; omega)
  have HK7 := hid hk07
  have e2 : @decide (Aud [d0, d1] [1, 0]) (isTrue hA2) = true := rfl
  rw [e2]
  clear hb hk hk06 hk7 hk07 HK5 e2
  go_wp2_with fail
  exact hR'.out _ _ ⟨rfl, HX.out.1.trans (HK7.out.mono fun b hb => by have := HX.out.2.1; omega)⟩
end Go.Proofs.Ytbmgmjfpoepgpaa
