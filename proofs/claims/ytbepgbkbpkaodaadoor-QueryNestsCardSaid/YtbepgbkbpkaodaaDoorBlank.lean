/- QueryBlanks: the walk. -/
import Derived.Test.YtbepgbkbpkaodaaDoorBlankP
namespace Go.Proofs.YtbepgbkbpkaodaaDoor
open Go.RowKit

theorem extract_sub (l : List UInt8) (n : Nat) : (∀ c ∈ ((⟨l.toArray⟩ : ByteArray).extract 0 n).data.toList, c ∈ l) ∧ ((⟨l.toArray⟩ : ByteArray).extract 0 n).size ≤ l.length := by
  have e : ((⟨l.toArray⟩ : ByteArray).extract 0 n).data.toList = l.take n := by simp
  constructor
  · intro c hc
    rw [e] at hc
    exact List.mem_of_mem_take hc
  · rw [← bsize, e, List.length_take]; omega
/-- two readings of one result -/
theorem QV.both {w : World} {K1 K2 : Nat → Prop} {r : Except Int (Nd × Int × Int)} {xs ys : List Value} {e1 e2 : Int} (h1 : QV w K1 r xs e1) (h2 : QV w K2 r ys e2) : e1 = e2 ∧ ∃ n li o x0 x1 x2 x3 y0 y1 y2 y3, xs = [x0, x1, x2, x3, .int .i64 li, .int .i64 o] ∧ ys = [y0, y1, y2, y3, .int .i64 li, .int .i64 o] ∧ NodeV w K1 n [x0, x1, x2, x3] ∧ NodeV w K2 n [y0, y1, y2, y3] := by
  cases r with
  | error k =>
    obtain ⟨rfl, rfl⟩ := h1
    obtain ⟨rfl, rfl⟩ := h2
    exact ⟨rfl, _, _, _, _, _, _, _, _, _, _, _, rfl, rfl, zero_node _ _, zero_node _ _⟩
  | ok x =>
    obtain ⟨n, li, o⟩ := x
    obtain ⟨rfl, x0, x1, x2, x3, rfl, hx⟩ := h1
    obtain ⟨rfl, y0, y1, y2, y3, rfl, hy⟩ := h2
    exact ⟨rfl, _, _, _, _, _, _, _, _, _, _, _, rfl, rfl, hx, hy⟩
set_option maxRecDepth 100000 in
set_option maxHeartbeats 4000000 in
theorem law17_blanks (s : ByteArray) (k : Int) (hk : 0 ≤ k ∧ k ≤ 255) (w : World) (hT : FoldTab w) : Calls Tryd.prog 3 #[.string s, .int .u8 k] w fun e w' => e = .returned (.bool true) ∧ Keeps (· < w.heap.size) w w' := by
  have HT := hid hT
  clear hT
  refine calls_hide fun R' hR' => ?_
  go_enter Tryd.func3, Tryd.ntmps3
  by_cases h2 : 200 < s.size
  · have h2I : 200 < (s.size : Int) := by omega
    go_wp2_with fail
    refine (law17_fixed w HT.out).mono ?_
    rintro e w2 ⟨rfl, hk2⟩
    have Hk2 := hid hk2
    clear hk2
    go_wp2_with fail
    exact hR'.out _ _ ⟨rfl, Hk2.out⟩
  · have h2I : ¬ 200 < (s.size : Int) := by omega
    go_wp2_with fail
    go_quiet (fail)
    have hA := extract_sub [32, 9, 10] (k % 4).toNat
    have hB := extract_sub [13, 32, 9] (k / 4 % 4).toNat
    generalize (⟨[32, 9, 10].toArray⟩ : ByteArray).extract 0 (k % 4).toNat = sa at *
    generalize (⟨[13, 32, 9].toArray⟩ : ByteArray).extract 0 (k / 4 % 4).toNat = sb at *
    have hps : parseS (sa ++ s ++ sb) = parseS s := by
      refine parse_blanks sa sb s (fun c hc => ?_) (fun c hc => ?_) (by have h1 := hA.2; have h2 := hB.2; simp only [List.length_cons, List.length_nil] at h1 h2; omega)
      · have := hA.1 c hc
        simp only [List.mem_cons, List.not_mem_nil, or_false] at this
        rcases this with rfl | rfl | rfl <;> exact ⟨by decide, by decide⟩
      · have := hB.1 c hc
        simp only [List.mem_cons, List.not_mem_nil, or_false] at this
        rcases this with rfl | rfl | rfl <;> exact ⟨by decide, by decide⟩
    have hsa : sa.size ≤ 3 := hA.2
    have hsb : sb.size ≤ 3 := hB.2
    clear hA hB
    have hk0 : Keeps (· < w.heap.size) w (w.drewN nq) := (Keeps.refl _ _).drewN nq
    have hT1 := HT.out.keep hk0
    have Hps := hid hps
    have Hk0 := hid hk0
    have HT1 := hid hT1
    clear hps hk0 hT1
    go_wp2_with fail
    refine (query_parseQ s _ HT1.out).mono ?_
    rintro e w1 ⟨k1, f1, A1, n1, c1, A2, n2, c2, li, o, er, rfl, hQ, hk1⟩
    have hs1 := hk1.size
    have hka : Keeps (· < w1.heap.size) w1 (w1.alloc (.cells #[.int .i64 k1, .int .u8 f1, .slice A1 n1 c1, .slice A2 n2 c2, .int .i64 li, .int .i64 o] 28)) := (Keeps.refl _ _).alloc (fun b hb => hb) _
    have hkk := (Hk0.out.trans (hk1.mono fun b hb => Nat.lt_of_lt_of_le hb Hk0.out.size)).trans (hka.mono fun b hb => Nat.lt_of_lt_of_le (Nat.lt_of_lt_of_le hb Hk0.out.size) hs1)
    have hQ1 := hQ.keep (hka.mono fun b hb => hb.2) (K' := fun x => w.heap.size ≤ x ∧ x < w1.heap.size) (fun b hb => ⟨Nat.le_trans Hk0.out.size hb.1, hb.2⟩)
    have hBq := Blk.new w1 [.int .i64 k1, .int .u8 f1, .slice A1 n1 c1, .slice A2 n2 c2, .int .i64 li, .int .i64 o] 28
    have hT2 := HT.out.keep hkk
    clear hQ hk1 hka HT1 Hk0
    have Hkk := hid hkk
    have HQ1 := hid hQ1
    have HBq := hid hBq
    have HT2 := hid hT2
    clear hkk hQ1 hBq hT2
    go_wp2_with fail
    refine (query_parseQ _ _ HT2.out).mono ?_
    rintro e w2 ⟨k2, f2, A3, n3, c3, A4, n4, c4, li2, o2, er2, rfl, hQ, hk2⟩
    rw [Hps.out] at hQ
    have hs2 := hk2.size
    rw [World.size_alloc] at hs2
    have hka : Keeps (· < w2.heap.size) w2 (w2.alloc (.cells #[.int .i64 k2, .int .u8 f2, .slice A3 n3 c3, .slice A4 n4 c4, .int .i64 li2, .int .i64 o2] 28)) := (Keeps.refl _ _).alloc (fun b hb => hb) _
    have hk2a := hk2.trans (hka.mono fun b hb => by rw [World.size_alloc] at hb; omega)
    have hkw := Hkk.out.trans (hk2a.mono fun b hb => Nat.lt_of_lt_of_le hb Hkk.out.size)
    have hQ2 := HQ1.out.keep (hk2a.mono fun b hb => by rw [World.size_alloc]; have := hb.2; omega) (K' := fun x => x < w2.heap.size) (fun b hb => by have := hb.2; omega)
    have hQ3 := hQ.keep (hka.mono fun b hb => hb.2) (K' := fun x => x < w2.heap.size) (fun b hb => hb.2)
    have hB1 := HBq.out.keep hk2a HBq.out.lt
    have hB2 := Blk.new w2 [.int .i64 k2, .int .u8 f2, .slice A3 n3 c3, .slice A4 n4 c4, .int .i64 li2, .int .i64 o2] 28
    have hT3 := HT.out.keep hkw
    clear hQ hk2 hka hk2a HT2 Hkk HQ1 HBq
    have Hkw := hid hkw
    have HQ2 := hid hQ2
    have HQ3 := hid hQ3
    have HB1 := hid hB1
    have HB2 := hid hB2
    have HT3 := hid hT3
    clear hkw hQ2 hQ3 hB1 hB2 hT3
    go_wp2_with fail
    refine (law17_fixed _ HT3.out).mono ?_
    rintro e w3 ⟨rfl, hk3⟩
    have hkx := Hkw.out.trans (hk3.mono fun b hb => Nat.lt_of_lt_of_le hb Hkw.out.size)
    have hs3 := hk3.size
    rw [World.size_alloc] at hs3
    have hQ4 := HQ2.out.keep (hk3.mono fun b hb => by rw [World.size_alloc]; omega) (K' := fun x => x < w2.heap.size) (fun b hb => hb)
    have hQ5 := HQ3.out.keep (hk3.mono fun b hb => by rw [World.size_alloc]; omega) (K' := fun x => x < w2.heap.size) (fun b hb => hb)
    have hB3 := HB1.out.keep hk3 HB1.out.lt
    have hB4 := HB2.out.keep hk3 HB2.out.lt
    clear HQ2 HQ3 HB1 HB2 hk3 HT3 Hkw
    obtain ⟨rfl, n, li', o', x0, x1, x2, x3, y0, y1, y2, y3, ex, ey, hN1, hN2⟩ := hQ4.both hQ5
    simp only [List.cons.injEq, Value.int.injEq, true_and, and_true] at ex ey
    obtain ⟨rfl, rfl, rfl, rfl, rfl, rfl⟩ := ex
    obtain ⟨rfl, rfl, rfl, rfl, rfl, rfl⟩ := ey
    have heq : (er == er) = true := by simp
    have y0 := (hB3).cell 0
    have y1 := (hB3).cell 1
    have y2 := (hB3).cell 2
    have y3 := (hB3).cell 3
    have y4 := (hB3).cell 4
    have y5 := (hB3).cell 5
    simp only [List.getElem?_cons_zero, List.getElem?_cons_succ] at y0 y1 y2 y3 y4 y5
    have z0 := (hB4).cell 0
    have z1 := (hB4).cell 1
    have z2 := (hB4).cell 2
    have z3 := (hB4).cell 3
    have z4 := (hB4).cell 4
    have z5 := (hB4).cell 5
    simp only [List.getElem?_cons_zero, List.getElem?_cons_succ] at z0 z1 z2 z3 z4 z5
    clear hQ4 hQ5 hB3 hB4
    have Hkx := hid hkx
    have HN1 := hid hN1
    have HN2 := hid hN2
    clear hkx hN1 hN2
    go_wp2_with fail
    refine (ref17_sameQ n _ _ w3 (fun x => x < w2.heap.size) (fun x => x < w2.heap.size) _ _ _ _ _ _ _ _ (fun b hb => by omega) (fun b hb => by omega) HN1.out HN2.out).mono ?_
    rintro e w4 ⟨rfl, hk4⟩
    have hk9 := Hkx.out.trans (hk4.mono fun b hb => Nat.lt_of_lt_of_le hb Hkx.out.size)
    clear hk4 y0 y1 y2 y3 y4 y5 z0 z1 z2 z3 z4 z5
    have Hk9 := hid hk9
    clear hk9
    go_wp2_with fail
    exact hR'.out _ _ ⟨rfl, Hk9.out⟩
end Go.Proofs.YtbepgbkbpkaodaaDoor
