/- Layer 17 (query): the chapter's examples, of the parse alone. -/
import Derived.Test.YtbepgbkbpkaodaaDoorSamA
import Derived.KernelRfl
namespace Go.Proofs.YtbepgbkbpkaodaaDoor
open Go.RowKit

def exA : Nd := .mk 3 0 [] [.mk 2 0 [] [.mk 1 0 [(0, ⟨#[102, 111, 120]⟩, 0)] [], .mk 1 0 [(0, ⟨#[100, 111, 103]⟩, 0)] []], .mk 1 1 [(1, ⟨#[99, 97, 116]⟩, 0)] []]
def exB : Nd := .mk 1 0 [(0, ⟨#[102, 111, 120]⟩, 0)] []
theorem parseA : parseS ⟨#[102, 111, 120, 32, 100, 111, 103, 32, 124, 32, 49, 58, 99, 97, 116]⟩ = .ok (exA, 10, 0) := by kernel_rfl
theorem parseB : parseS ⟨#[34, 116, 104, 101, 32, 102, 111, 120, 34]⟩ = .ok (exB, 10, 0) := by kernel_rfl
theorem parseC : parseS ⟨#[102, 111, 120, 32, 35, 54, 53]⟩ = .error 8 := by kernel_rfl
theorem parseD : parseS ⟨#[40, 40, 40, 40, 40, 40, 40, 40, 40, 102, 111, 120]⟩ = .error 9 := by kernel_rfl

/-- a query, or none: its cells, and what they lead to -/
def QV (w : World) (K : Nat → Prop) : Except Int (Nd × Int × Int) → List Value → Int → Prop
  | .ok (n, li, o), xs, e => e = 0 ∧ ∃ x0 x1 x2 x3, xs = [x0, x1, x2, x3, .int .i64 li, .int .i64 o] ∧ NodeV w K n [x0, x1, x2, x3]
  | .error k, xs, e => e = k ∧ xs = [.int .i64 0, .int .u8 0, .slice none 0 0, .slice none 0 0, .int .i64 0, .int .i64 0]
theorem QV.keep {w w' : World} {K K' : Nat → Prop} {r : Except Int (Nd × Int × Int)} {xs : List Value} {e : Int} (h : QV w K r xs e) (k : Keeps K w w') (hK : ∀ b, K b → K' b) : QV w' K' r xs e := by
  cases r with
  | error _ => exact h
  | ok x =>
    obtain ⟨n, li, o⟩ := x
    obtain ⟨h1, x0, x1, x2, x3, h2, h3⟩ := h
    exact ⟨h1, x0, x1, x2, x3, h2, h3.keep k hK⟩
theorem QV.form {w : World} {K : Nat → Prop} {r : Except Int (Nd × Int × Int)} {xs : List Value} {e : Int} (h : QV w K r xs e) : ∃ k f A1 n1 c1 A2 n2 c2 li o, xs = [.int .i64 k, .int .u8 f, .slice A1 n1 c1, .slice A2 n2 c2, .int .i64 li, .int .i64 o] := by
  cases r with
  | error k => exact ⟨_, _, _, _, _, _, _, _, _, _, h.2⟩
  | ok x =>
    obtain ⟨n, li, o⟩ := x
    obtain ⟨h1, x0, x1, x2, x3, h2, h3⟩ := h
    obtain ⟨k, f, A1, n1, c1, A2, n2, c2, e⟩ := h3.form
    simp only [List.cons.injEq] at e
    obtain ⟨rfl, rfl, rfl, rfl, _⟩ := e
    exact ⟨_, _, _, _, _, _, _, _, _, _, h2⟩
theorem query_parseQ (s : ByteArray) (w : World) (hT : FoldTab w) : Calls Tryd.prog 9 #[.string s] w fun e w' => ∃ k f A1 n1 c1 A2 n2 c2 li o er, e = .returned (.tuple #[.agg #[.int .i64 k, .int .u8 f, .slice A1 n1 c1, .slice A2 n2 c2, .int .i64 li, .int .i64 o], .int .i64 er]) ∧ QV w' (fun x => w.heap.size ≤ x ∧ x < w'.heap.size) (parseS s) [.int .i64 k, .int .u8 f, .slice A1 n1 c1, .slice A2 n2 c2, .int .i64 li, .int .i64 o] er ∧ Keeps (· < w.heap.size) w w' := by
  refine (query_parse s w hT).mono ?_
  rintro e w' ⟨h, hk⟩
  cases hp : parseS s with
  | error k =>
    rw [hp] at h
    exact ⟨_, _, _, _, _, _, _, _, _, _, _, h, ⟨rfl, rfl⟩, hk⟩
  | ok x =>
    obtain ⟨n, li, o⟩ := x
    rw [hp] at h
    obtain ⟨x0, x1, x2, x3, rfl, hn⟩ := h
    obtain ⟨k, f, A1, n1, c1, A2, n2, c2, e⟩ := hn.form
    simp only [List.cons.injEq] at e
    obtain ⟨rfl, rfl, rfl, rfl, _⟩ := e
    exact ⟨_, _, _, _, _, _, _, _, _, _, _, rfl, ⟨rfl, _, _, _, _, rfl, hn⟩, hk⟩

set_option maxRecDepth 100000 in
set_option maxHeartbeats 2000000 in
theorem ref17_sameQ (n : Nd) (li o : Int) (w : World) (K1 K2 : Nat → Prop) (x0 x1 x2 x3 y0 y1 y2 y3 : Value) (hb1 : ∀ b, K1 b → b < w.heap.size) (hb2 : ∀ b, K2 b → b < w.heap.size) (h1 : NodeV w K1 n [x0, x1, x2, x3]) (h2 : NodeV w K2 n [y0, y1, y2, y3]) :
    Calls Tryd.prog 10 #[.agg #[x0, x1, x2, x3, .int .i64 li, .int .i64 o], .agg #[y0, y1, y2, y3, .int .i64 li, .int .i64 o]] w fun e w' => e = .returned (.bool true) ∧ Keeps (· < w.heap.size) w w' := by
  obtain ⟨k, f, A1, n1, c1, A2, n2, c2, e⟩ := h1.form
  simp only [List.cons.injEq] at e
  obtain ⟨rfl, rfl, rfl, rfl, _⟩ := e
  obtain ⟨k2, f2, A3, n3, c3, A4, n4, c4, e⟩ := h2.form
  simp only [List.cons.injEq] at e
  obtain ⟨rfl, rfl, rfl, rfl, _⟩ := e
  have g1 : (li == li) = true := by simp
  have g2 : (o == o) = true := by simp
  have hkw : Keeps (· < w.heap.size) w ((w.alloc (.cells #[.int .i64 k, .int .u8 f, .slice A1 n1 c1, .slice A2 n2 c2, .int .i64 li, .int .i64 o] 28)).alloc (.cells #[.int .i64 k2, .int .u8 f2, .slice A3 n3 c3, .slice A4 n4 c4, .int .i64 li, .int .i64 o] 28)) := ((Keeps.refl _ _).alloc (fun b hb => hb) _).alloc (fun b hb => by simp; omega) _
  have Hkw := hid hkw
  have H1 := hid h1
  have H2 := hid h2
  clear hkw h1 h2
  refine calls_hide fun R' hR' => ?_
  go_enter Tryd.func10, Tryd.ntmps10
  go_wp2_with fail
  have hs := Hkw.out.size
  refine (ref17_same _ n (Nat.le_refl _) _ K1 K2 _ _ _ _ _ _ _ _ (fun b hb => Nat.lt_of_lt_of_le (hb1 b hb) hs) (fun b hb => Nat.lt_of_lt_of_le (hb2 b hb) hs) (H1.out.keepK Hkw.out hb1) (H2.out.keepK Hkw.out hb2)).mono ?_
  rintro e w2 ⟨rfl, hk⟩
  have hk9 := Hkw.out.trans (hk.mono fun b hb => by omega)
  have Hk9 := hid hk9
  clear hk9
  go_wp2_with fail
  exact hR'.out _ _ ⟨rfl, Hk9.out⟩
theorem zero_node (w : World) (K : Nat → Prop) : NodeV w K (.mk 0 0 [] []) [.int .i64 0, .int .u8 0, .slice none 0 0, .slice none 0 0] :=
  NodeV.mk 0 0 [] [] [] _ _ ⟨none, 0, rfl, Nat.le_refl _, Nat.zero_le _, rfl, fun h => absurd h (Nat.lt_irrefl _)⟩ ⟨none, 0, rfl, Nat.le_refl _, Nat.zero_le _, rfl, fun h => absurd h (Nat.lt_irrefl _)⟩ rfl (fun i n cs h _ => by simp at h)
end Go.Proofs.YtbepgbkbpkaodaaDoor

/- Layer 17's statements: fixed. -/
namespace Go.Proofs.YtbepgbkbpkaodaaDoor
open Go.RowKit

theorem exA_cells {w : World} {K : Nat → Prop} {k f : Int} {A1 A2 : Option Addr} {n1 c1 n2 c2 : Nat} (h : NodeV w K exA [.int .i64 k, .int .u8 f, .slice A1 n1 c1, .slice A2 n2 c2]) :
    k = 3 ∧ n2 = 2 ∧ ∃ b off, A2 = some ⟨b, off, none⟩ ∧ K b ∧ w.cell? ⟨b, off, none⟩ = some (.int .i64 2) ∧ w.cell? ⟨b, off + 4 + 1, none⟩ = some (.int .u8 1) := by
  unfold exA at h
  cases h with
  | mk _ _ _ _ css v1 v2 h1 h2 hl hk =>
    obtain ⟨A, cap, e, _, _, _, h5⟩ := h2
    injection e with e1 e2 e3
    obtain ⟨b, off, e4, hb, hc⟩ := h5 (by decide)
    match css, hl with
    | [cs0, cs1], _ =>
      have q0 := hk 0 _ cs0 rfl rfl
      have q1 := hk 1 _ cs1 rfl rfl
      have hl0 := q0.len
      cases q0 with
      | mk _ _ _ _ _ _ _ _ _ _ _ =>
      cases q1 with
      | mk _ _ _ _ _ _ _ _ _ _ _ =>
      exact ⟨rfl, e2, b, off, e1.trans e4, hb, hc 0 _ rfl, hc 5 _ rfl⟩
theorem exB_cells {w : World} {K : Nat → Prop} {k f : Int} {A1 A2 : Option Addr} {n1 c1 n2 c2 : Nat} (h : NodeV w K exB [.int .i64 k, .int .u8 f, .slice A1 n1 c1, .slice A2 n2 c2]) :
    n1 = 1 ∧ SlAt w K 3 (.slice A1 1 c1) 1 (tokG (0, ⟨#[102, 111, 120]⟩, 0)) := by
  unfold exB at h
  cases h with
  | mk _ _ _ _ css v1 v2 h1 h2 hl hk =>
    obtain ⟨A, cap, e, _, _, _, _⟩ := id h1
    injection e with e1 e2 e3
    have e2 : n1 = 1 := e2
    subst e2
    exact ⟨rfl, h1⟩
set_option maxRecDepth 100000 in
set_option maxHeartbeats 4000000 in
theorem law17_fixed (w : World) (hT : FoldTab w) : Calls Tryd.prog 8 #[] w fun e w' => e = .returned (.bool true) ∧ Keeps (· < w.heap.size) w w' := by
  have HT := hid hT
  clear hT
  refine calls_hide fun R' hR' => ?_
  go_enter Tryd.func8, Tryd.ntmps8
  go_wp2_with fail
  refine (query_parseQ _ w HT.out).mono ?_
  rintro e w1 ⟨k, f, A1, n1, c1, A2, n2, c2, li, o, er, rfl, hQ, hk1⟩
  rw [parseA] at hQ
  obtain ⟨rfl, x0, x1, x2, x3, he, hN⟩ := hQ
  simp only [List.cons.injEq, Value.int.injEq, true_and, and_true] at he
  obtain ⟨rfl, rfl, rfl, rfl, rfl, rfl⟩ := he
  obtain ⟨rfl, rfl, b, off, rfl, hKb, hc0, hc1⟩ := exA_cells hN
  have hs1 := hk1.size
  obtain ⟨qa, hqa⟩ : ∃ q, q = [Value.int .i64 3, .int .u8 f, .slice A1 n1 c1, .slice (some ⟨b, off, none⟩) 2 c2, .int .i64 10, .int .i64 0] := ⟨_, rfl⟩
  have hk1a := hk1.alloc (fun x hx => Nat.lt_of_lt_of_le hx hs1) (.cells #[.int .i64 3, .int .u8 f, .slice A1 n1 c1, .slice (some ⟨b, off, none⟩) 2 c2, .int .i64 10, .int .i64 0] 28)
  have hT1 := HT.out.keep hk1a
  have hBA := Blk.new w1 [.int .i64 3, .int .u8 f, .slice A1 n1 c1, .slice (some ⟨b, off, none⟩) 2 c2, .int .i64 10, .int .i64 0] 28
  have hka : Keeps (· < w1.heap.size) w1 (w1.alloc (.cells #[.int .i64 3, .int .u8 f, .slice A1 n1 c1, .slice (some ⟨b, off, none⟩) 2 c2, .int .i64 10, .int .i64 0] 28)) := (Keeps.refl _ _).alloc (fun b hb => hb) _
  have hc0 := (World.cell?_of_block (a := ⟨b, off, none⟩) (hka.block b hKb.2)).trans hc0
  have hc1 := (World.cell?_of_block (a := ⟨b, off + 4 + 1, none⟩) (hka.block b hKb.2)).trans hc1
  clear hN hqa hka hk1
  have Hk1a := hid hk1a
  have HT1 := hid hT1
  have HBA := hid hBA
  have Hc0 := hid hc0
  have Hc1 := hid hc1
  clear hk1a hT1 hBA hc0 hc1
  go_wp2_with fail
  refine (query_parseQ _ _ HT1.out).mono ?_
  rintro e w2 ⟨k', f', B1, m1, d1, B2, m2, d2, li', o', er', rfl, hQ, hk2⟩
  rw [parseB] at hQ
  obtain ⟨rfl, x0, x1, x2, x3, he, hN⟩ := hQ
  simp only [List.cons.injEq, Value.int.injEq, true_and, and_true] at he
  obtain ⟨rfl, rfl, rfl, rfl, rfl, rfl⟩ := he
  obtain ⟨rfl, hSB⟩ := exB_cells hN
  have hs2 := hk2.size
  rw [World.size_alloc] at hs2
  have hBA := HBA.out.keep hk2 HBA.out.lt
  have hc0 := (World.cell?_of_block (a := ⟨b, off, none⟩) (hk2.block b (by simp; omega))).trans Hc0.out
  have hc1 := (World.cell?_of_block (a := ⟨b, off + 4 + 1, none⟩) (hk2.block b (by simp; omega))).trans Hc1.out
  have hk2w := Hk1a.out.trans (hk2.mono fun x hx => by simp; omega)
  clear hN HBA Hc0 Hc1 Hk1a HT1 hk2
  have hka : Keeps (· < w2.heap.size) w2 (w2.alloc (.cells #[.int .i64 k', .int .u8 f', .slice B1 1 d1, .slice B2 m2 d2, .int .i64 10, .int .i64 0] 28)) := (Keeps.refl _ _).alloc (fun b hb => hb) _
  have hk2a := hk2w.trans (hka.mono fun x hx => by omega)
  have hT2 := HT.out.keep hk2a
  have hBB := Blk.new w2 [.int .i64 k', .int .u8 f', .slice B1 1 d1, .slice B2 m2 d2, .int .i64 10, .int .i64 0] 28
  have hBA := hBA.keep hka (by omega)
  have hSB := hSB.keep hka (fun x hx => hx.2)
  have hc0 := (World.cell?_of_block (a := ⟨b, off, none⟩) (hka.block b (by omega))).trans hc0
  have hc1 := (World.cell?_of_block (a := ⟨b, off + 4 + 1, none⟩) (hka.block b (by omega))).trans hc1
  clear hka hk2w
  have Hk2a := hid hk2a
  have HT2 := hid hT2
  have HBA := hid hBA
  have HBB := hid hBB
  have HSB := hid hSB
  have Hc0 := hid hc0
  have Hc1 := hid hc1
  clear hk2a hT2 hBA hBB hSB hc0 hc1
  go_wp2_with fail
  refine (query_parseQ _ _ HT2.out).mono ?_
  rintro e w3 ⟨_, _, _, _, _, _, _, _, _, _, er3, rfl, hQ, hk3⟩
  rw [parseC] at hQ
  obtain ⟨rfl, he⟩ := hQ
  simp only [List.cons.injEq, Value.int.injEq, Value.slice.injEq, true_and, and_true] at he
  obtain ⟨rfl, rfl, ⟨rfl, rfl, rfl⟩, ⟨rfl, rfl, rfl⟩, rfl, rfl⟩ := he
  have hs3 := hk3.size
  rw [World.size_alloc] at hs3
  have hka : Keeps (· < w3.heap.size) w3 (w3.alloc (.cells #[.int .i64 0, .int .u8 0, .slice none 0 0, .slice none 0 0, .int .i64 0, .int .i64 0] 28)) := (Keeps.refl _ _).alloc (fun b hb => hb) _
  have hk3s := hk3.trans (hka.mono fun x hx => by rw [World.size_alloc] at hx; omega)
  have hBA := HBA.out.keep hk3s HBA.out.lt
  have hBB := HBB.out.keep hk3s HBB.out.lt
  have hSB := HSB.out.keep hk3s (fun x hx => by rw [World.size_alloc]; omega)
  have hc0 := (World.cell?_of_block (a := ⟨b, off, none⟩) (hk3s.block b (by rw [World.size_alloc]; omega))).trans Hc0.out
  have hc1 := (World.cell?_of_block (a := ⟨b, off + 4 + 1, none⟩) (hk3s.block b (by rw [World.size_alloc]; omega))).trans Hc1.out
  have hk3a := Hk2a.out.trans (hk3s.mono fun x hx => by rw [World.size_alloc]; omega)
  have hT3 := HT.out.keep hk3a
  clear HBA HBB HSB Hc0 Hc1 Hk2a HT2 hk3 hka hk3s
  have Hk3a := hid hk3a
  have HT3 := hid hT3
  have HBA := hid hBA
  have HBB := hid hBB
  have HSB := hid hSB
  have Hc0 := hid hc0
  have Hc1 := hid hc1
  clear hk3a hT3 hBA hBB hSB hc0 hc1
  go_wp2_with fail
  refine (query_parseQ _ _ HT3.out).mono ?_
  rintro e w4 ⟨_, _, _, _, _, _, _, _, _, _, er4, rfl, hQ, hk3⟩
  rw [parseD] at hQ
  obtain ⟨rfl, he⟩ := hQ
  simp only [List.cons.injEq, Value.int.injEq, Value.slice.injEq, true_and, and_true] at he
  obtain ⟨rfl, rfl, ⟨rfl, rfl, rfl⟩, ⟨rfl, rfl, rfl⟩, rfl, rfl⟩ := he
  have hs4 := hk3.size
  rw [World.size_alloc] at hs4
  have hka : Keeps (· < w4.heap.size) w4 (w4.alloc (.cells #[.int .i64 0, .int .u8 0, .slice none 0 0, .slice none 0 0, .int .i64 0, .int .i64 0] 28)) := (Keeps.refl _ _).alloc (fun b hb => hb) _
  have hk3s := hk3.trans (hka.mono fun x hx => by rw [World.size_alloc] at hx; omega)
  have hBA := HBA.out.keep hk3s HBA.out.lt
  have hBB := HBB.out.keep hk3s HBB.out.lt
  have hSB := HSB.out.keep hk3s (fun x hx => by rw [World.size_alloc]; omega)
  have hc0 := (World.cell?_of_block (a := ⟨b, off, none⟩) (hk3s.block b (by rw [World.size_alloc]; omega))).trans Hc0.out
  have hc1 := (World.cell?_of_block (a := ⟨b, off + 4 + 1, none⟩) (hk3s.block b (by rw [World.size_alloc]; omega))).trans Hc1.out
  have hk4a := Hk3a.out.trans (hk3s.mono fun x hx => by rw [World.size_alloc]; omega)
  clear HBA HBB HSB Hc0 Hc1 Hk3a HT3 hk3 hka hk3s
  have y0 := (hBA).cell 0
  have y1 := (hBA).cell 1
  have y2 := (hBA).cell 2
  have y3 := (hBA).cell 3
  have y4 := (hBA).cell 4
  have y5 := (hBA).cell 5
  simp only [List.getElem?_cons_zero, List.getElem?_cons_succ] at y0 y1 y2 y3 y4 y5
  have z0 := (hBB).cell 0
  have z1 := (hBB).cell 1
  have z2 := (hBB).cell 2
  have z3 := (hBB).cell 3
  have z4 := (hBB).cell 4
  have z5 := (hBB).cell 5
  simp only [List.getElem?_cons_zero, List.getElem?_cons_succ] at z0 z1 z2 z3 z4 z5
  have hlA := hBA.lt
  have hlB := hBB.lt
  clear hBA hBB
  have HSB := hid hSB
  have Hk4a := hid hk4a
  clear hSB hk4a
  go_wp2_with fail
  have hkn : Keeps (fun x => x < w2.heap.size) (w4.alloc (.cells #[.int .i64 0, .int .u8 0, .slice none 0 0, .slice none 0 0, .int .i64 0, .int .i64 0] 28)) ((w4.alloc (.cells #[.int .i64 0, .int .u8 0, .slice none 0 0, .slice none 0 0, .int .i64 0, .int .i64 0] 28)).alloc (.cells #[.int .u8 0, .string ⟨#[102, 111, 120]⟩, .int .i64 0] 42)) := (Keeps.refl _ _).alloc (fun b hb => by rw [World.size_alloc]; omega) _
  have hS1 := (HSB.out.keep hkn (fun x hx => hx.2)).mono (L := fun x => x < w2.heap.size) (fun x hx => hx.2)
  have hN1 := Blk.new' (w4.alloc (.cells #[.int .i64 0, .int .u8 0, .slice none 0 0, .slice none 0 0, .int .i64 0, .int .i64 0] 28)) [.int .u8 0, .string ⟨#[102, 111, 120]⟩, .int .i64 0] 42 (b := w4.heap.size + 1) (by simp)
  have hS2 := SlAt.of_blkS (K := fun x => x = w4.heap.size + 1) (n := 1) (sz := 3) hN1 rfl rfl (by decide)
  have hkk := Hk4a.out.alloc (fun b hb => by rw [World.size_alloc]; omega) (.cells #[.int .u8 0, .string ⟨#[102, 111, 120]⟩, .int .i64 0] 42)
  have Hkk := hid hkk
  clear hkk
  clear Hk4a HSB hkn hN1
  refine (ref6_same _ (fun x => x < w2.heap.size) (fun x => x = w4.heap.size + 1) [(0, ⟨#[102, 111, 120]⟩, 0)] B1 (some ⟨w4.heap.size + 1, 0, none⟩) d1 1 (fun b hb => by simp; omega) (fun b hb => by simp; omega) hS1 hS2).mono ?_
  rintro e w5 ⟨rfl, hk5⟩
  have hk9 := Hkk.out.trans (hk5.mono fun b hb => by simp; omega)
  clear hS1 hS2 hk5 Hkk y0 y1 y2 y3 y4 y5 z0 z1 z2 z3 z4 z5 hc0 hc1
  have Hk9 := hid hk9
  clear hk9
  go_wp2_with fail
  exact hR'.out _ _ ⟨rfl, Hk9.out⟩
end Go.Proofs.YtbepgbkbpkaodaaDoor
