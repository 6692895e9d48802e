/- Layer 17 (query): the chapter's examples, of the parse alone. -/
import Derived.Test.YtbepgbkbpkaodaaDoorSamA
import Derived.KernelRfl
namespace Go.Proofs.YtbepgbkbpkaodaaDoor
open Go.RowKit

def exA : Nd := .mk 3 0 [] [.mk 2 0 [] [.mk 1 0 [(0, ⟨#[102, 111, 120]⟩, 0)] [], .mk 1 0 [(0, ⟨#[100, 111, 103]⟩, 0)] []], .mk 1 1 [(1, ⟨#[99, 97, 116]⟩, 0)] []]
def exB : Nd := .mk 1 0 [(0, ⟨#[102, 111, 120]⟩, 0)] []
theorem parseA : parseS ⟨#[102, 111, 120, 32, 100, 111, 103, 32, 124, 32, 49, 58, 99, 97, 116]⟩ = .ok (exA, 10, 0) := by kernel_rfl
theorem parseB : parseS ⟨#[34, 116, 104, 101, 32, 102, 111, 120, 34]⟩ = .ok (exB, 10, 0) := by kernel_rfl
theorem parseC : parseS ⟨#[102, 111, 120, 32, 35, 54, 53]⟩ = .error 8 := by kernel_rfl
theorem parseD : parseS ⟨#[40, 40, 40, 40, 40, 40, 40, 40, 40, 102, 111, 120]⟩ = .error 9 := by kernel_rfl

/-- a query, or none: its cells, and what they lead to -/
def QV (w : World) (K : Nat → Prop) : Except Int (Nd × Int × Int) → List Value → Int → Prop
  | .ok (n, li, o), xs, e => e = 0 ∧ ∃ x0 x1 x2 x3, xs = [x0, x1, x2, x3, .int .i64 li, .int .i64 o] ∧ NodeV w K n [x0, x1, x2, x3]
  | .error k, xs, e => e = k ∧ xs = [.int .i64 0, .int .u8 0, .slice none 0 0, .slice none 0 0, .int .i64 0, .int .i64 0]
theorem QV.keep {w w' : World} {K K' : Nat → Prop} {r : Except Int (Nd × Int × Int)} {xs : List Value} {e : Int} (h : QV w K r xs e) (k : Keeps K w w') (hK : ∀ b, K b → K' b) : QV w' K' r xs e := by
  cases r with
  | error _ => exact h
  | ok x =>
    obtain ⟨n, li, o⟩ := x
    obtain ⟨h1, x0, x1, x2, x3, h2, h3⟩ := h
    exact ⟨h1, x0, x1, x2, x3, h2, h3.keep k hK⟩
theorem QV.form {w : World} {K : Nat → Prop} {r : Except Int (Nd × Int × Int)} {xs : List Value} {e : Int} (h : QV w K r xs e) : ∃ k f A1 n1 c1 A2 n2 c2 li o, xs = [.int .i64 k, .int .u8 f, .slice A1 n1 c1, .slice A2 n2 c2, .int .i64 li, .int .i64 o] := by
  cases r with
  | error k => exact ⟨_, _, _, _, _, _, _, _, _, _, h.2⟩
  | ok x =>
    obtain ⟨n, li, o⟩ := x
    obtain ⟨h1, x0, x1, x2, x3, h2, h3⟩ := h
    obtain ⟨k, f, A1, n1, c1, A2, n2, c2, e⟩ := h3.form
    simp only [List.cons.injEq] at e
    obtain ⟨rfl, rfl, rfl, rfl, _⟩ := e
    exact ⟨_, _, _, _, _, _, _, _, _, _, h2⟩
theorem query_parseQ (s : ByteArray) (w : World) (hT : FoldTab w) : Calls Tryd.prog 9 #[.string s] w fun e w' => ∃ k f A1 n1 c1 A2 n2 c2 li o er, e = .returned (.tuple #[.agg #[.int .i64 k, .int .u8 f, .slice A1 n1 c1, .slice A2 n2 c2, .int .i64 li, .int .i64 o], .int .i64 er]) ∧ QV w' (fun x => w.heap.size ≤ x ∧ x < w'.heap.size) (parseS s) [.int .i64 k, .int .u8 f, .slice A1 n1 c1, .slice A2 n2 c2, .int .i64 li, .int .i64 o] er ∧ Keeps (· < w.heap.size) w w' := by
  refine (query_parse s w hT).mono ?_
  rintro e w' ⟨h, hk⟩
  cases hp : parseS s with
  | error k =>
    rw [hp] at h
    exact ⟨_, _, _, _, _, _, _, _, _, _, _, h, ⟨rfl, rfl⟩, hk⟩
  | ok x =>
    obtain ⟨n, li, o⟩ := x
    rw [hp] at h
    obtain ⟨x0, x1, x2, x3, rfl, hn⟩ := h
    obtain ⟨k, f, A1, n1, c1, A2, n2, c2, e⟩ := hn.form
    simp only [List.cons.injEq] at e
    obtain ⟨rfl, rfl, rfl, rfl, _⟩ := e
    exact ⟨_, _, _, _, _, _, _, _, _, _, _, rfl, ⟨rfl, _, _, _, _, rfl, hn⟩, hk⟩

set_option maxRecDepth 100000 in
set_option maxHeartbeats 2000000 in
theorem ref17_sameQ (n : Nd) (li o : Int) (w : World) (K1 K2 : Nat → Prop) (x0 x1 x2 x3 y0 y1 y2 y3 : Value) (hb1 : ∀ b, K1 b → b < w.heap.size) (hb2 : ∀ b, K2 b → b < w.heap.size) (h1 : NodeV w K1 n [x0, x1, x2, x3]) (h2 : NodeV w K2 n [y0, y1, y2, y3]) :
    Calls Tryd.prog 10 #[.agg #[x0, x1, x2, x3, .int .i64 li, .int .i64 o], .agg #[y0, y1, y2, y3, .int .i64 li, .int .i64 o]] w fun e w' => e = .returned (.bool true) ∧ Keeps (· < w.heap.size) w w' := by
  obtain ⟨k, f, A1, n1, c1, A2, n2, c2, e⟩ := h1.form
  simp only [List.cons.injEq] at e
  obtain ⟨rfl, rfl, rfl, rfl, _⟩ := e
  obtain ⟨k2, f2, A3, n3, c3, A4, n4, c4, e⟩ := h2.form
  simp only [List.cons.injEq] at e
  obtain ⟨rfl, rfl, rfl, rfl, _⟩ := e
  have g1 : (li == li) = true := by simp
  have g2 : (o == o) = true := by simp
  have hkw : Keeps (· < w.heap.size) w ((w.alloc (.cells #[.int .i64 k, .int .u8 f, .slice A1 n1 c1, .slice A2 n2 c2, .int .i64 li, .int .i64 o] 28)).alloc (.cells #[.int .i64 k2, .int .u8 f2, .slice A3 n3 c3, .slice A4 n4 c4, .int .i64 li, .int .i64 o] 28)) := ((Keeps.refl _ _).alloc (fun b hb => hb) _).alloc (fun b hb => by simp; omega) _
  have Hkw := hid hkw
  have H1 := hid h1
  have H2 := hid h2
  clear hkw h1 h2
  refine calls_hide fun R' hR' => ?_
  go_enter Tryd.func10, Tryd.ntmps10
  go_wp2_with fail
  have hs := Hkw.out.size
  refine (ref17_same _ n (Nat.le_refl _) _ K1 K2 _ _ _ _ _ _ _ _ (fun b hb => Nat.lt_of_lt_of_le (hb1 b hb) hs) (fun b hb => Nat.lt_of_lt_of_le (hb2 b hb) hs) (H1.out.keepK Hkw.out hb1) (H2.out.keepK Hkw.out hb2)).mono ?_
  rintro e w2 ⟨rfl, hk⟩
  have hk9 := Hkw.out.trans (hk.mono fun b hb => by omega)
  have Hk9 := hid hk9
  clear hk9
  go_wp2_with fail
  exact hR'.out _ _ ⟨rfl, Hk9.out⟩
theorem zero_node (w : World) (K : Nat → Prop) : NodeV w K (.mk 0 0 [] []) [.int .i64 0, .int .u8 0, .slice none 0 0, .slice none 0 0] :=
  NodeV.mk 0 0 [] [] [] _ _ ⟨none, 0, rfl, Nat.le_refl _, Nat.zero_le _, rfl, fun h => absurd h (Nat.lt_irrefl _)⟩ ⟨none, 0, rfl, Nat.le_refl _, Nat.zero_le _, rfl, fun h => absurd h (Nat.lt_irrefl _)⟩ rfl (fun i n cs h _ => by simp at h)
end Go.Proofs.YtbepgbkbpkaodaaDoor
