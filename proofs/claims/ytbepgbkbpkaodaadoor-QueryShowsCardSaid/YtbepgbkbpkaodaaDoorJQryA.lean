/- A region that draws its order, whose operations and callees keep what lies below a mark: one walk. -/
import Derived.Test.YtbepgbkbpkaodaaDoorTokB
import Derived.BigQuiet
import Derived.Lib.Bytealg
import Derived.Laws.StandIn
namespace Go.Proofs.YtbepgbkbpkaodaaDoor
open Go.RowKit

/-- a world that keeps the blocks below the mark -/
structure KP (W : World) (N : Nat) where
  w : World
  k : Keeps (· < N) W w
instance KP.ne (W : World) (N : Nat) : Nonempty (KP W N) := ⟨⟨W, Keeps.refl _ _⟩⟩
theorem wp_region_class {P : Program} {id : Nat} {Q : Exit → Act → World → Prop} {a : Act} {w : World} {l : List Oper} (N : Nat) (hm : P.follows .mixedOrders = true) (hB : Region.lexB .any l.toArray = true)
    (h : wpQuiet P l.toArray (fun w' => ∃ p : KP w N, w' = p.w) (fun a' => ∀ w', (∃ p : KP w N, w' = p.w) → Q .normal a' w') l a) : (Code.region id l.toArray true).wp P Q a w :=
  wp_region_quiet (C := fun w' => ∃ p : KP w N, w' = p.w) hm hB ⟨⟨w.drew, (Keeps.refl _ _).drew⟩, rfl⟩ (by simpa using h)
theorem KP.calls {P : Program} {f : FuncId} {args : Array Value} {W : World} {N : Nat} (p : KP W N) {v : Value} (hN : N ≤ W.heap.size) (h : Calls P f args p.w fun e w' => e = .returned v ∧ Keeps (· < p.w.heap.size) p.w w') : Calls P f args p.w fun e w' => e = .returned v ∧ ∃ q : KP W N, w' = q.w :=
  h.mono fun _ w' ⟨he, hk⟩ => ⟨he, ⟨w', p.k.trans (hk.mono fun b hb => by have := p.k.size; omega)⟩, rfl⟩
theorem KP.cell {W : World} {N b o : Nat} {v : Value} (hb : b < N) (h : W.cell? ⟨b, o, none⟩ = some v) (p : KP W N) : p.w.cell? ⟨b, o, none⟩ = some v := (World.cell?_of_block (p.k.block b hb)).trans h
theorem KP.draw {W : World} {N : Nat} (p : KP W N) (n : Nat) : Keeps (· < p.w.heap.size) p.w (p.w.drewN n) := (Keeps.refl _ _).drewN n
end Go.Proofs.YtbepgbkbpkaodaaDoor

/- Layer 17 (query): the reader: peek, IndexByte. -/
namespace Go.Proofs.YtbepgbkbpkaodaaDoor
open Go.RowKit

/-- a reader, at a place -/
structure Rd (w : World) (b : Nat) (A : Option Addr) (c : Nat) (rs : List Int) (p : Nat) : Prop where
  blk : Blk w b [.slice A rs.length c, .int .i64 (p : Int)]
  sl : SlAt w (· < b) 1 (.slice A rs.length c) rs.length (rs.map (Value.int .i32))
  tab : FoldTab w
  glb : 0 < b ∧ 1 < b ∧ 2 < b
  le : p ≤ rs.length
  len : rs.length ≤ 256
  bnd : ∀ r ∈ rs, 0 ≤ r ∧ r ≤ 1114111
  form : (A = none ∧ c = 0 ∧ rs.length = 0) ∨ ∃ g, A = some ⟨g, 0, none⟩
theorem Rd.keep {w w' : World} {b c p : Nat} {A : Option Addr} {rs : List Int} (h : Rd w b A c rs p) (k : Keeps (· < w.heap.size) w w') : Rd w' b A c rs p :=
  ⟨h.blk.keep k h.blk.lt, h.sl.keep k (fun x hx => Nat.lt_trans hx h.blk.lt), h.tab.keep k, h.glb, h.le, h.len, h.bnd, h.form⟩
theorem Rd.set {w : World} {b c p q : Nat} {A : Option Addr} {rs : List Int} (h : Rd w b A c rs p) (hq : q ≤ rs.length) : Rd (w.setCell ⟨b, 1, none⟩ (.int .i64 (q : Int))) b A c rs q := by
  have k : Keeps (fun x => x ≠ b ∧ x < w.heap.size) w (w.setCell ⟨b, 1, none⟩ (.int .i64 (q : Int))) := (Keeps.refl _ _).setCell (p := ⟨b, 1, none⟩) (fun h => h.1 rfl) _
  have hb := h.blk.lt
  refine ⟨h.blk.set 1 _, h.sl.keep k (fun x hx => ⟨by omega, by omega⟩), ?_, h.glb, hq, h.len, h.bnd, h.form⟩
  have g := h.glb
  have t := h.tab
  have go : ∀ x cs, x < b → w.rangeAt x 0 cs → (w.setCell ⟨b, 1, none⟩ (.int .i64 (q : Int))).rangeAt x 0 cs := fun x cs hx hr j v hv => (World.cell?_of_block (a := ⟨x, 0 + j, none⟩) (k.block x ⟨by omega, by omega⟩)).trans (hr j v hv)
  have := k.size
  exact ⟨go _ _ g.1 t.high, go _ _ g.2.1 t.letters, go _ _ g.2.2 t.moves, by have := t.lt; omega⟩
/-- the rune at a place; 0: there is none -/
def runeAt (rs : List Int) (p : Nat) : Int := rs[p]?.getD 0
theorem runeAt_bnd {rs : List Int} (h : ∀ r ∈ rs, 0 ≤ r ∧ r ≤ 1114111) (p : Nat) : 0 ≤ runeAt rs p ∧ runeAt rs p ≤ 1114111 := by
  unfold runeAt
  cases hg : rs[p]? with
  | none => decide
  | some x => exact h x (List.mem_of_getElem? hg)

theorem enters_bytealg : ∀ (args : Array Value) (w : World), (callFunc 75 args).run Tryd.prog w = ((Extern.BytealgIndexByte.indexByte args).run Tryd.prog w).andThen fun v w' => .ok (.value v) w' :=
  run_callFunc_indexByte Tryd.func75 (by kernel_rfl) (by kernel_rfl) (by kernel_rfl) (by kernel_rfl)
def blankI (c : Int) : Int := Lib.indexByte [32, 9, 10, 13] c.toNat.toUInt8
set_option maxRecDepth 100000 in
theorem index_blank (c : Int) (w : World) : Calls Tryd.prog 53 #[.string ⟨#[32, 9, 10, 13]⟩, .int .u8 c] w fun e w' => e = .returned (.int .i64 (blankI c)) ∧ w = w' := by
  have hc : ∀ w, (callFunc 75 #[.string ⟨#[32, 9, 10, 13]⟩, .int .u8 c]).run Tryd.prog w = .ok (.value (.int .i64 (blankI c))) w := by
    intro w
    rw [enters_bytealg, Lib.run_indexByteString]; rfl
  generalize blankI c = k at *
  refine calls_hide fun R' hR' => ?_
  go_enter Tryd.func53, Tryd.ntmps53
  go_wp2
  exact hR'.out _ _ ⟨rfl, rfl⟩

set_option maxRecDepth 100000 in
set_option maxHeartbeats 1000000 in
theorem query_peek {w : World} {b c p : Nat} {A : Option Addr} {rs : List Int} (h : Rd w b A c rs p) : Calls Tryd.prog 62 #[.pointer (some ⟨b, 0, none⟩)] w fun e w' => e = .returned (.int .i32 (runeAt rs p)) ∧ Keeps (· < w.heap.size) w w' := by
  have c0 := (h.blk).cell 0
  have c1 := (h.blk).cell 1
  simp only [List.getElem?_cons_zero, List.getElem?_cons_succ] at c0 c1
  have HR := hid h
  clear h
  refine calls_hide fun R' hR' => ?_
  go_enter Tryd.func62, Tryd.ntmps62
  by_cases hp : p < rs.length
  · have hpI : (p : Int) < (rs.length : Int) := by omega
    obtain ⟨b2, o2, c2, hv, hb2, hc⟩ := HR.out.sl.get p _ (List.getElem?_eq_getElem hp)
    injection hv with hA h2 h3
    subst hA h3
    have hr : runeAt rs p = rs[p] := by unfold runeAt; rw [List.getElem?_eq_getElem hp]; rfl
    generalize rs[p] = r at *
    have Hr := hid hr
    clear hr
    go_wp2_with fail
    go_quiet (fail)
    generalize nq = n1 at *
    go_wp2_with fail
    go_quiet (fail)
    go_wp2_with fail
    exact hR'.out _ _ ⟨by rw [Hr.out]; rfl, by first | exact (Keeps.refl _ _).drewN _ | (simp; exact (Keeps.refl _ _).drewN _) | exact ((Keeps.refl _ _).drewN _).drewN _⟩
  · have hpI : ¬ (p : Int) < (rs.length : Int) := by omega
    have hr : runeAt rs p = 0 := by unfold runeAt; rw [List.getElem?_eq_none (by omega)]; rfl
    have Hr := hid hr
    clear hr
    go_wp2_with fail
    go_quiet (fail)
    go_wp2_with fail
    exact hR'.out _ _ ⟨by rw [Hr.out]; rfl, by first | exact (Keeps.refl _ _).drewN _ | (simp; exact (Keeps.refl _ _).drewN _) | exact ((Keeps.refl _ _).drewN _).drewN _⟩
end Go.Proofs.YtbepgbkbpkaodaaDoor
