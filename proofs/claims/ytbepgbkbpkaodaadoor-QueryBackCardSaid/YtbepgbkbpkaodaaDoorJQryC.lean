/- A region that draws its order, whose operations and callees keep what lies below a mark: one walk. -/
import Derived.Test.YtbepgbkbpkaodaaDoorTokB
import Derived.BigQuiet
import Derived.Lib.Bytealg
import Derived.Laws.StandIn
namespace Go.Proofs.YtbepgbkbpkaodaaDoor
open Go.RowKit

/-- a world that keeps the blocks below the mark -/
structure KP (W : World) (N : Nat) where
  w : World
  k : Keeps (· < N) W w
instance KP.ne (W : World) (N : Nat) : Nonempty (KP W N) := ⟨⟨W, Keeps.refl _ _⟩⟩
theorem wp_region_class {P : Program} {id : Nat} {Q : Exit → Act → World → Prop} {a : Act} {w : World} {l : List Oper} (N : Nat) (hm : P.follows .mixedOrders = true) (hB : Region.lexB .any l.toArray = true)
    (h : wpQuiet P l.toArray (fun w' => ∃ p : KP w N, w' = p.w) (fun a' => ∀ w', (∃ p : KP w N, w' = p.w) → Q .normal a' w') l a) : (Code.region id l.toArray true).wp P Q a w :=
  wp_region_quiet (C := fun w' => ∃ p : KP w N, w' = p.w) hm hB ⟨⟨w.drew, (Keeps.refl _ _).drew⟩, rfl⟩ (by simpa using h)
theorem KP.calls {P : Program} {f : FuncId} {args : Array Value} {W : World} {N : Nat} (p : KP W N) {v : Value} (hN : N ≤ W.heap.size) (h : Calls P f args p.w fun e w' => e = .returned v ∧ Keeps (· < p.w.heap.size) p.w w') : Calls P f args p.w fun e w' => e = .returned v ∧ ∃ q : KP W N, w' = q.w :=
  h.mono fun _ w' ⟨he, hk⟩ => ⟨he, ⟨w', p.k.trans (hk.mono fun b hb => by have := p.k.size; omega)⟩, rfl⟩
theorem KP.cell {W : World} {N b o : Nat} {v : Value} (hb : b < N) (h : W.cell? ⟨b, o, none⟩ = some v) (p : KP W N) : p.w.cell? ⟨b, o, none⟩ = some v := (World.cell?_of_block (p.k.block b hb)).trans h
theorem KP.draw {W : World} {N : Nat} (p : KP W N) (n : Nat) : Keeps (· < p.w.heap.size) p.w (p.w.drewN n) := (Keeps.refl _ _).drewN n
end Go.Proofs.YtbepgbkbpkaodaaDoor

/- Layer 17 (query): the reader: peek, IndexByte. -/
namespace Go.Proofs.YtbepgbkbpkaodaaDoor
open Go.RowKit

/-- a reader, at a place -/
structure Rd (w : World) (b : Nat) (A : Option Addr) (c : Nat) (rs : List Int) (p : Nat) : Prop where
  blk : Blk w b [.slice A rs.length c, .int .i64 (p : Int)]
  sl : SlAt w (· < b) 1 (.slice A rs.length c) rs.length (rs.map (Value.int .i32))
  tab : FoldTab w
  glb : 0 < b ∧ 1 < b ∧ 2 < b
  le : p ≤ rs.length
  len : rs.length ≤ 256
  bnd : ∀ r ∈ rs, 0 ≤ r ∧ r ≤ 1114111
  form : (A = none ∧ c = 0 ∧ rs.length = 0) ∨ ∃ g, A = some ⟨g, 0, none⟩
theorem Rd.keep {w w' : World} {b c p : Nat} {A : Option Addr} {rs : List Int} (h : Rd w b A c rs p) (k : Keeps (· < w.heap.size) w w') : Rd w' b A c rs p :=
  ⟨h.blk.keep k h.blk.lt, h.sl.keep k (fun x hx => Nat.lt_trans hx h.blk.lt), h.tab.keep k, h.glb, h.le, h.len, h.bnd, h.form⟩
theorem Rd.set {w : World} {b c p q : Nat} {A : Option Addr} {rs : List Int} (h : Rd w b A c rs p) (hq : q ≤ rs.length) : Rd (w.setCell ⟨b, 1, none⟩ (.int .i64 (q : Int))) b A c rs q := by
  have k : Keeps (fun x => x ≠ b ∧ x < w.heap.size) w (w.setCell ⟨b, 1, none⟩ (.int .i64 (q : Int))) := (Keeps.refl _ _).setCell (p := ⟨b, 1, none⟩) (fun h => h.1 rfl) _
  have hb := h.blk.lt
  refine ⟨h.blk.set 1 _, h.sl.keep k (fun x hx => ⟨by omega, by omega⟩), ?_, h.glb, hq, h.len, h.bnd, h.form⟩
  have g := h.glb
  have t := h.tab
  have go : ∀ x cs, x < b → w.rangeAt x 0 cs → (w.setCell ⟨b, 1, none⟩ (.int .i64 (q : Int))).rangeAt x 0 cs := fun x cs hx hr j v hv => (World.cell?_of_block (a := ⟨x, 0 + j, none⟩) (k.block x ⟨by omega, by omega⟩)).trans (hr j v hv)
  have := k.size
  exact ⟨go _ _ g.1 t.high, go _ _ g.2.1 t.letters, go _ _ g.2.2 t.moves, by have := t.lt; omega⟩
/-- the rune at a place; 0: there is none -/
def runeAt (rs : List Int) (p : Nat) : Int := rs[p]?.getD 0
theorem runeAt_bnd {rs : List Int} (h : ∀ r ∈ rs, 0 ≤ r ∧ r ≤ 1114111) (p : Nat) : 0 ≤ runeAt rs p ∧ runeAt rs p ≤ 1114111 := by
  unfold runeAt
  cases hg : rs[p]? with
  | none => decide
  | some x => exact h x (List.mem_of_getElem? hg)

theorem enters_bytealg : ∀ (args : Array Value) (w : World), (callFunc 75 args).run Tryd.prog w = ((Extern.BytealgIndexByte.indexByte args).run Tryd.prog w).andThen fun v w' => .ok (.value v) w' :=
  run_callFunc_indexByte Tryd.func75 (by kernel_rfl) (by kernel_rfl) (by kernel_rfl) (by kernel_rfl)
def blankI (c : Int) : Int := Lib.indexByte [32, 9, 10, 13] c.toNat.toUInt8
set_option maxRecDepth 100000 in
theorem index_blank (c : Int) (w : World) : Calls Tryd.prog 53 #[.string ⟨#[32, 9, 10, 13]⟩, .int .u8 c] w fun e w' => e = .returned (.int .i64 (blankI c)) ∧ w = w' := by
  have hc : ∀ w, (callFunc 75 #[.string ⟨#[32, 9, 10, 13]⟩, .int .u8 c]).run Tryd.prog w = .ok (.value (.int .i64 (blankI c))) w := by
    intro w
    rw [enters_bytealg, Lib.run_indexByteString]; rfl
  generalize blankI c = k at *
  refine calls_hide fun R' hR' => ?_
  go_enter Tryd.func53, Tryd.ntmps53
  go_wp2
  exact hR'.out _ _ ⟨rfl, rfl⟩

set_option maxRecDepth 100000 in
set_option maxHeartbeats 1000000 in
theorem query_peek {w : World} {b c p : Nat} {A : Option Addr} {rs : List Int} (h : Rd w b A c rs p) : Calls Tryd.prog 62 #[.pointer (some ⟨b, 0, none⟩)] w fun e w' => e = .returned (.int .i32 (runeAt rs p)) ∧ Keeps (· < w.heap.size) w w' := by
  have c0 := (h.blk).cell 0
  have c1 := (h.blk).cell 1
  simp only [List.getElem?_cons_zero, List.getElem?_cons_succ] at c0 c1
  have HR := hid h
  clear h
  refine calls_hide fun R' hR' => ?_
  go_enter Tryd.func62, Tryd.ntmps62
  by_cases hp : p < rs.length
  · have hpI : (p : Int) < (rs.length : Int) := by omega
    obtain ⟨b2, o2, c2, hv, hb2, hc⟩ := HR.out.sl.get p _ (List.getElem?_eq_getElem hp)
    injection hv with hA h2 h3
    subst hA h3
    have hr : runeAt rs p = rs[p] := by unfold runeAt; rw [List.getElem?_eq_getElem hp]; rfl
    generalize rs[p] = r at *
    have Hr := hid hr
    clear hr
    go_wp2_with fail
    go_quiet (fail)
    generalize nq = n1 at *
    go_wp2_with fail
    go_quiet (fail)
    go_wp2_with fail
    exact hR'.out _ _ ⟨by rw [Hr.out]; rfl, by first | exact (Keeps.refl _ _).drewN _ | (simp; exact (Keeps.refl _ _).drewN _) | exact ((Keeps.refl _ _).drewN _).drewN _⟩
  · have hpI : ¬ (p : Int) < (rs.length : Int) := by omega
    have hr : runeAt rs p = 0 := by unfold runeAt; rw [List.getElem?_eq_none (by omega)]; rfl
    have Hr := hid hr
    clear hr
    go_wp2_with fail
    go_quiet (fail)
    go_wp2_with fail
    exact hR'.out _ _ ⟨by rw [Hr.out]; rfl, by first | exact (Keeps.refl _ _).drewN _ | (simp; exact (Keeps.refl _ _).drewN _) | exact ((Keeps.refl _ _).drewN _).drewN _⟩
end Go.Proofs.YtbepgbkbpkaodaaDoor

/- Layer 17 (query): the reader: blanks, sign. -/
namespace Go.Proofs.YtbepgbkbpkaodaaDoor
open Go.RowKit

/-- what a reader's step keeps -/
abbrev Mv (b : Nat) (w w' : World) : Prop := Keeps (fun x => x < w.heap.size ∧ x ≠ b) w w'
theorem Mv.of_all {b : Nat} {w w' : World} (k : Keeps (· < w.heap.size) w w') : Mv b w w' := k.mono fun _ h => h.1
theorem Mv.trans {b : Nat} {w w1 w2 : World} (h : Mv b w w1) (k : Mv b w1 w2) : Mv b w w2 := Keeps.trans h (k.mono fun x hx => ⟨Nat.lt_of_lt_of_le hx.1 h.size, hx.2⟩)
theorem Mv.set {b : Nat} {w : World} (v : Value) : Mv b w (w.setCell ⟨b, 1, none⟩ v) := (Keeps.refl _ _).setCell (p := ⟨b, 1, none⟩) (fun h => h.2 rfl) _
/-- where the reader stands -/
def posOf (b : Nat) (w : World) : Nat := match w.cell? ⟨b, 1, none⟩ with | some (.int _ p) => p.toNat | _ => 0
theorem Rd.pos {w : World} {b c p : Nat} {A : Option Addr} {rs : List Int} (h : Rd w b A c rs p) : posOf b w = p := by
  unfold posOf
  rw [h.blk.cell 1]; simp
def isBl (r : Int) : Bool := r == 32 || r == 9 || r == 10 || r == 13
theorem isBl_k : ∀ n : Fin 128, isBl ((n.val : Nat) : Int) = decide (0 ≤ blankI ((n.val : Nat) : Int)) := by decide
theorem isBl_iff (r : Int) (h0 : 0 ≤ r) : isBl r = (decide (0 ≤ blankI (r % 256)) && decide (r < 128)) := by
  by_cases h : r < 128
  · have := isBl_k ⟨r.toNat, by omega⟩
    have e : ((r.toNat : Nat) : Int) = r := by omega
    simp only [e] at this
    rw [show r % 256 = r by omega, this]; simp [h]
  · have : isBl r = false := by unfold isBl; simp; omega
    rw [this]; simp [h]
/-- behind blanks -/
def skipB (rs : List Int) (p : Nat) : Nat := p + ((rs.drop p).takeWhile isBl).length
theorem skipB_step {rs : List Int} {p : Nat} {r : Int} (hr : rs[p]? = some r) (h : isBl r = true) : skipB rs p = skipB rs (p + 1) := by
  obtain ⟨h9, h8⟩ := List.getElem?_eq_some_iff.1 hr
  unfold skipB
  rw [List.drop_eq_getElem_cons h9, h8, List.takeWhile_cons_of_pos h, List.length_cons]; omega
theorem skipB_stop {rs : List Int} {p : Nat} {r : Int} (hr : rs[p]? = some r) (h : isBl r = false) : skipB rs p = p := by
  obtain ⟨h9, h8⟩ := List.getElem?_eq_some_iff.1 hr
  unfold skipB
  rw [List.drop_eq_getElem_cons h9, h8, List.takeWhile_cons_of_neg (by simp [h])]; rfl
theorem skipB_end {rs : List Int} {p : Nat} (h : ¬ p < rs.length) : skipB rs p = p := by
  unfold skipB
  rw [List.drop_eq_nil_of_le (by omega)]; rfl
theorem skipB_le {rs : List Int} {p : Nat} (h : p ≤ rs.length) : skipB rs p ≤ rs.length := by
  unfold skipB
  have := (List.takeWhile_sublist isBl (l := rs.drop p)).length_le
  rw [List.length_drop] at this; omega
theorem skipB_ge (rs : List Int) (p : Nat) : p ≤ skipB rs p := Nat.le_add_right _ _

set_option maxRecDepth 100000 in
set_option maxHeartbeats 2000000 in
theorem query_blanks {w : World} {b c p : Nat} {A : Option Addr} {rs : List Int} (h : Rd w b A c rs p) : Calls Tryd.prog 41 #[.pointer (some ⟨b, 0, none⟩)] w fun e w' => e = .returned (.tuple #[]) ∧ Rd w' b A c rs (skipB rs p) ∧ Mv b w w' := by
  have HR := hid h
  clear h
  refine calls_hide fun R' hR' => ?_
  go_enter Tryd.func41, Tryd.ntmps41
  go_wp2_with fail
  go_loopw [] (fun wr => ∃ q : Nat, Hid (Rd wr b A c rs q) ∧ Hid (Mv b w wr) ∧ Hid (skipB rs q = skipB rs p)) (fun wr => rs.length - posOf b wr)
  case atStart => exact ⟨p, HR, hid (Keeps.refl _ _), hid rfl⟩
  case round =>
    obtain ⟨q, HQ, HM, HE⟩ := hrel
    have hc := HQ.out.blk
    have hlB := hc.lt
    have z0 := (hc).cell 0
    have z1 := (hc).cell 1
    simp only [List.getElem?_cons_zero, List.getElem?_cons_succ] at z0 z1
    have c0 := fun p : KP wr wr.heap.size => KP.cell hlB z0 p
    have c1 := fun p : KP wr wr.heap.size => KP.cell hlB z1 p
    clear hc
    by_cases hp : q < rs.length
    · have hpI : (q : Int) < (rs.length : Int) := by omega
      have f1 : decide (q < rs.length) = true := decide_eq_true hp
      have hg := List.getElem?_eq_getElem hp
      obtain ⟨b2, o2, c2, hv, hb2, hcc⟩ := HQ.out.sl.get q _ hg
      injection hv with hA h2 h3
      subst hA h3
      have hbd := HQ.out.bnd _ (List.mem_of_getElem? hg)
      generalize rs[q] = r at *
      have c2 := fun p : KP wr wr.heap.size => KP.cell (by omega) hcc p
      have hbl := isBl_iff r hbd.1
      have hHc : ∀ (x k : Int), k = blankI x → Hid (∀ p : KP wr wr.heap.size, Calls Tryd.prog 53 #[.string ⟨#[32, 9, 10, 13]⟩, .int .u8 x] p.w fun e w' => e = .returned (.int .i64 k) ∧ ∃ q : KP wr wr.heap.size, w' = q.w) := by
        rintro x k rfl
        exact hid fun p => (index_blank x p.w).mono fun _ w' ⟨he, hw⟩ => ⟨he, p, hw.symm⟩
      have Hg := hid hg
      clear hg
      by_cases hr1 : r < 128
      · have f3 : decide (r < 128) = true := decide_eq_true hr1
        rw [show r % 256 = r by omega] at hbl
        obtain ⟨k, hk⟩ : ∃ k, k = blankI r := ⟨_, rfl⟩
        have HMq := hHc r k hk
        rw [← hk] at hbl
        clear hk hHc
        by_cases hk0 : 0 ≤ k
        · have f2 : decide (0 ≤ k) = true := decide_eq_true hk0
          have hst : skipB rs q = skipB rs (q + 1) := skipB_step Hg.out (by rw [hbl, f2, f3]; rfl)
          have Hst := hid hst
          clear hst
          clear hbl
          go_upto_region 0 with fail
          refine wp_region_class wr.heap.size (by kernel_rfl) (by kernel_rfl) ?_
          repeat (go_big_quiet_step ((exact HMq.out _)))
          refine wpQuiet_nil ?_
          rintro _ ⟨⟨wq, hkq⟩, rfl⟩
          have hQ2 := HQ.out.keep hkq
          have hM2 := HM.out.trans (Mv.of_all hkq)
          have hS2 := hQ2.set (q := q + 1) (by omega)
          have hM3 := hM2.trans (Mv.set (.int .i64 ((q + 1 : Nat) : Int)))
          have hp2 := hS2.pos
          have hp3 := HQ.out.pos
          have hl256 := HQ.out.len
          have ec : ((q + 1 : Nat) : Int) = (q : Int) + 1 := by omega
          rw [ec] at hS2 hM3 hp2
          clear ec
          have hcc := hQ2.blk
          have hf := hcc.free 1
          have y0 := (hcc).cell 0
          have y1 := (hcc).cell 1
          simp only [List.getElem?_cons_zero, List.getElem?_cons_succ] at y0 y1
          clear c0 c1 c2 hcc
          have HS2 := hid hS2
          have HM3 := hid hM3
          clear hS2 hM3
          go_wp2_with fail
          go_roundw
          case rel => exact ⟨q + 1, HS2, HM3, hid (by rw [← Hst.out]; exact HE.out)⟩
          case measure => rw [hp2, hp3]; omega
        · have f2 : decide (0 ≤ k) = false := decide_eq_false hk0
          have hst : skipB rs q = q := skipB_stop Hg.out (by rw [hbl, f2]; rfl)
          have Hst := hid hst
          clear hst
          clear hbl
          go_upto_region 0 with fail
          refine wp_region_class wr.heap.size (by kernel_rfl) (by kernel_rfl) ?_
          repeat (go_big_quiet_step ((exact HMq.out _)))
          refine wpQuiet_nil ?_
          rintro _ ⟨⟨wq, hkq⟩, rfl⟩
          go_wp2_with fail
          go_end0
          exact hR'.out _ _ ⟨rfl, by rw [← HE.out, Hst.out]; exact HQ.out.keep hkq, HM.out.trans (Mv.of_all hkq)⟩
      · have f3 : decide (r < 128) = false := decide_eq_false hr1
        obtain ⟨k, hk⟩ : ∃ k, k = blankI (r % 256) := ⟨_, rfl⟩
        have HMq := hHc (r % 256) k hk
        have hst : skipB rs q = q := skipB_stop Hg.out (by rw [hbl, f3, Bool.and_false])
        clear hk hHc hbl
        have Hst := hid hst
        clear hst
        by_cases hk0 : 0 ≤ k
        · have f2 : decide (0 ≤ k) = true := decide_eq_true hk0
          go_upto_region 0 with fail
          refine wp_region_class wr.heap.size (by kernel_rfl) (by kernel_rfl) ?_
          repeat (go_big_quiet_step ((exact HMq.out _)))
          refine wpQuiet_nil ?_
          rintro _ ⟨⟨wq, hkq⟩, rfl⟩
          go_wp2_with fail
          go_end0
          exact hR'.out _ _ ⟨rfl, by rw [← HE.out, Hst.out]; exact HQ.out.keep hkq, HM.out.trans (Mv.of_all hkq)⟩
        · have f2 : decide (0 ≤ k) = false := decide_eq_false hk0
          go_upto_region 0 with fail
          refine wp_region_class wr.heap.size (by kernel_rfl) (by kernel_rfl) ?_
          repeat (go_big_quiet_step ((exact HMq.out _)))
          refine wpQuiet_nil ?_
          rintro _ ⟨⟨wq, hkq⟩, rfl⟩
          go_wp2_with fail
          go_end0
          exact hR'.out _ _ ⟨rfl, by rw [← HE.out, Hst.out]; exact HQ.out.keep hkq, HM.out.trans (Mv.of_all hkq)⟩
    · have hpI : ¬ (q : Int) < (rs.length : Int) := by omega
      have f1 : decide (q < rs.length) = false := decide_eq_false hp
      have hst : skipB rs q = q := skipB_end hp
      have Hst := hid hst
      clear hst
      go_upto_region 0 with fail
      refine wp_region_class wr.heap.size (by kernel_rfl) (by kernel_rfl) ?_
      repeat (go_big_quiet_step (fail))
      refine wpQuiet_nil ?_
      rintro _ ⟨⟨wq, hkq⟩, rfl⟩
      go_wp2_with fail
      go_end0
      exact hR'.out _ _ ⟨rfl, by rw [← HE.out, Hst.out]; exact HQ.out.keep hkq, HM.out.trans (Mv.of_all hkq)⟩
end Go.Proofs.YtbepgbkbpkaodaaDoor

/- Layer 17 (query): the reader: sign, word. -/
namespace Go.Proofs.YtbepgbkbpkaodaaDoor
open Go.RowKit

/-- is a sign next -/
def signB (rs : List Int) (p : Nat) (ch : Int) : Bool := rs[skipB rs p]? == some ch
def signP (rs : List Int) (p : Nat) (ch : Int) : Nat := if signB rs p ch then skipB rs p + 1 else skipB rs p

set_option maxRecDepth 100000 in
set_option maxHeartbeats 2000000 in
theorem query_sign {w : World} {b c p : Nat} {A : Option Addr} {rs : List Int} (ch : Int) (h : Rd w b A c rs p) : Calls Tryd.prog 25 #[.pointer (some ⟨b, 0, none⟩), .int .i32 ch] w fun e w' => e = .returned (.bool (signB rs p ch)) ∧ Rd w' b A c rs (signP rs p ch) ∧ Mv b w w' := by
  have HR := hid h
  clear h
  refine calls_hide fun R' hR' => ?_
  go_enter Tryd.func25, Tryd.ntmps25
  go_wp2_with fail
  refine (query_blanks HR.out).mono ?_
  rintro e wr ⟨rfl, hQ, hM⟩
  have hSP : signP rs p ch = if signB rs p ch then skipB rs p + 1 else skipB rs p := rfl
  have hSB : signB rs p ch = (rs[skipB rs p]? == some ch) := rfl
  generalize signP rs p ch = sp at *
  generalize signB rs p ch = sb at *
  generalize skipB rs p = q at *
  have HQ := hid hQ
  have HM := hid hM
  have HSP := hid hSP
  have HSB := hid hSB
  clear hQ hM hSP hSB
  clear HR
  have hc := HQ.out.blk
  have hlB := hc.lt
  have z0 := (hc).cell 0
  have z1 := (hc).cell 1
  simp only [List.getElem?_cons_zero, List.getElem?_cons_succ] at z0 z1
  have c0 := fun p : KP wr wr.heap.size => KP.cell hlB z0 p
  have c1 := fun p : KP wr wr.heap.size => KP.cell hlB z1 p
  clear hc
  by_cases hp : q < rs.length
  · have hpI : (q : Int) < (rs.length : Int) := by omega
    have f1 : decide (q < rs.length) = true := decide_eq_true hp
    have hg := List.getElem?_eq_getElem hp
    obtain ⟨b2, o2, c2, hv, hb2, hcc⟩ := HQ.out.sl.get q _ hg
    injection hv with hA h2 h3
    subst hA h3
    generalize rs[q] = r at *
    have c2 := fun p : KP wr wr.heap.size => KP.cell (by omega) hcc p
    by_cases hr : r = ch
    · have f2 : (r == ch) = true := by simp [hr]
      have hsb : sb = true := by rw [HSB.out, hg]; simp [hr]
      have hsp : sp = q + 1 := by rw [HSP.out, hsb]; rfl
      clear hr hg
      subst hsb hsp
      go_wp2_with fail
      refine wp_region_class wr.heap.size (by kernel_rfl) (by kernel_rfl) ?_
      repeat (go_big_quiet_step (fail))
      refine wpQuiet_nil ?_
      rintro _ ⟨⟨wq, hkq⟩, rfl⟩
      have hQ2 := HQ.out.keep hkq
      have hM2 := HM.out.trans (Mv.of_all hkq)
      have hS2 := hQ2.set (q := q + 1) (by omega)
      have hM3 := hM2.trans (Mv.set (.int .i64 ((q + 1 : Nat) : Int)))
      have hl256 := HQ.out.len
      have ec : ((q + 1 : Nat) : Int) = (q : Int) + 1 := by omega
      rw [ec] at hS2 hM3
      clear ec
      have hcc := hQ2.blk
      have hf := hcc.free 1
      have y0 := (hcc).cell 0
      have y1 := (hcc).cell 1
      simp only [List.getElem?_cons_zero, List.getElem?_cons_succ] at y0 y1
      clear c0 c1 c2 hcc
      have HS2 := hid hS2
      have HM3 := hid hM3
      clear hS2 hM3
      go_wp2_with fail
      exact hR'.out _ _ ⟨rfl, HS2.out, HM3.out⟩
    · have f2 : (r == ch) = false := by simp [hr]
      have hsb : sb = false := by rw [HSB.out, hg]; simp [hr]
      have hsp : q = sp := by rw [HSP.out, hsb]; rfl
      clear hr hg
      subst hsb hsp
      go_wp2_with fail
      refine wp_region_class wr.heap.size (by kernel_rfl) (by kernel_rfl) ?_
      repeat (go_big_quiet_step (fail))
      refine wpQuiet_nil ?_
      rintro _ ⟨⟨wq, hkq⟩, rfl⟩
      go_wp2_with fail
      exact hR'.out _ _ ⟨rfl, HQ.out.keep hkq, HM.out.trans (Mv.of_all hkq)⟩
  · have hpI : ¬ (q : Int) < (rs.length : Int) := by omega
    have f1 : decide (q < rs.length) = false := decide_eq_false hp
    have hsb : sb = false := by rw [HSB.out, List.getElem?_eq_none (by omega)]; rfl
    have hsp : q = sp := by rw [HSP.out, hsb]; rfl
    subst hsb hsp
    go_wp2_with fail
    refine wp_region_class wr.heap.size (by kernel_rfl) (by kernel_rfl) ?_
    repeat (go_big_quiet_step (fail))
    refine wpQuiet_nil ?_
    rintro _ ⟨⟨wq, hkq⟩, rfl⟩
    go_wp2_with fail
    exact hR'.out _ _ ⟨rfl, HQ.out.keep hkq, HM.out.trans (Mv.of_all hkq)⟩
end Go.Proofs.YtbepgbkbpkaodaaDoor
