/- Layer 17 (query): Parse, the walk. -/
import Derived.Test.YtbepgbkbpkaodaaDoorJQryS
namespace Go.Proofs.YtbepgbkbpkaodaaDoor
open Go.RowKit

theorem parse_results {w : World} {qb eb : Nat} {tmps : Array Value} {x0 x1 x2 x3 x4 x5 y : Value} (h2 : tmps[2]?.getD undef = .pointer (some ⟨qb, 0, none⟩)) (h3 : tmps[3]?.getD undef = .pointer (some ⟨eb, 0, none⟩)) (hq : Blk w qb [x0, x1, x2, x3, x4, x5]) (he : Blk w eb [y]) :
    (results Tryd.f9 tmps).run Tryd.prog w = .ok (.tuple #[.agg #[x0, x1, x2, x3, x4, x5], y]) w := by
  have d0 := (he).cell 0
  simp only [List.getElem?_cons_zero] at d0
  have c0 := (hq).cell 0
  have c1 := (hq).cell 1
  have c2 := (hq).cell 2
  have c3 := (hq).cell 3
  have c4 := (hq).cell 4
  have c5 := (hq).cell 5
  simp only [List.getElem?_cons_zero, List.getElem?_cons_succ] at c0 c1 c2 c3 c4 c5
  simp [results, Tryd.results9, h2, h3, asAddr, go_sem, d0, c0, c1, c2, c3, c4, c5]
/-- what is thrown is told -/
theorem parse_caught {w wr : World} {tmps : Array Value} {n : Int} {xs : List Value} {x : Value} {R' : Ending → World → Prop} (h2 : tmps[2]?.getD undef = .pointer (some ⟨w.heap.size, 0, none⟩)) (h3 : tmps[3]?.getD undef = .pointer (some ⟨w.heap.size + 1, 0, none⟩))
    (hq : Blk wr w.heap.size xs) (hl : xs.length = 6) (he : Blk wr (w.heap.size + 1) [x]) (hk : Keeps (· < w.heap.size) w wr)
    (hR : ∀ w', Keeps (· < w.heap.size) w w' → R' (.returned (.tuple #[.agg #[.int .i64 0, .int .u8 0, .slice none 0 0, .slice none 0 0, .int .i64 0, .int .i64 0], .int .i64 n])) w') :
    bodyPostD Tryd.prog Tryd.f9 R' (Exit.panic [{ v := .iface 29 (.int .i64 n), recovered := false }]) { tmps := tmps, defers := [{ target := Target.fn (Fn.func 22) #[.pointer (some ⟨w.heap.size, 0, none⟩), .pointer (some ⟨w.heap.size + 1, 0, none⟩)], args := #[] }] } wr := by
  refine leaves_cons (f := 22) (args := #[.pointer (some ⟨w.heap.size, 0, none⟩), .pointer (some ⟨w.heap.size + 1, 0, none⟩)]) (by simp) (by simp [go_sem]) ?_
  refine (query_catch w.heap.size (w.heap.size + 1) n xs x wr hq hl he (by omega)).mono ?_
  rintro e u' w'' ⟨rfl, rfl, hq2, he2, hk2⟩
  simp only [Leaves, settle, List.dropWhile_nil]
  exact ⟨_, parse_results h2 h3 hq2 he2, hR _ (hk.trans (hk2.mono fun b hb => ⟨by omega, by omega⟩))⟩
theorem parse_done {w wr : World} {tmps : Array Value} {x0 x1 x2 x3 x4 x5 y : Value} {R' : Ending → World → Prop} (h2 : tmps[2]?.getD undef = .pointer (some ⟨w.heap.size, 0, none⟩)) (h3 : tmps[3]?.getD undef = .pointer (some ⟨w.heap.size + 1, 0, none⟩))
    (hq : Blk wr w.heap.size [x0, x1, x2, x3, x4, x5]) (he : Blk wr (w.heap.size + 1) [y]) (hR : R' (.returned (.tuple #[.agg #[x0, x1, x2, x3, x4, x5], y])) wr) :
    bodyPostD Tryd.prog Tryd.f9 R' Exit.ret { tmps := tmps, defers := [{ target := Target.fn (Fn.func 22) #[.pointer (some ⟨w.heap.size, 0, none⟩), .pointer (some ⟨w.heap.size + 1, 0, none⟩)], args := #[] }] } wr := by
  refine leaves_cons (f := 22) (args := #[.pointer (some ⟨w.heap.size, 0, none⟩), .pointer (some ⟨w.heap.size + 1, 0, none⟩)]) (by simp) (by simp [go_sem]) ?_
  refine (query_idle w.heap.size (w.heap.size + 1) wr).mono ?_
  rintro e u' w'' ⟨rfl, rfl, rfl⟩
  simp only [Leaves, settle]
  exact ⟨_, parse_results h2 h3 hq he, hR⟩
theorem parse_early {wr : World} {qb eb : Nat} {tmps : Array Value} {x0 x1 x2 x3 x4 x5 y : Value} {R' : Ending → World → Prop} (h2 : tmps[2]?.getD undef = .pointer (some ⟨qb, 0, none⟩)) (h3 : tmps[3]?.getD undef = .pointer (some ⟨eb, 0, none⟩))
    (hq : Blk wr qb [x0, x1, x2, x3, x4, x5]) (he : Blk wr eb [y]) (hR : R' (.returned (.tuple #[.agg #[x0, x1, x2, x3, x4, x5], y])) wr) :
    bodyPostD Tryd.prog Tryd.f9 R' Exit.ret { tmps := tmps, defers := [] } wr := by
  simp only [bodyPostD, Leaves]
  exact ⟨_, parse_results h2 h3 hq he, hR⟩

/-- a reader whose runes lie beyond the results -/
structure RdQ (w : World) (b e : Nat) (A : Option Addr) (c : Nat) (rs : List Int) (p : Nat) : Prop where
  rd : Rd w b A c rs p
  sl : SlAt w (fun x => e < x ∧ x < b) 1 (.slice A rs.length c) rs.length (rs.map (Value.int .i32))
  glb : 0 + 1 < e ∧ 1 + 1 < e ∧ 2 + 1 < e
  lt : e < b
theorem RdQ.mv {w w' : World} {b e c p q : Nat} {A : Option Addr} {rs : List Int} (h : RdQ w b e A c rs p) (hr : Rd w' b A c rs q) (k : Mv b w w') : RdQ w' b e A c rs q :=
  ⟨hr, h.sl.keep k (fun x hx => ⟨by have := h.rd.blk.lt; omega, by omega⟩), h.glb, h.lt⟩
theorem RdQ.set {w : World} {b e c p : Nat} {A : Option Addr} {rs : List Int} (h : RdQ w b e A c rs p) {a : Addr} (v : Value) (h1 : e ≤ a.block + 1) (h2 : a.block ≤ e) : RdQ (w.setCell a v) b e A c rs p := by
  have k : Keeps (· ≠ a.block) w (w.setCell a v) := (Keeps.refl _ _).setCell (fun h => h rfl) _
  have g := h.glb
  have hl := h.lt
  have hs := h.sl.keep k (fun x hx => by omega)
  have t := h.rd.tab
  have go : ∀ x cs, x + 1 < e → w.rangeAt x 0 cs → (w.setCell a v).rangeAt x 0 cs := fun x cs hx hr j v hv => (World.cell?_of_block (a := ⟨x, 0 + j, none⟩) (k.block x (by show x ≠ _; omega))).trans (hr j v hv)
  have := k.size
  refine ⟨⟨h.rd.blk.keep k (by show b ≠ _; omega), ?_, ⟨go _ _ g.1 t.high, go _ _ g.2.1 t.letters, go _ _ g.2.2 t.moves, by have := t.lt; omega⟩, h.rd.glb, h.rd.le, h.rd.len, h.rd.bnd, h.rd.form⟩, hs, g, hl⟩
  obtain ⟨A', cap, e', a', b', c', d⟩ := hs
  exact ⟨A', cap, e', a', b', c', fun hn => by obtain ⟨b', o, e', hb, hc⟩ := d hn; exact ⟨b', o, e', hb.2, hc⟩⟩

/-- how far the parse of what stands behind the tree is -/
structure PSt (w wr : World) (rb : Nat) (A : Option Addr) (c : Nat) (rs : List Int) (q : Nat) (n : Nd) (x0 x1 x2 x3 : Value) (li o : Int) : Prop where
  rd : RdQ wr rb (w.heap.size + 1) A c rs q
  qb : Blk wr w.heap.size [x0, x1, x2, x3, .int .i64 li, .int .i64 o]
  eb : Blk wr (w.heap.size + 1) [.int .i64 0]
  nd : NodeV wr (fun x => rb < x ∧ x < wr.heap.size) n [x0, x1, x2, x3]
  kp : Keeps (· < w.heap.size) w wr
section
variable {w wr w' : World} {rb : Nat} {A : Option Addr} {c : Nat} {rs : List Int} {q q' : Nat} {n : Nd} {x0 x1 x2 x3 : Value} {li o : Int}
theorem PSt.mv (h : PSt w wr rb A c rs q n x0 x1 x2 x3 li o) (hr : Rd w' rb A c rs q') (k : Mv rb wr w') : PSt w w' rb A c rs q' n x0 x1 x2 x3 li o := by
  have hl := h.rd.lt
  have hs := k.size
  exact ⟨h.rd.mv hr k, h.qb.keep k ⟨h.qb.lt, by omega⟩, h.eb.keep k ⟨h.eb.lt, by omega⟩, h.nd.keep (k.mono fun x hx => ⟨hx.2, by omega⟩) (fun x hx => ⟨hx.1, by omega⟩), Keeps.trans h.kp (k.mono fun x hx => ⟨by have := h.qb.lt; omega, by omega⟩)⟩
theorem PSt.set (h : PSt w wr rb A c rs q n x0 x1 x2 x3 li o) (i : Nat) (v : Value) (li' o' : Int) (hv : [x0, x1, x2, x3, .int .i64 li, .int .i64 o].set i v = [x0, x1, x2, x3, .int .i64 li', .int .i64 o']) : PSt w (wr.setCell ⟨w.heap.size, i, none⟩ v) rb A c rs q n x0 x1 x2 x3 li' o' := by
  have hl := h.rd.lt
  have k : Keeps (· ≠ w.heap.size) wr (wr.setCell ⟨w.heap.size, i, none⟩ v) := (Keeps.refl _ _).setCell (p := ⟨w.heap.size, i, none⟩) (fun h => h rfl) _
  have hs := k.size
  exact ⟨h.rd.set v (by show _ ≤ w.heap.size + 1; omega) (by show w.heap.size ≤ _; omega), by rw [← hv]; exact h.qb.set i v, h.eb.keep k (by show w.heap.size + 1 ≠ _; omega), h.nd.keep (k.mono fun x hx => by omega) (fun x hx => ⟨hx.1, by omega⟩), Keeps.trans h.kp (k.mono fun x hx => by omega)⟩
theorem PSt.setE (h : PSt w wr rb A c rs q n x0 x1 x2 x3 li o) : PSt w (wr.setCell ⟨w.heap.size + 1, 0, none⟩ (.int .i64 0)) rb A c rs q n x0 x1 x2 x3 li o := by
  have hl := h.rd.lt
  have k : Keeps (· ≠ w.heap.size + 1) wr (wr.setCell ⟨w.heap.size + 1, 0, none⟩ (.int .i64 0)) := (Keeps.refl _ _).setCell (p := ⟨w.heap.size + 1, 0, none⟩) (fun h => h rfl) _
  have hs := k.size
  exact ⟨h.rd.set _ (by show _ ≤ w.heap.size + 1 + 1; omega) (by show w.heap.size + 1 ≤ _; omega), h.qb.keep k (by show w.heap.size ≠ _; omega), h.eb.set 0 (.int .i64 0), h.nd.keep (k.mono fun x hx => by omega) (fun x hx => ⟨hx.1, by omega⟩), Keeps.trans h.kp (k.mono fun x hx => by omega)⟩
theorem PSt.start (hR : RdQ wr rb (w.heap.size + 1) A c rs q) (hq : Blk wr w.heap.size [.int .i64 0, .int .u8 0, .slice none 0 0, .slice none 0 0, .int .i64 0, .int .i64 0]) (he : Blk wr (w.heap.size + 1) [.int .i64 0]) (hn : NodeV wr (fun x => rb < x ∧ x < wr.heap.size) n [x0, x1, x2, x3]) (hk : Keeps (· < w.heap.size) w wr) (v4 v5 : Int) :
    PSt w ((((((wr.setCell ⟨w.heap.size, 0, none⟩ x0).setCell ⟨w.heap.size, 1, none⟩ x1).setCell ⟨w.heap.size, 2, none⟩ x2).setCell ⟨w.heap.size, 3, none⟩ x3).setCell ⟨w.heap.size, 4, none⟩ (.int .i64 v4)).setCell ⟨w.heap.size, 5, none⟩ (.int .i64 v5)) rb A c rs q n x0 x1 x2 x3 v4 v5 := by
  have hl := hR.lt
  have go : ∀ (W : World), RdQ W rb (w.heap.size + 1) A c rs q → ∀ i v, RdQ (W.setCell ⟨w.heap.size, i, none⟩ v) rb (w.heap.size + 1) A c rs q := fun W h i v => h.set v (by show _ ≤ w.heap.size + 1; omega) (by show w.heap.size ≤ _; omega)
  have k : Keeps (· ≠ w.heap.size) wr ((((((wr.setCell ⟨w.heap.size, 0, none⟩ x0).setCell ⟨w.heap.size, 1, none⟩ x1).setCell ⟨w.heap.size, 2, none⟩ x2).setCell ⟨w.heap.size, 3, none⟩ x3).setCell ⟨w.heap.size, 4, none⟩ (.int .i64 v4)).setCell ⟨w.heap.size, 5, none⟩ (.int .i64 v5)) := by
    repeat (first | with_reducible exact Keeps.refl _ _ | with_reducible refine Keeps.setCell ?_ ?_ _)
    all_goals simp
  have hB := hq.set6 x0 x1 x2 x3 (.int .i64 v4) (.int .i64 v5) rfl
  have hR2 := go _ (go _ (go _ (go _ (go _ (go _ hR 0 x0) 1 x1) 2 x2) 3 x3) 4 (.int .i64 v4)) 5 (.int .i64 v5)
  have hs := k.size
  exact ⟨hR2, hB, he.keep k (by show w.heap.size + 1 ≠ _; omega), hn.keep (k.mono fun x hx => by omega) (fun x hx => ⟨hx.1, by omega⟩), Keeps.trans hk (k.mono fun x hx => by omega)⟩
end

theorem tail_step (rs : List Int) (q : Nat) (li o : Int) : tailS ((rs.drop q).length + 1) li o (rs.drop q) =
    if signB rs q 35 = true then (if 0 ≤ li then .error 8 else match limitP (nextW rs (signP rs q 35)) with | none => .error 8 | some n => tailS ((rs.drop (wordE rs (skipB rs (signP rs q 35)))).length + 1) n o (rs.drop (wordE rs (skipB rs (signP rs q 35)))))
    else if signB rs (signP rs q 35) 64 = true then (if 0 ≤ o then .error 8 else match orderP (nextW rs (signP rs (signP rs q 35) 64)) with | none => .error 8 | some n => tailS ((rs.drop (wordE rs (skipB rs (signP rs (signP rs q 35) 64)))).length + 1) li n (rs.drop (wordE rs (skipB rs (signP rs (signP rs q 35) 64)))))
    else if signP rs (signP rs q 35) 64 < rs.length then .error 8 else .ok (li, o) := by
  rw [sign_conv, sign_conv, nextW_conv, nextW_conv, drop_restW, drop_restW, drop_sign, drop_sign, drop_sign]
  have hlt : signP rs (signP rs q 35) 64 < rs.length ↔ afterS 64 (afterS 35 (rs.drop q)) ≠ [] := by
    rw [← drop_sign, ← drop_sign, Ne, List.drop_eq_nil_iff]; omega
  show (if signS 35 (rs.drop q) = true then _ else _) = _
  by_cases h1 : signS 35 (rs.drop q) = true
  · rw [if_pos h1, if_pos h1]
    by_cases h2 : 0 ≤ li
    · rw [if_pos h2, if_pos h2]
    rw [if_neg h2, if_neg h2]
    have a1 := afterS_lt h1
    have a2 := restW_le (afterS 35 (rs.drop q))
    cases limitP (nextWS (afterS 35 (rs.drop q))) with
    | none => rfl
    | some n =>
      dsimp only
      exact tailS_more _ n o _ (by omega)
  · rw [if_neg h1, if_neg h1]
    by_cases h3 : signS 64 (afterS 35 (rs.drop q)) = true
    · rw [if_pos h3, if_pos h3]
      by_cases h2 : 0 ≤ o
      · rw [if_pos h2, if_pos h2]
      rw [if_neg h2, if_neg h2]
      have a0 := afterS_le 35 (rs.drop q)
      have a1 := afterS_lt h3
      have a2 := restW_le (afterS 64 (afterS 35 (rs.drop q)))
      cases orderP (nextWS (afterS 64 (afterS 35 (rs.drop q)))) with
      | none => rfl
      | some n =>
        dsimp only
        exact tailS_more _ li n _ (by omega)
    · rw [if_neg h3, if_neg h3]
      by_cases h5 : signP rs (signP rs q 35) 64 < rs.length
      · rw [if_pos h5, if_pos (hlt.1 h5)]
      · rw [if_neg h5, if_neg (fun h => h5 (hlt.2 h))]
theorem signP_ge (rs : List Int) (q : Nat) (ch : Int) : q ≤ signP rs q ch := by unfold signP; have := skipB_ge rs q; split <;> omega
theorem signP_gt {rs : List Int} {q : Nat} {ch : Int} (h : signB rs q ch = true) : q < signP rs q ch := by unfold signP; have := skipB_ge rs q; rw [if_pos h]; omega
theorem wordE_ge (rs : List Int) (p : Nat) : p ≤ wordE rs p := Nat.le_add_right _ _

set_option maxRecDepth 100000 in
set_option maxHeartbeats 4000000 in
theorem query_parse (s : ByteArray) (w : World) (hT : FoldTab w) : Calls Tryd.prog 9 #[.string s] w fun e w' => (match parseS s with
    | .error k => e = .returned (.tuple #[.agg #[.int .i64 0, .int .u8 0, .slice none 0 0, .slice none 0 0, .int .i64 0, .int .i64 0], .int .i64 k])
    | .ok (n, li, o) => ∃ x0 x1 x2 x3, e = .returned (.tuple #[.agg #[x0, x1, x2, x3, .int .i64 li, .int .i64 o], .int .i64 0]) ∧ NodeV w' (fun x => w.heap.size ≤ x ∧ x < w'.heap.size) n [x0, x1, x2, x3]) ∧ Keeps (· < w.heap.size) w w' := by
  have hmf : ∀ (fn : Fn) (first cap : Array Value) (w : World), (Instr.makeFunc fn first cap).run Tryd.prog w = .ok (.func fn first cap) w := fun _ _ _ _ => rfl
  have HT := hid hT
  clear hT
  refine calls_hide fun R' hR' => ?_
  go_enter_defers Tryd.func9, Tryd.ntmps9
  by_cases h256 : 256 < s.size
  · have h2 : 256 < (s.size : Int) := by omega
    go_wp2_with fail
    refine parse_early (qb := w.heap.size) (eb := w.heap.size + 1) rfl rfl ((Blk.new w [.int .i64 0, .int .u8 0, .slice none 0 0, .slice none 0 0, .int .i64 0, .int .i64 0] _).alloc _) (Blk.new' _ [.int .i64 4] _ (by simp)) (hR'.out _ _ ?_)
    have hp : parseS s = .error 4 := by unfold parseS; rw [if_pos h256]
    rw [hp]
    exact ⟨rfl, ((Keeps.refl _ _).alloc (fun b hb => hb) _).alloc (fun b hb => by simp; omega) _⟩
  · have h2 : ¬ 256 < (s.size : Int) := by omega
    have hp : parseS s = parseR (runesS s) := by unfold parseS; rw [if_neg h256]
    have hrl : (runesS s).length ≤ 256 := Nat.le_trans (runesF_len s s.size 0) (by omega)
    have hrb : ∀ r ∈ runesS s, 0 ≤ r ∧ r ≤ 1114111 := runesF_bound s s.size 0
    have hqb : Blk ((w.alloc (.cells #[.int .i64 0, .int .u8 0, .slice none 0 0, .slice none 0 0, .int .i64 0, .int .i64 0] 28)).alloc (.cells #[.int .i64 0] 29)) w.heap.size [.int .i64 0, .int .u8 0, .slice none 0 0, .slice none 0 0, .int .i64 0, .int .i64 0] := (Blk.new w [.int .i64 0, .int .u8 0, .slice none 0 0, .slice none 0 0, .int .i64 0, .int .i64 0] _).alloc _
    have heb : Blk ((w.alloc (.cells #[.int .i64 0, .int .u8 0, .slice none 0 0, .slice none 0 0, .int .i64 0, .int .i64 0] 28)).alloc (.cells #[.int .i64 0] 29)) (w.heap.size + 1) [.int .i64 0] := Blk.new' _ [.int .i64 0] _ (by simp)
    have hk0 : Keeps (· < w.heap.size) w ((w.alloc (.cells #[.int .i64 0, .int .u8 0, .slice none 0 0, .slice none 0 0, .int .i64 0, .int .i64 0] 28)).alloc (.cells #[.int .i64 0] 29)) := ((Keeps.refl _ _).alloc (fun b hb => hb) _).alloc (fun b hb => by simp; omega) _
    have hT2 : FoldTab ((w.alloc (.cells #[.int .i64 0, .int .u8 0, .slice none 0 0, .slice none 0 0, .int .i64 0, .int .i64 0] 28)).alloc (.cells #[.int .i64 0] 29)) := HT.out.keep hk0
    have hgl := HT.out.lt
    have Hqb := hid hqb
    have Heb := hid heb
    have Hk0 := hid hk0
    have HT2 := hid hT2
    have Hp := hid hp
    clear hqb heb hk0 hT2 hp
    go_wp2_with fail
    refine (utf_runes s (by omega) _).mono ?_
    rintro e w1 ⟨v, rfl, hown, hk1⟩
    obtain ⟨A, c, rfl⟩ := ownB_form hown
    simp only [World.size_alloc] at hown hk1
    have hq1 := Hqb.out.keep hk1 (by omega)
    have he1 := Heb.out.keep hk1 (by omega)
    have hT1 := HT2.out.keep (hk1.mono fun b hb => by simp at hb; omega)
    have hk2 := Hk0.out.trans (hk1.mono fun b hb => by omega)
    have hs1 : w.heap.size + 2 ≤ w1.heap.size := by have := hk1.size; simp at this; omega
    have hform : (A = none ∧ c = 0 ∧ (runesS s).length = 0) ∨ ∃ g, A = some ⟨g, 0, none⟩ := by
      rcases hown.2 with ⟨h1, h2⟩ | ⟨g, cap, _, h1, _⟩
      · injection h1 with h1 h3 h4
        exact Or.inl ⟨h1, h4, h2⟩
      · injection h1 with h1 h3 h4
        exact Or.inr ⟨g, h1⟩
    have hsl := (ownB_slAt hown).keep ((Keeps.refl _ _).alloc (fun b hb => hb.2) (.cells #[.slice A (runesS s).length c, .int .i64 0] 59)) (fun x hx => hx)
    generalize runesS s = rs at *
    have hRd : RdQ (w1.alloc (.cells #[.slice A rs.length c, .int .i64 0] 59)) w1.heap.size (w.heap.size + 1) A c rs 0 := by
      have hsl2 : SlAt (w1.alloc (.cells #[.slice A rs.length c, .int .i64 0] 59)) (fun x => w.heap.size + 1 < x ∧ x < w1.heap.size) 1 (.slice A rs.length c) rs.length (rs.map (Value.int .i32)) := by
        obtain ⟨A', cap, e', a', b', c', d⟩ := hsl
        exact ⟨A', cap, e', a', b', c', fun hn => by obtain ⟨b', o, e', hb, hc⟩ := d hn; exact ⟨b', o, e', ⟨by omega, by omega⟩, hc⟩⟩
      refine ⟨⟨Blk.new w1 [.slice A rs.length c, .int .i64 0] _, ?_, hT1.keep ((Keeps.refl _ _).alloc (fun b hb => hb) _), by omega, Nat.zero_le _, hrl, hrb, hform⟩, hsl2, by omega, by omega⟩
      obtain ⟨A', cap, e', a', b', c', d⟩ := hsl2
      exact ⟨A', cap, e', a', b', c', fun hn => by obtain ⟨b', o, e', hb, hc⟩ := d hn; exact ⟨b', o, e', hb.2, hc⟩⟩
    have hq3 := hq1.alloc (.cells #[.slice A rs.length c, .int .i64 0] 59)
    have he3 := he1.alloc (.cells #[.slice A rs.length c, .int .i64 0] 59)
    have hk3 := hk2.alloc (fun b hb => by omega) (.cells #[.slice A rs.length c, .int .i64 0] 59)
    clear hq1 he1 hT1 hk2 hk1 hown hsl Hqb Heb Hk0 HT2 hform
    have HRd := hid hRd
    have Hq3 := hid hq3
    have He3 := hid he3
    have Hk3 := hid hk3
    clear hRd hq3 he3 hk3
    go_wp2_with fail
    refine (query_root _ _ _ _ _ _ HRd.out.rd).mono ?_
    rintro e w2 ⟨hr, hM⟩
    rw [List.drop_zero] at hr
    have hq4 := Hq3.out.keep hM ⟨Hq3.out.lt, by omega⟩
    have he4 := He3.out.keep hM ⟨He3.out.lt, by omega⟩
    have hk4 : Keeps (· < w.heap.size) w w2 := Keeps.trans Hk3.out (hM.mono fun b hb => ⟨by have := Hq3.out.lt; omega, by omega⟩)
    have hsz2 := hM.size
    rw [World.size_alloc] at hsz2
    have hpp := Hp.out
    unfold parseR at hpp
    cases hroot : rootS rs with
    | error k =>
      rw [hroot] at hr hpp
      dsimp only at hr hpp
      subst hr
      have Hpp := hid hpp
      have Hq4 := hid hq4
      have He4 := hid he4
      have Hk4 := hid hk4
      clear hpp hq4 he4 hk4
      clear hroot HRd Hq3 He3 Hk3 hM Hp
      unfold thrown
      go_wp2_with fail
      exact parse_caught rfl rfl Hq4.out rfl He4.out Hk4.out fun w' hk => hR'.out _ _ ⟨by rw [Hpp.out], hk⟩
    | ok x =>
      obtain ⟨n, l⟩ := x
      rw [hroot] at hr hpp
      dsimp only at hr hpp
      obtain ⟨cs, q, rfl, hN, hQ, rfl⟩ := hr
      obtain ⟨k0, f0, A1, n1, c1, A2, n2, c2, rfl⟩ := hN.form
      have hRq := HRd.out.mv hQ hM
      have hN2 := hN.keep (Keeps.refl _ _) (K' := fun x => w1.heap.size < x ∧ x < w2.heap.size) (fun x hx => ⟨by have := hx.1; rw [World.size_alloc] at this; omega, hx.2⟩)
      have hP := PSt.start hRq hq4 he4 hN2 hk4 (-1) (-1)
      have fq := hq4.free
      have y0 := (hq4).cell 0
      have y1 := (hq4).cell 1
      have y2 := (hq4).cell 2
      have y3 := (hq4).cell 3
      have y4 := (hq4).cell 4
      have y5 := (hq4).cell 5
      simp only [List.getElem?_cons_zero, List.getElem?_cons_succ] at y0 y1 y2 y3 y4 y5
      clear hroot HRd Hq3 He3 Hk3 hM Hp hN hQ hRq hN2 he4 hk4 hq4
      have Hpp := hid hpp
      have HP := hid hP
      clear hpp hP
      go_wp2_with fail
      go_loopw [] (fun wr => ∃ (q2 : Nat) (li o : Int), Hid (PSt w wr w1.heap.size A c rs q2 n (.int .i64 k0) (.int .u8 f0) (.slice A1 n1 c1) (.slice A2 n2 c2) li o) ∧ Hid (tailS ((rs.drop q2).length + 1) li o (rs.drop q2) = tailOf (rs.drop q))) (fun wr => rs.length - posOf w1.heap.size wr)
      case atStart => exact ⟨q, -1, -1, HP, hid rfl⟩
      case round =>
        obtain ⟨q2, li, o, HS, HE⟩ := hrel
        clear HP
        clear y0 y1 y2 y3 y4 y5 fq
        have hpos0 := HS.out.rd.rd.pos
        go_wp2_with fail
        refine (query_sign 35 HS.out.rd.rd).mono ?_
        rintro e w3 ⟨rfl, hQ3, hM3⟩
        have hS3 := HS.out.mv hQ3 hM3
        have hqs := signP_ge rs q2 35
        have hex := HE.out
        rw [tail_step] at hex
        clear HS hM3 hQ3 HE
        have HS := hid hS3
        clear hS3
        cases hs : signB rs q2 35 with
        | true =>
          have hgt := signP_gt hs
          rw [hs, if_pos rfl] at hex
          by_cases h0 : 0 ≤ li
          · rw [if_pos h0] at hex
            have hpx := Hpp.out
            rw [← hex] at hpx
            dsimp only at hpx
            have hb := HS.out.qb
            have y0 := (hb).cell 0
            have y1 := (hb).cell 1
            have y2 := (hb).cell 2
            have y3 := (hb).cell 3
            have y4 := (hb).cell 4
            have y5 := (hb).cell 5
            simp only [List.getElem?_cons_zero, List.getElem?_cons_succ] at y0 y1 y2 y3 y4 y5
            clear hb hs hex
            have Hpx := hid hpx
            clear hpx
            go_wp2_with fail
            exact parse_caught rfl rfl HS.out.qb rfl HS.out.eb HS.out.kp fun w' hk => hR'.out _ _ ⟨by rw [Hpx.out], hk⟩
          · rw [if_neg h0] at hex
            have hb := HS.out.qb
            have y0 := (hb).cell 0
            have y1 := (hb).cell 1
            have y2 := (hb).cell 2
            have y3 := (hb).cell 3
            have y4 := (hb).cell 4
            have y5 := (hb).cell 5
            simp only [List.getElem?_cons_zero, List.getElem?_cons_succ] at y0 y1 y2 y3 y4 y5
            clear hb hs
            have Hex := hid hex
            clear hex
            go_wp2_with fail
            refine (query_limit HS.out.rd.rd).mono ?_
            rintro e w4 ⟨hr4, hQ4, hM4⟩
            have hS4 := HS.out.mv hQ4 hM4
            have hex := Hex.out
            have hge := wordE_ge rs (skipB rs (signP rs q2 35))
            have hge2 := skipB_ge rs (signP rs q2 35)
            clear HS hM4 hQ4 Hex y0 y1 y2 y3 y4 y5
            cases hlp : limitP (nextW rs (signP rs q2 35)) with
            | none =>
              rw [hlp] at hr4 hex
              dsimp only at hr4 hex
              subst hr4
              have hpx := Hpp.out
              rw [← hex] at hpx
              dsimp only at hpx
              clear hlp hex
              have Hpx := hid hpx
              have HS := hid hS4
              clear hpx hS4
              unfold thrown
              go_wp2_with fail
              exact parse_caught rfl rfl HS.out.qb rfl HS.out.eb HS.out.kp fun w' hk => hR'.out _ _ ⟨by rw [Hpx.out], hk⟩
            | some k =>
              rw [hlp] at hr4 hex
              dsimp only at hr4 hex
              subst hr4
              have hS5 := hS4.set 4 (.int .i64 k) k o rfl
              have hpos5 := hS5.rd.rd.pos
              have hle5 := hS5.rd.rd.le
              have hb := hS4.qb
              have hfz := hb.free
              have y0 := (hb).cell 0
              have y1 := (hb).cell 1
              have y2 := (hb).cell 2
              have y3 := (hb).cell 3
              have y4 := (hb).cell 4
              have y5 := (hb).cell 5
              simp only [List.getElem?_cons_zero, List.getElem?_cons_succ] at y0 y1 y2 y3 y4 y5
              clear hlp hb hS4
              generalize wordE rs (skipB rs (signP rs q2 35)) = q5 at *
              have Hex := hid hex
              have HS5 := hid hS5
              clear hex hS5
              go_wp2_with fail
              go_roundw
              case rel => exact ⟨q5, k, o, HS5, Hex⟩
              case measure => rw [hpos5, hpos0]; omega
        | false =>
          rw [hs, if_neg (by decide)] at hex
          clear hs
          have Hex := hid hex
          clear hex
          go_wp2_with fail
          refine (query_sign 64 HS.out.rd.rd).mono ?_
          rintro e w4 ⟨rfl, hQ4, hM4⟩
          have hS4 := HS.out.mv hQ4 hM4
          have hex := Hex.out
          have hqs2 := signP_ge rs (signP rs q2 35) 64
          clear HS hM4 hQ4 Hex
          have HS := hid hS4
          clear hS4
          cases hs : signB rs (signP rs q2 35) 64 with
          | true =>
            have hgt := signP_gt hs
            rw [hs, if_pos rfl] at hex
            by_cases h0 : 0 ≤ o
            · rw [if_pos h0] at hex
              have hpx := Hpp.out
              rw [← hex] at hpx
              dsimp only at hpx
              have hb := HS.out.qb
              have y0 := (hb).cell 0
              have y1 := (hb).cell 1
              have y2 := (hb).cell 2
              have y3 := (hb).cell 3
              have y4 := (hb).cell 4
              have y5 := (hb).cell 5
              simp only [List.getElem?_cons_zero, List.getElem?_cons_succ] at y0 y1 y2 y3 y4 y5
              clear hb hs hex
              have Hpx := hid hpx
              clear hpx
              go_wp2_with fail
              exact parse_caught rfl rfl HS.out.qb rfl HS.out.eb HS.out.kp fun w' hk => hR'.out _ _ ⟨by rw [Hpx.out], hk⟩
            · rw [if_neg h0] at hex
              have hb := HS.out.qb
              have y0 := (hb).cell 0
              have y1 := (hb).cell 1
              have y2 := (hb).cell 2
              have y3 := (hb).cell 3
              have y4 := (hb).cell 4
              have y5 := (hb).cell 5
              simp only [List.getElem?_cons_zero, List.getElem?_cons_succ] at y0 y1 y2 y3 y4 y5
              clear hb hs
              have Hex := hid hex
              clear hex
              go_wp2_with fail
              refine (query_order HS.out.rd.rd).mono ?_
              rintro e w6 ⟨hr6, hQ4, hM4⟩
              have hS4 := HS.out.mv hQ4 hM4
              have hex := Hex.out
              have hge := wordE_ge rs (skipB rs (signP rs (signP rs q2 35) 64))
              have hge2 := skipB_ge rs (signP rs (signP rs q2 35) 64)
              clear HS hM4 hQ4 Hex y0 y1 y2 y3 y4 y5
              cases hlp : orderP (nextW rs (signP rs (signP rs q2 35) 64)) with
              | none =>
                rw [hlp] at hr6 hex
                dsimp only at hr6 hex
                subst hr6
                have hpx := Hpp.out
                rw [← hex] at hpx
                dsimp only at hpx
                clear hlp hex
                have Hpx := hid hpx
                have HS := hid hS4
                clear hpx hS4
                unfold thrown
                go_wp2_with fail
                exact parse_caught rfl rfl HS.out.qb rfl HS.out.eb HS.out.kp fun w' hk => hR'.out _ _ ⟨by rw [Hpx.out], hk⟩
              | some k =>
                rw [hlp] at hr6 hex
                dsimp only at hr6 hex
                subst hr6
                have hS5 := hS4.set 5 (.int .i64 k) li k rfl
                have hpos5 := hS5.rd.rd.pos
                have hle5 := hS5.rd.rd.le
                have hb := hS4.qb
                have hfz := hb.free
                have y0 := (hb).cell 0
                have y1 := (hb).cell 1
                have y2 := (hb).cell 2
                have y3 := (hb).cell 3
                have y4 := (hb).cell 4
                have y5 := (hb).cell 5
                simp only [List.getElem?_cons_zero, List.getElem?_cons_succ] at y0 y1 y2 y3 y4 y5
                clear hlp hb hS4
                generalize wordE rs (skipB rs (signP rs (signP rs q2 35) 64)) = q5 at *
                have Hex := hid hex
                have HS5 := hid hS5
                clear hex hS5
                go_wp2_with fail
                go_roundw
                case rel => exact ⟨q5, li, k, HS5, Hex⟩
                case measure => rw [hpos5, hpos0]; omega
          | false =>
            rw [hs, if_neg (by decide)] at hex
            clear hs
            generalize signP rs (signP rs q2 35) 64 = q4 at *
            have hb := HS.out.qb
            have hc := HS.out.rd.rd.blk
            have hlB := hc.lt
            have hfz := hb.free
            have hfe := HS.out.eb.free
            have hbe := HS.out.eb
            have y0 := (hb).cell 0
            have y1 := (hb).cell 1
            have y2 := (hb).cell 2
            have y3 := (hb).cell 3
            have y4 := (hb).cell 4
            have y5 := (hb).cell 5
            simp only [List.getElem?_cons_zero, List.getElem?_cons_succ] at y0 y1 y2 y3 y4 y5
            have z0 := (hc).cell 0
            have z1 := (hc).cell 1
            simp only [List.getElem?_cons_zero, List.getElem?_cons_succ] at z0 z1
            have d0 := (hbe).cell 0
            simp only [List.getElem?_cons_zero] at d0
            have hqlt := hb.lt
            have helt := hbe.lt
            have c0 := fun p : KP w4 w4.heap.size => KP.cell hlB z0 p
            have c1 := fun p : KP w4 w4.heap.size => KP.cell hlB z1 p
            clear hb hc hbe
            by_cases h9 : q4 < rs.length
            · have f1 : decide (q4 < rs.length) = true := decide_eq_true h9
              rw [if_pos h9] at hex
              have hpx := Hpp.out
              rw [← hex] at hpx
              dsimp only at hpx
              clear hex
              have Hpx := hid hpx
              clear hpx
              go_wp2_with fail
              refine wp_region_class w4.heap.size (by kernel_rfl) (by kernel_rfl) ?_
              repeat (go_big_quiet_step (fail))
              refine wpQuiet_nil ?_
              rintro _ ⟨⟨wq, hkq⟩, rfl⟩
              have hS5 := HS.out.mv (HS.out.rd.rd.keep hkq) (Mv.of_all hkq)
              clear HS c0 c1 y0 y1 y2 y3 y4 y5 z0 z1 d0 hfz hfe
              have HS := hid hS5
              clear hS5
              go_wp2_with fail
              exact parse_caught rfl rfl HS.out.qb rfl HS.out.eb HS.out.kp fun w' hk => hR'.out _ _ ⟨by rw [Hpx.out], hk⟩
            · have f1 : decide (q4 < rs.length) = false := decide_eq_false h9
              rw [if_neg h9] at hex
              have hpx := Hpp.out
              rw [← hex] at hpx
              dsimp only at hpx
              clear hex
              have Hpx := hid hpx
              clear hpx
              go_wp2_with fail
              refine wp_region_class w4.heap.size (by kernel_rfl) (by kernel_rfl) ?_
              repeat (go_big_quiet_step (fail))
              refine wpQuiet_nil ?_
              rintro _ ⟨⟨wq, hkq⟩, rfl⟩
              have hS5 := HS.out.mv (HS.out.rd.rd.keep hkq) (Mv.of_all hkq)
              clear HS c0 c1 y0 y1 y2 y3 y4 y5 z0 z1 d0 hfz hfe
              have hb := hS5.qb
              have y0 := (hb).cell 0
              have y1 := (hb).cell 1
              have y2 := (hb).cell 2
              have y3 := (hb).cell 3
              have y4 := (hb).cell 4
              have y5 := (hb).cell 5
              simp only [List.getElem?_cons_zero, List.getElem?_cons_succ] at y0 y1 y2 y3 y4 y5
              clear hb
              have HS := hid hS5
              clear hS5
              go_wp2_with fail
              refine (query_finished k0 f0 A1 A2 n1 c1 n2 c2 li o _).mono ?_
              have ef1 : (if li < 0 then (10 : Int) else li) = (finS (li, o)).1 := rfl
              have ef2 : max o 0 = (finS (li, o)).2 := rfl
              rw [ef1, ef2]
              clear ef1 ef2
              generalize finS (li, o) = fp at *
              obtain ⟨fl, fo⟩ := fp
              dsimp only
              rintro e w7 ⟨rfl, hk7⟩
              have hS7 := HS.out.mv (HS.out.rd.rd.keep hk7) (Mv.of_all hk7)
              have hb := hS7.qb
              have hfz := hb.free
              have hfe := hS7.eb.free
              have hbe := hS7.eb
              clear y0 y1 y2 y3 y4 y5 HS hk7
              have y0 := (hb).cell 0
              have y1 := (hb).cell 1
              have y2 := (hb).cell 2
              have y3 := (hb).cell 3
              have y4 := (hb).cell 4
              have y5 := (hb).cell 5
              simp only [List.getElem?_cons_zero, List.getElem?_cons_succ] at y0 y1 y2 y3 y4 y5
              have d0 := (hbe).cell 0
              simp only [List.getElem?_cons_zero] at d0
              have hS8 := hS7.set 0 (.int .i64 k0) li o rfl
              have hS8 := hS8.set 1 (.int .u8 f0) li o rfl
              have hS8 := hS8.set 2 (.slice A1 n1 c1) li o rfl
              have hS8 := hS8.set 3 (.slice A2 n2 c2) li o rfl
              have hS8 := hS8.set 4 (.int .i64 fl) fl o rfl
              have hS9 := hS8.set 5 (.int .i64 fo) fl fo rfl
              clear hb hbe hS8
              have HS7 := hid hS7
              have HS9 := hid hS9
              clear hS7 hS9
              go_wp2_with fail
              have hP := HS9.out.setE
              have hrl9 := hP.rd.lt
              exact parse_done rfl rfl hP.qb hP.eb (hR'.out _ _ ⟨by rw [Hpx.out]; exact ⟨_, _, _, _, rfl, hP.nd.keep (Keeps.refl _ _) (fun x hx => ⟨by omega, hx.2⟩)⟩, hP.kp⟩)
end Go.Proofs.YtbepgbkbpkaodaaDoor
