/- Layer 17 (query), Show: the text of a leaf. -/
import Derived.Test.YtbepgbkbpkaodaaDoorShowP
import Derived.Test.YtbepgbkbpkaodaaDoorShL
import Derived.Test.YtbepgbkbpkaodaaDoorJQryC
namespace Go.Proofs.YtbepgbkbpkaodaaDoor
open Go.RowKit

theorem SlAt.rec0 {α : Type} {f : α → List Value} {sz : Nat} {w : World} {K : Nat → Prop} {A : Option Addr} {c : Nat} {xs : List α} (hf : ∀ x ∈ xs, (f x).length = sz) (h : SlAt w K sz (.slice A xs.length c) xs.length (xs.flatMap f)) (x : α) (hi : xs[0]? = some x) :
    ∃ b off, A = some ⟨b, off, none⟩ ∧ K b ∧ ∀ (j : Nat) (u : Value), (f x)[j]? = some u → w.cell? ⟨b, off + j, none⟩ = some u := by
  obtain ⟨b, o, h1, h2, h3⟩ := SlAt.rec hf h 0 x hi
  exact ⟨b, o, h1, h2, fun j u hu => by have := h3 j u hu; simpa using this⟩
/-- an own row of texts in a new block -/
def NewS (w0 w : World) (v : Value) (xs : List ByteArray) : Prop := w.ownsRow w0.heap.size 9 1 v xs.length (xs.map Value.string) ∧ Keeps (· < w0.heap.size) w0 w
theorem NewS.push {w0 wr w' : World} {T : TypeId} {v v' : Value} {acc : List ByteArray} {x : ByteArray} (h : NewS w0 wr v acc) (hown : w'.ownsRow w0.heap.size 9 1 v' (acc.length + 1) (acc.map Value.string ++ [.string x])) (hg : (wr.alloc (.cells #[.string x] T)).grownBy w' v.ownBlock) : NewS w0 w' v' (acc ++ [x]) := by
  refine ⟨by rw [List.length_append, List.map_append]; exact hown, ?_⟩
  have k1 : Keeps (· < w0.heap.size) w0 (wr.alloc (.cells #[.string x] T)) := h.2.alloc (fun b hb => Nat.lt_of_lt_of_le hb h.2.size) _
  exact keeps_grown k1 k1.size (ownB_keepS h.1 ((Keeps.refl _ _).alloc (fun b hb => hb) _)) hg
theorem NewS.calls {w0 w w' : World} {v : Value} {xs : List ByteArray} (h : NewS w0 w v xs) (k : Keeps (· < w.heap.size) w w') : NewS w0 w' v xs :=
  ⟨ownB_keepS h.1 k, h.2.trans (k.mono fun b hb => Nat.lt_of_lt_of_le hb h.2.size)⟩
theorem NewS.cells {w0 w : World} {b o cp : Nat} {xs : List ByteArray} (h : NewS w0 w (.slice (some ⟨b, o, none⟩) xs.length cp) xs) (hn : 0 < xs.length) : o = 0 ∧ (∀ (j : Nat) x, xs[j]? = some x → w.cell? ⟨b, 0 + j, none⟩ = some (.string x)) ∧ b < w.heap.size ∧ xs.length ≤ cp := by
  obtain ⟨A, c, hv, hc1, _, _, hcell⟩ := ownB_slAtS h.1
  injection hv with e1 _ e3
  subst e1 e3
  obtain ⟨b2, o2, e, hK, hcs⟩ := hcell hn
  injection e with e
  injection e with e1 e2
  subst e1 e2
  obtain ⟨g, c9, hp⟩ := ownB_posS h.1 hn
  injection hp with e _ _
  injection e with e
  injection e with e1 e2
  subst e1 e2
  refine ⟨rfl, fun j x hx => ?_, hK.2, hc1⟩
  exact hcs j _ (by rw [List.getElem?_map, hx]; rfl)
theorem Tryd.infoStr : (Tryd.prog.info? 9).map (fun i => (i.zero, i.size, i.bytes)) = some (some (.string ⟨#[]⟩), 1, 16) := by kernel_rfl

theorem sumL_mem {α : Type} (f : α → Nat) : ∀ (l : List α) (a : α), a ∈ l → f a ≤ sumL f l
  | b :: l, a, h => by
    rw [sumL]
    rcases List.mem_cons.1 h with rfl | h
    · omega
    · have := sumL_mem f l a h
      omega
/-- the program's row of texts, the pieces so far -/
def bytesL (xs : List ByteArray) : List (List UInt8) := xs.map fun x => x.data.toList
theorem join_row {w0 w : World} {A : Option Addr} {cp : Nat} {xs : List ByteArray} (h : NewS w0 w (.slice A xs.length cp) xs) (sep : ByteArray) (hn : xs.length ≤ 1000000) (hl : (Lib.join (bytesL xs) sep.data.toList).length ≤ 140737488355328) :
    Calls Tryd.prog 57 #[.slice A xs.length cp, .string sep] w fun e w' => e = .returned (.string ⟨(Lib.join (bytesL xs) sep.data.toList).toArray⟩) ∧ Keeps (· < w.heap.size) w w' := by
  by_cases hx : xs.length = 0
  · have : xs = [] := List.eq_nil_of_length_eq_zero hx
    subst this
    refine (Tryd.strings_Join_none A cp sep w).mono ?_
    rintro e w' ⟨rfl, rfl⟩
    exact ⟨rfl, Keeps.refl _ _⟩
  · obtain ⟨g, c, hp⟩ := ownB_posS h.1 (by omega)
    injection hp with e1 _ e3
    subst e1 e3
    obtain ⟨_, hc, hb, hcap⟩ := h.cells (by omega)
    refine (Tryd.strings_Join g 0 cp xs sep w hc hb (by omega) hcap hl).mono ?_
    rintro e w' ⟨rfl, hk⟩
    exact ⟨rfl, ⟨hk.os, hk.tape, hk.output, hk.size, hk.block⟩⟩
theorem join_le (xs : List (List UInt8)) (sep : List UInt8) : (Lib.join xs sep).length ≤ Lib.lens xs + sep.length * xs.length := by
  cases xs with
  | nil => simp [Lib.join_nil]
  | cons x r =>
    rw [Lib.join_length, List.length_cons, Nat.mul_succ]
    omega

set_option maxRecDepth 100000 in
set_option maxHeartbeats 4000000 in
theorem query_leafT (k f : Int) (ts : List (Int × ByteArray × Int)) (A1 A2 : Option Addr) (c1 n2 c2 : Nat) (w : World) (K : Nat → Prop) (hb : ∀ b, K b → b < w.heap.size) (hT : FoldTab w) (h1 : SlAt w K 3 (.slice A1 ts.length c1) ts.length (ts.flatMap tokG))
    (hf : 0 ≤ f ∧ f ≤ 255) (ht : ∀ t ∈ ts, (0 ≤ t.1 ∧ t.1 ≤ 255) ∧ (-9223372036854775808 ≤ t.2.2 ∧ t.2.2 ≤ 9223372036854775807)) (hl : ts.length ≤ 3000) (hs : textsN ts ≤ 3000) :
    Calls Tryd.prog 44 #[.agg #[.int .i64 k, .int .u8 f, .slice A1 ts.length c1, .slice A2 n2 c2]] w fun e w' => ∃ s : ByteArray, e = .returned (.tuple #[.string s, .bool (leafOk f ts)]) ∧ (leafOk f ts = true → s.data.toList = leafX f ts) ∧ (leafOk f ts = false → s.data.toList = []) ∧ s.size ≤ textsN ts + 600 ∧ Keeps (· < w.heap.size) w w' := by
  obtain ⟨hf0, hf1⟩ := hf
  have hkw : Keeps (· < w.heap.size) w (w.alloc (.cells #[.int .i64 k, .int .u8 f, .slice A1 ts.length c1, .slice A2 n2 c2] 26)) := (Keeps.refl _ _).alloc (fun b hb => hb) _
  have hB : Blk (w.alloc (.cells #[.int .i64 k, .int .u8 f, .slice A1 ts.length c1, .slice A2 n2 c2] 26)) w.heap.size [.int .i64 k, .int .u8 f, .slice A1 ts.length c1, .slice A2 n2 c2] := Blk.new w _ _
  have hsz : (w.alloc (.cells #[.int .i64 k, .int .u8 f, .slice A1 ts.length c1, .slice A2 n2 c2] 26)).heap.size = w.heap.size + 1 := by rw [World.size_alloc]
  have HT := hid hT
  have H1 := hid h1
  have Hb := hid hb
  have Ht := hid ht
  have Hkw := hid hkw
  have HB := hid hB
  have Hs := hid hs
  clear hT h1 hb ht hkw hB hs
  refine calls_hide fun R' hR' => ?_
  go_enter Tryd.func44, Tryd.ntmps44
  by_cases hf3 : 3 < f
  · have hf3b : decide (3 < f) = true := decide_eq_true hf3
    go_wp2_with fail
    refine hR'.out _ _ ⟨⟨#[]⟩, ?_, ?_, fun _ => rfl, Nat.zero_le _, Hkw.out⟩
    · have : leafOk f ts = false := by unfold leafOk; rw [decide_eq_false (by omega), Bool.false_and, Bool.false_and]
      rw [this]
      rfl
    · have : leafOk f ts = false := by unfold leafOk; rw [decide_eq_false (by omega), Bool.false_and, Bool.false_and]
      rw [this]
      intro h
      cases h
  · have hf3b : ¬ 3 < f := hf3
    have hlk0 : leafOk f ts = (headOk ts && termsOk f 0 (ts.drop 0)) := by unfold leafOk; rw [decide_eq_true (by omega : f ≤ 3), Bool.true_and]; rfl
    have Hlk0 := hid hlk0
    clear hlk0
    go_wp2_with fail
    have hsl : w.heap.size < (w.alloc (.cells #[.int .i64 k, .int .u8 f, .slice A1 ts.length c1, .slice A2 n2 c2] 26)).heap.size := by omega
    clear hsz
    generalize w.alloc (.cells #[.int .i64 k, .int .u8 f, .slice A1 ts.length c1, .slice A2 n2 c2] 26) = W1 at *
    have hz := HB.out
    go_loopw [4, 5, 16] (fun ov pv iv wx => ∃ (i : Nat) (acc : List ByteArray) (A : Option Addr) (cp : Nat), ov = .slice A acc.length cp ∧ pv = .int .i64 (acc.length : Int) ∧ iv = .int .i64 (i : Int) ∧ i ≤ ts.length ∧ acc.length ≤ 257 ∧ Hid (leafOk f ts = (headOk ts && termsOk f (acc.length : Int) (ts.drop i))) ∧ Hid (0 < i → headOk ts = true) ∧ Hid (bytesL acc ++ outL (acc.length : Int) (ts.drop i) = outL 0 ts) ∧ Hid (Lib.lens (bytesL acc) ≤ textsN (ts.take i) + acc.length) ∧ Hid (NewS W1 wx (.slice A acc.length cp) acc)) (fun _ _ iv _ => ts.length - (intOf iv).toNat)
    case atStart => exact ⟨0, [], none, 0, rfl, rfl, rfl, Nat.zero_le _, Nat.zero_le _, Hlk0, hid (fun h => absurd h (by decide)), hid rfl, hid (Nat.zero_le _), hid ⟨⟨rfl, Or.inl ⟨rfl, rfl⟩⟩, Keeps.refl _ _⟩⟩
    case round =>
      clear Hlk0
      obtain ⟨i, acc, A, cp, rfl, rfl, rfl, hi, hal, HO, HH, HE, HL, HN⟩ := hrel
      have hkr := HN.out.2
      have hZ := HB.out.keep hkr hsl
      have hwr := hkr.size
      by_cases hlt : i < ts.length
      · have hltI : (i : Int) < (ts.length : Int) := by omega
        obtain ⟨⟨tf, tt, tp⟩, hx⟩ : ∃ x, ts[i]? = some x := ⟨_, List.getElem?_eq_getElem hlt⟩
        obtain ⟨⟨tf0, tt0, tp0⟩, hx0⟩ : ∃ x, ts[0]? = some x := ⟨_, List.getElem?_eq_getElem (by omega)⟩
        have hd : ts.drop i = (tf, tt, tp) :: ts.drop (i + 1) := by
          obtain ⟨h9, h8⟩ := List.getElem?_eq_some_iff.1 hx
          rw [List.drop_eq_getElem_cons h9, h8]
        have hhd : headOk ts = (tp0 == 0) := by
          cases ts with
          | nil => cases hx0
          | cons y l =>
            injection hx0 with hx0
            subst hx0
            rfl
        obtain ⟨b0, o0, hA0, hk0, g0⟩ := SlAt.rec0 (f := tokG) (fun _ _ => rfl) H1.out _ hx0
        obtain ⟨b1, o1, hA1, hk1, g1⟩ := SlAt.rec (f := tokG) (fun _ _ => rfl) H1.out i _ hx
        subst hA0
        injection hA1 with hA1
        injection hA1 with e1 e2
        subst e1 e2
        have hh0 := Hb.out _ hk0
        have hkw2 := Hkw.out.trans (hkr.mono fun b hb => by omega)
        have q0 := (World.cell?_of_block (a := ⟨b0, o0 + 2, none⟩) (hkw2.block b0 hh0)).trans (g0 2 _ rfl)
        have a0 := (World.cell?_of_block (a := ⟨b0, o0 + i * 3 + 0, none⟩) (hkw2.block b0 hh0)).trans (g1 0 _ rfl)
        have a1 := (World.cell?_of_block (a := ⟨b0, o0 + i * 3 + 1, none⟩) (hkw2.block b0 hh0)).trans (g1 1 _ rfl)
        have a2 := (World.cell?_of_block (a := ⟨b0, o0 + i * 3 + 2, none⟩) (hkw2.block b0 hh0)).trans (g1 2 _ rfl)
        simp only [Nat.add_zero] at a0
        have htx := Ht.out _ (List.mem_of_getElem? hx)
        have hts := sumL_take (fun t : Int × ByteArray × Int => t.2.1.size) ts i _ hx
        have hts : textsN (ts.take (i + 1)) = textsN (ts.take i) + tt.size := hts
        have hob : b0 ≠ wr.heap.size := by omega
        have hTw := HT.out.keep hkw2
        obtain ⟨⟨htf0, htf1⟩, htp0, htp1⟩ := htx
        have htt : tt.size ≤ 1000000 := by have := sumL_mem (fun t : Int × ByteArray × Int => t.2.1.size) ts _ (List.mem_of_getElem? hx); have h3 := Hs.out; have : tt.size ≤ textsN ts := this; omega
        clear g0 g1 hx hx0 hk0 hk1
        have ho2 : leafOk f ts = ((tp0 == 0) && (tf == f && wordOk tt && decide ((acc.length : Int) ≤ tp) && decide (tp ≤ 256) && termsOk f (tp + 1) (ts.drop (i + 1)))) := by
          have := HO.out
          rw [hd, hhd] at this
          exact this
        have he2 : bytesL acc ++ (List.replicate (tp - (acc.length : Int)).toNat [97] ++ tt.data.toList :: outL (tp + 1) (ts.drop (i + 1))) = outL 0 ts := by
          have := HE.out
          rw [hd] at this
          exact this
        have hFail : ∀ W', Keeps (· < w.heap.size) w W' → leafOk f ts = false → R' (.returned (.tuple #[.string ⟨#[]⟩, .bool false])) W' := fun W' hk hlf => hR'.out _ _ ⟨⟨#[]⟩, by rw [hlf], (fun h => by rw [hlf] at h; cases h), fun _ => rfl, Nat.zero_le _, hk⟩
        clear HO HE
        have Hd := hid hd
        have Hhd := hid hhd
        have Hts := hid hts
        have Hkw2 := hid hkw2
        have Hkr := hid hkr
        have HTw := hid hTw
        have Ho2 := hid ho2
        have He2 := hid he2
        have HFail := hid hFail
        clear hd hhd hts hkw2 hkr hTw ho2 he2 hFail
        have hZl := hZ.lt
        have z0 := (hZ).cell 0
        have z1 := (hZ).cell 1
        have z2 := (hZ).cell 2
        have z3 := (hZ).cell 3
        simp only [List.getElem?_cons_zero, List.getElem?_cons_succ] at z0 z1 z2 z3
        clear hZ
        go_wp2_with fail
        have hk3 : Keeps (· < wr.heap.size) wr (wr.alloc (.cells #[.int .u8 tf, .string tt, .int .i64 tp] 42)) := (Keeps.refl _ _).alloc (fun b hb => hb) _
        refine (token_words tt htt _ (HTw.out.keep hk3)).mono ?_
        rintro e w3 ⟨v, rfl, hTR⟩
        have hB3 : Blk w3 wr.heap.size [.int .u8 tf, .string tt, .int .i64 tp] := (Blk.new wr _ _).keep hTR.2 (by simp)
        have hk4 : Keeps (· < wr.heap.size) wr w3 := hk3.trans (hTR.2.mono fun b hb => by simp; omega)
        have hk4r : Keeps (· < wr.heap.size) wr w3 := hk4
        have q0 := (World.cell?_of_block (a := ⟨b0, o0 + 2, none⟩) (hk4.block b0 (by omega))).trans q0
        have z0 := (World.cell?_of_block (a := ⟨w.heap.size, 0, none⟩) (hk4.block w.heap.size (by omega))).trans z0
        have z1 := (World.cell?_of_block (a := ⟨w.heap.size, 1, none⟩) (hk4.block w.heap.size (by omega))).trans z1
        have z2 := (World.cell?_of_block (a := ⟨w.heap.size, 2, none⟩) (hk4.block w.heap.size (by omega))).trans z2
        have hBl := hB3.lt
        have hN3 := HN.out.calls hk4
        have hT3 : Two W1.heap.size W1 w3 9 1 (.slice A acc.length cp) acc.length (acc.map Value.string) 42 3 (.slice (some ⟨wr.heap.size, 0, none⟩) 1 1) 1 [.int .u8 tf, .string tt, .int .i64 tp] :=
          ⟨hN3.1, ownB_keepS (own_lit wr _ _ 42 3 1 [.int .u8 tf, .string tt, .int .i64 tp] rfl rfl (by decide) Hkr.out.size) hTR.2, fun y h1 h2 => by
            have := (ownB_lt HN.out.1 h1).2
            injection h2 with h2
            have h2 : wr.heap.size = y := h2
            omega, hN3.2, Nat.le_trans Hkr.out.size hk4.size⟩
        have hk4s := hk4.size
        have y0 := (hB3).cell 0
        have y1 := (hB3).cell 1
        have y2 := (hB3).cell 2
        simp only [List.getElem?_cons_zero, List.getElem?_cons_succ] at y0 y1 y2
        clear hB3 a0 a1 a2 hk3 hk4 HN z3
        have hrow := hTR.1
        clear hTR
        generalize hws : wordsR 0 (runesS tt) = ws at *
        clear hN3
        have HT3 := hid hT3
        have Hk4r := hid hk4r
        have Hws := hid hws
        clear hT3 hk4r hws
        have hmo := hrow
        obtain ⟨A3, c3, rfl⟩ := ownB_form hrow
        have hkw3 := Hkw2.out.trans (Hk4r.out.mono fun b hb => by omega)
        have Hkw3 := hid hkw3
        clear hkw3
        by_cases h1 : tf = f
        · have f1 : (tf != f) = false := by simp [h1]
          by_cases h2 : ws.length = 1
          · have f2 : ((ws.length : Int) != 1) = false := by simp [h2]
            obtain ⟨g, c4, hpos⟩ := ownB_posS hrow (by omega)
            injection hpos with e1 _ e3
            subst e1 e3
            obtain ⟨⟨x, px⟩, hx1⟩ : ∃ x, ws[0]? = some x := ⟨_, List.getElem?_eq_getElem (by omega)⟩
            have hc1 := own_newsS hmo 1 (.string x) (by
              cases ws with
              | nil => cases hx1
              | cons y t => injection hx1 with hx1; subst hx1; rfl)
            rw [Addr.add_lit, Nat.zero_add] at hc1
            have hwo : wordOk tt = (x.toList == tt.toList) := by
              unfold wordOk
              rw [Hws.out, h2, hx1]
              rfl
            clear hrow hmo hx1
            have Hwo := hid hwo
            clear hwo
            by_cases h3 : x.toList = tt.toList
            · have f3 : (x.toList == tt.toList) = true := by simp [h3]
              by_cases h4 : tp < (acc.length : Int)
              · have f4 : decide (tp < (acc.length : Int)) = true := decide_eq_true h4
                have hno : leafOk f ts = false := by rw [Ho2.out, decide_eq_false (by omega : ¬ (acc.length : Int) ≤ tp)]; simp
                have Hno := hid hno
                clear hno
                go_wp2_with fail
                go_quiet (fail)
                go_wp2_with fail
                exact HFail.out _ (Hkw3.out.drewN nq) Hno.out
              · have f4 : decide (tp < (acc.length : Int)) = false := decide_eq_false h4
                by_cases h5 : 256 < tp
                · have f5 : decide (256 < tp) = true := decide_eq_true h5
                  have hno : leafOk f ts = false := by rw [Ho2.out, decide_eq_false (by omega : ¬ tp ≤ 256)]; simp
                  have Hno := hid hno
                  clear hno
                  go_wp2_with fail
                  go_quiet (fail)
                  go_wp2_with fail
                  exact HFail.out _ (Hkw3.out.drewN nq) Hno.out
                · have f5 : decide (256 < tp) = false := decide_eq_false h5
                  by_cases h6 : tp0 = 0
                  · have f6 : (tp0 != 0) = false := by simp [h6]
                    have ho3 : leafOk f ts = (headOk ts && termsOk f (tp + 1) (ts.drop (i + 1))) := by
                      rw [Ho2.out, Hhd.out, Hwo.out, f3, decide_eq_true (by omega : (acc.length : Int) ≤ tp), decide_eq_true (by omega : tp ≤ 256)]
                      simp [h1]
                    have hh3 : headOk ts = true := by rw [Hhd.out]; simp [h6]
                    have Ho3 := hid ho3
                    have Hh3 := hid hh3
                    clear ho3 hh3
                    go_wp2_with fail
                    go_quiet (fail)
                    have k43 : Keeps (· < w3.heap.size) w3 (w3.drewN nq) := (Keeps.refl _ _).drewN nq
                    have hT4 := HT3.out.calls k43
                    have hacc : (acc.length : Int) ≤ tp := by omega
                    have htp3 : tp ≤ 256 := by omega
                    generalize w3.drewN nq = w4 at *
                    clear HT3 y0 y1 y2 hc1 f1 f2 f3 f4 f5 f6 z0 z1 z2 q0 k43 h3 h4 h5 h6 htf0 htf1 h2 hBl hk4s
                    have HT4 := hid hT4
                    clear hT4
                    go_wp2_with fail
                    go_loopw [4, 5] (fun ov pv wx => ∃ (acc2 : List ByteArray) (A' : Option Addr) (cp' : Nat), ov = .slice A' acc2.length cp' ∧ pv = .int .i64 (acc2.length : Int) ∧ (acc2.length : Int) ≤ tp ∧ acc.length ≤ acc2.length ∧ Hid (bytesL acc2 = bytesL acc ++ List.replicate (acc2.length - acc.length) [97]) ∧ Hid (Two W1.heap.size W1 wx 9 1 (.slice A' acc2.length cp') acc2.length (acc2.map Value.string) 42 3 (.slice (some ⟨wr.heap.size, 0, none⟩) 1 1) 1 [.int .u8 tf, .string tt, .int .i64 tp])) (fun _ pv _ => tp.toNat - (intOf pv).toNat)
                    case atStart => exact ⟨acc, A, cp, rfl, rfl, hacc, Nat.le_refl _, hid (by simp), HT4⟩
                    case round =>
                      clear HT4
                      rename World => wx
                      obtain ⟨acc2, A', cp', rfl, rfl, h7, h8, HR, HT4⟩ := hrel
                      have y2 := own_newsS HT4.out.o2 2 _ rfl
                      have y1 := own_newsS HT4.out.o2 1 _ rfl
                      rw [Addr.add_lit, Nat.zero_add] at y1 y2
                      have hle9 := HT4.out.le
                      by_cases h9 : (acc2.length : Int) < tp
                      · obtain ⟨i0, hi, hz0, hz1, hz2⟩ := info_partsF Tryd.infoStr
                        go_wp2_with (at_builtin; go_must (refine wpList_append_own_at _ rfl _ _ 84 rfl (W1.heap.size) 9 i0 (.string ⟨#[]⟩) 1 16 Tryd.underlying84 hi hz0 hz1 hz2 rfl (by decide) (.slice A' acc2.length cp') acc2.length (acc2.map Value.string) rfl (ownB_keepS HT4.out.o1 ((Keeps.refl _ _).alloc (fun b hb => hb) _)) ⟨wx.heap.size, 0, none⟩ 1 1 [.string ⟨#[97]⟩] rfl (by simp) (own_newsS (own_lit wx 0 _ _ 1 1 [.string ⟨#[97]⟩] rfl rfl (by decide) (Nat.zero_le _))) ?_ ?_ ?_ ?_ ?_))
                        all_goals (try (first | with_reducible exact one1 _ _ | with_reducible exact one2 _ _ _ | with_reducible exact one4 _ _ _ _ _ | with_reducible exact oneM _ _ | exact rfl | exact fun _ _ => rfl | exact ⟨rfl, rfl⟩ | exact ⟨rfl, rfl, rfl⟩ | exact ⟨rfl, rfl, rfl, rfl⟩ | (unfold maxLen; omega) | omega | (simp; omega) | (simp; done)))
                        (try clear hi)
                        (try clear hz0)
                        (try clear hz1)
                        (try clear hz2)
                        all_goals (try (first | (intro u hu; simp only [List.mem_singleton] at hu; subst hu; rfl) | (simp only [maxLen]; omega) | (simp only [World.size_alloc] at *; omega)))
                        intro v' w7 hown hgr _ hf
                        have hT5 := (HT4.out.calls ((Keeps.refl _ _).alloc (fun b hb => hb) (.cells #[.string ⟨#[97]⟩] 9))).app hown hgr (by simpa using hf)
                        obtain ⟨A5, cp5, rfl⟩ := ownB_form hown
                        have hln : acc2.length + 1 = (acc2 ++ [(⟨#[97]⟩ : ByteArray)]).length := by simp
                        have hfm : acc2.map Value.string ++ [.string ⟨#[97]⟩] = (acc2 ++ [(⟨#[97]⟩ : ByteArray)]).map Value.string := by simp
                        have hbl : bytesL (acc2 ++ [(⟨#[97]⟩ : ByteArray)]) = bytesL acc ++ List.replicate ((acc2 ++ [(⟨#[97]⟩ : ByteArray)]).length - acc.length) [97] := by
                          rw [← hln, Nat.sub_add_comm h8, List.replicate_succ', ← List.append_assoc, ← HR.out]
                          unfold bytesL
                          simp
                        rw [hln, hfm] at hT5
                        have hpl : (acc2.length : Int) + 1 = ((acc2 ++ [(⟨#[97]⟩ : ByteArray)]).length : Int) := by simp
                        have h8' : acc.length ≤ (acc2 ++ [(⟨#[97]⟩ : ByteArray)]).length := by simp; omega
                        have h7' : ((acc2 ++ [(⟨#[97]⟩ : ByteArray)]).length : Int) ≤ tp := by omega
                        have hms : ((acc2 ++ [(⟨#[97]⟩ : ByteArray)]).length : Int) = (acc2.length : Int) + 1 := hpl.symm
                        rw [hln]
                        generalize acc2 ++ [(⟨#[97]⟩ : ByteArray)] = acc5 at *
                        clear hown hgr hf HT4 hln hfm y1 y2 HR
                        have HT5 := hid hT5
                        have Hbl := hid hbl
                        have Hms := hid hms
                        have Hpl := hid hpl
                        clear hT5 hbl hms hpl
                        go_wp2_with fail
                        go_roundw
                        case rel => exact ⟨acc5, A5, cp5, rfl, by rw [Hpl.out], h7', h8', Hbl, HT5⟩
                        case measure => have := Hms.out; first | (simp [intOf]; done) | (simp [intOf]; omega)
                      · have h9' : (acc2.length : Int) = tp := by omega
                        have hpa : (acc2.length : Int) + 1 = ((acc2 ++ [tt]).length : Int) := by simp
                        have hfm : acc2.map Value.string ++ [.string tt] = (acc2 ++ [tt]).map Value.string := by simp
                        have hln : acc2.length + 1 = (acc2 ++ [tt]).length := by simp
                        have hb5 : bytesL (acc2 ++ [tt]) = bytesL acc ++ List.replicate (tp - (acc.length : Int)).toNat [97] ++ [tt.data.toList] := by
                          have : (tp - (acc.length : Int)).toNat = acc2.length - acc.length := by omega
                          rw [this, ← HR.out]
                          unfold bytesL
                          simp
                        have hO5 : leafOk f ts = (headOk ts && termsOk f ((acc2 ++ [tt]).length : Int) (ts.drop (i + 1))) := by rw [← hpa, h9']; exact Ho3.out
                        have hE5 : bytesL (acc2 ++ [tt]) ++ outL ((acc2 ++ [tt]).length : Int) (ts.drop (i + 1)) = outL 0 ts := by
                          rw [← hpa, h9', hb5, ← He2.out]
                          simp
                        have hL5 : Lib.lens (bytesL (acc2 ++ [tt])) ≤ textsN (ts.take (i + 1)) + (acc2 ++ [tt]).length := by
                          have h0 := HL.out
                          rw [hb5, Hts.out, ← hln]
                          have hrep : ∀ n : Nat, Lib.lens (List.replicate n [97]) = n := fun n => by unfold Lib.lens; simp
                          have happ : ∀ a b : List (List UInt8), Lib.lens (a ++ b) = Lib.lens a + Lib.lens b := fun a b => by unfold Lib.lens; simp
                          rw [happ, happ, hrep]
                          have : Lib.lens [tt.data.toList] = tt.size := by unfold Lib.lens; simp
                          rw [this]
                          omega
                        have hl5 : (acc2 ++ [tt]).length ≤ 257 := by omega
                        have hb6 : (acc2.length : Int) ≤ 256 := by omega
                        clear h9' HR hb5 h7 hacc h8 htp3 hal
                        have HO5 := hid hO5
                        have HE5 := hid hE5
                        have HL5 := hid hL5
                        have Hln := hid hln
                        have Hfm := hid hfm
                        have Hpa := hid hpa
                        clear hO5 hE5 hL5 hln hfm hpa
                        obtain ⟨i0, hi, hz0, hz1, hz2⟩ := info_partsF Tryd.infoStr
                        go_wp2_with (at_builtin; go_must (refine wpList_append_own_at _ rfl _ _ 84 rfl (W1.heap.size) 9 i0 (.string ⟨#[]⟩) 1 16 Tryd.underlying84 hi hz0 hz1 hz2 rfl (by decide) (.slice A' acc2.length cp') acc2.length (acc2.map Value.string) rfl (ownB_keepS HT4.out.o1 ((Keeps.refl _ _).alloc (fun b hb => hb) _)) ⟨wx.heap.size, 0, none⟩ 1 1 [.string tt] rfl (by simp) (own_newsS (own_lit wx 0 _ _ 1 1 [.string tt] rfl rfl (by decide) (Nat.zero_le _))) ?_ ?_ ?_ ?_ ?_))
                        all_goals (try (first | with_reducible exact one1 _ _ | with_reducible exact one2 _ _ _ | with_reducible exact one4 _ _ _ _ _ | with_reducible exact oneM _ _ | exact rfl | exact fun _ _ => rfl | exact ⟨rfl, rfl⟩ | exact ⟨rfl, rfl, rfl⟩ | exact ⟨rfl, rfl, rfl, rfl⟩ | (unfold maxLen; omega) | omega | (simp; omega) | (simp; done)))
                        (try clear hi)
                        (try clear hz0)
                        (try clear hz1)
                        (try clear hz2)
                        all_goals (try (first | (intro u hu; simp only [List.mem_singleton] at hu; subst hu; rfl) | (simp only [maxLen]; omega) | (simp only [World.size_alloc] at *; omega)))
                        intro v' w7 hown hgr _ hf
                        have hT5 := (HT4.out.calls ((Keeps.refl _ _).alloc (fun b hb => hb) (.cells #[.string tt] 9))).app hown hgr (by simpa using hf)
                        obtain ⟨A5, cp5, rfl⟩ := ownB_form hown
                        have hln := Hln.out
                        have hpa := Hpa.out
                        rw [hln, Hfm.out] at hT5
                        rw [hln]
                        clear Hfm Hln Hpa
                        generalize acc2 ++ [tt] = acc5 at *
                        have hN5 : NewS W1 w7 (.slice A5 acc5.length cp5) acc5 := ⟨hT5.o1, hT5.keeps⟩
                        clear hown hgr hf HT4 hln y1 y2 hT5
                        have HN5 := hid hN5
                        have Hpa := hid hpa
                        clear hN5 hpa
                        go_wp2_with fail
                        go_roundw
                        case rel => exact ⟨i + 1, acc5, A5, cp5, rfl, by rw [Hpa.out], by go_num, by omega, hl5, HO5, hid (fun _ => Hh3.out), HE5, HL5, HN5⟩
                        case measure => first | (simp [intOf]; done) | (simp [intOf]; omega)
                  · have f6 : (tp0 != 0) = true := by simp [h6]
                    have hno : leafOk f ts = false := by
                      have : (tp0 == 0) = false := by simpa using h6
                      rw [Ho2.out, this]
                      simp
                    have Hno := hid hno
                    clear hno
                    go_wp2_with fail
                    go_quiet (fail)
                    go_wp2_with fail
                    exact HFail.out _ (Hkw3.out.drewN nq) Hno.out
            · have f3 : (x.toList == tt.toList) = false := by simp [h3]
              have hno : leafOk f ts = false := by rw [Ho2.out, Hwo.out, f3]; simp
              have Hno := hid hno
              clear hno
              go_wp2_with fail
              go_quiet (fail)
              go_wp2_with fail
              exact HFail.out _ (Hkw3.out.drewN nq) Hno.out
          · have f2 : ((ws.length : Int) != 1) = true := by simp; omega
            have hno : leafOk f ts = false := by
              have : wordOk tt = false := by unfold wordOk; rw [Hws.out]; simp [h2]
              rw [Ho2.out, this]
              simp
            clear hmo hrow h1 h2
            have Hno := hid hno
            clear hno
            go_wp2_with fail
            go_quiet (fail)
            go_wp2_with fail
            exact HFail.out _ (Hkw3.out.drewN nq) Hno.out
        · have f1 : (tf != f) = true := by simp [h1]
          have hno : leafOk f ts = false := by
            rw [Ho2.out]
            have : (tf == f) = false := by simpa using h1
            rw [this]
            simp
          clear hmo hrow h1
          have Hno := hid hno
          clear hno
          go_wp2_with fail
          go_quiet (fail)
          go_wp2_with fail
          exact HFail.out _ (Hkw3.out.drewN nq) Hno.out
      · obtain rfl : i = ts.length := by omega
        have hltI : ¬ (ts.length : Int) < (ts.length : Int) := by omega
        have hok : leafOk f ts = true := by
          rw [HO.out, List.drop_length]
          show (headOk ts && true) = true
          rw [Bool.and_true]
          by_cases h0 : 0 < ts.length
          · exact HH.out h0
          · have : ts = [] := List.eq_nil_of_length_eq_zero (by omega)
            rw [this]
            rfl
        have hE : bytesL acc = outL 0 ts := by
          have := HE.out
          rw [List.drop_length] at this
          rw [← this]
          show _ = _ ++ []
          rw [List.append_nil]
        have hLl : Lib.lens (bytesL acc) ≤ textsN ts + 257 := by
          have := HL.out
          rw [List.take_length] at this
          omega
        have hjl : (Lib.join (bytesL acc) [32]).length ≤ textsN ts + 514 := by
          have h1 := join_le (bytesL acc) [32]
          have h2 : (bytesL acc).length = acc.length := by unfold bytesL; simp
          simp only [List.length_singleton] at h1
          omega
        have hs3 := Hs.out
        have hq : leafQ ts = Lib.join (bytesL acc) [32] := by unfold leafQ; rw [hE]
        have hkwr := Hkw.out.trans (hkr.mono fun b hb => by omega)
        have hwrs := hkr.size
        have hjr := join_row HN.out ⟨#[32]⟩ (by omega) (by show (Lib.join (bytesL acc) [32]).length ≤ _; omega)
        have hjr : Calls Tryd.prog 57 #[.slice A acc.length cp, .string ⟨#[32]⟩] wr fun e w' => e = .returned (.string ⟨(Lib.join (bytesL acc) [32]).toArray⟩) ∧ Keeps (· < wr.heap.size) wr w' := hjr
        generalize Lib.join (bytesL acc) [32] = jn at *
        clear HO HH HE HL HN hE hLl hal
        have hZl := hZ.lt
        have Hok := hid hok
        have Hkwr := hid hkwr
        have Hjr := hid hjr
        have Hq := hid hq
        have Hkr := hid hkr
        clear hok hkwr hjr hq hkr
        go_wp2_with fail
        refine Hjr.out.mono ?_
        rintro e w5 ⟨rfl, hk5⟩
        have hB5 := hZ.keep hk5 (by omega)
        have hk6 := Hkwr.out.trans (hk5.mono fun b hb => by omega)
        have hw5 := hk6.size
        have hZl5 := hB5.lt
        have hjs : (⟨jn.toArray⟩ : ByteArray).size = jn.length := rfl
        have hjd : (⟨jn.toArray⟩ : ByteArray).data.toList = jn := rfl
        generalize (⟨jn.toArray⟩ : ByteArray) = js at *
        have z0 := (hB5).cell 0
        have z1 := (hB5).cell 1
        have z2 := (hB5).cell 2
        have z3 := (hB5).cell 3
        simp only [List.getElem?_cons_zero, List.getElem?_cons_succ] at z0 z1 z2 z3
        clear hB5 hZ hk5 Hjr
        have Hk6 := hid hk6
        have Hjd := hid hjd
        clear hk6 hjd
        have hjb : js.size ≤ 4000 := by omega
        have hjt : js.size ≤ textsN ts + 514 := by omega
        have hnn := u8v_of (48 + f).toNat (by omega)
        rw [show (((48 + f).toNat : Nat) : Int) = 48 + f by omega] at hnn
        have hpre : (⟨#[UInt8.ofNat (48 + f).toNat, 58]⟩ : ByteArray).size = 2 := rfl
        have hpd : (⟨#[UInt8.ofNat (48 + f).toNat, 58]⟩ : ByteArray).data.toList = [UInt8.ofNat (48 + f).toNat, 58] := rfl
        have hcv0 : (convert 67 9 (.slice (some ⟨w5.heap.size, 0, none⟩) 2 2)).run Tryd.prog (w5.alloc (.cells #[.int .u8 (48 + f), .int .u8 58] 5)) = .ok (.string ⟨#[UInt8.ofNat (48 + f).toNat, 58]⟩) (w5.alloc (.cells #[.int .u8 (48 + f), .int .u8 58] 5)) := by
          have hNB := NewB.lit w5 [UInt8.ofNat (48 + f).toNat, 58] 2 5 rfl rfl (by decide)
          rw [List.map_cons, List.map_cons, List.map_nil, hnn] at hNB
          exact conv_own (P := Tryd.prog) Tryd.underlying67 Tryd.underlying5 Tryd.underlying9 (bs := [UInt8.ofNat (48 + f).toNat, 58]) hNB.1
        generalize (⟨#[UInt8.ofNat (48 + f).toNat, 58]⟩ : ByteArray) = pre at *
        have hk7 : Keeps (· < w.heap.size) w (w5.alloc (.cells #[.int .u8 (48 + f), .int .u8 58] 5)) := Hk6.out.alloc (fun b hb => by omega) _
        clear hjs hnn
        have Hpd := hid hpd
        have Hk7 := hid hk7
        have Hjt := hid hjt
        clear hpd hk7 hjt
        by_cases h1 : ts.length = 1
        · have hl1 : ((ts.length : Int) != 1) = false := by simp [h1]
          have hx : leafX f ts = [UInt8.ofNat (48 + f).toNat, 58] ++ jn := by
            unfold leafX
            rw [if_pos h1, Hq.out]
            rfl
          clear h1
          have Hx := hid hx
          clear hx
          go_wp2_with fail
          refine hR'.out _ _ ⟨pre ++ js, by rw [Hok.out]; rfl, fun _ => ?_, (fun h => by rw [Hok.out] at h; cases h), ?_, Hk7.out⟩
          · rw [ByteArray.data_append, Array.toList_append, Hpd.out, Hjd.out, Hx.out]
          · rw [ByteArray.size_append, hpre]
            have := Hjt.out
            omega
        · have hl1 : ((ts.length : Int) != 1) = true := by simp; omega
          have hx : leafX f ts = [UInt8.ofNat (48 + f).toNat, 58] ++ (34 :: (jn ++ [34])) := by
            unfold leafX
            rw [if_neg h1, Hq.out]
            rfl
          clear h1
          have Hx := hid hx
          clear hx
          go_wp2_with fail
          refine hR'.out _ _ ⟨pre ++ ((⟨#[34]⟩ ++ js) ++ ⟨#[34]⟩), by rw [Hok.out]; rfl, fun _ => ?_, (fun h => by rw [Hok.out] at h; cases h), ?_, Hk7.out⟩
          · rw [ByteArray.data_append, ByteArray.data_append, ByteArray.data_append, Array.toList_append, Array.toList_append, Array.toList_append, Hpd.out, Hjd.out, Hx.out]
            rfl
          · rw [ByteArray.size_append, ByteArray.size_append, ByteArray.size_append, hpre]
            have := Hjt.out
            show 2 + (1 + js.size + 1) ≤ _
            omega
end Go.Proofs.YtbepgbkbpkaodaaDoor
