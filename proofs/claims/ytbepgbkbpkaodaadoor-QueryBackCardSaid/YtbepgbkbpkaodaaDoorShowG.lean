/- Layer 17's document: how deep a tree is. -/
import Derived.Test.YtbepgbkbpkaodaaDoorShowF
import Derived.Test.YtbepgbkbpkaodaaDoorShowL
import Derived.Deep.CutRange
import Derived.Deep.CutBlock
namespace Go.Proofs.YtbepgbkbpkaodaaDoor
open Go.RowKit

theorem deepL_le (left : Nat) (h : ∀ n, deepN left n ≤ 99 + 2 * left) : ∀ (l : List Nd) (pk : Int), deepL left l pk ≤ 100 + 2 * left
  | [], pk => by rw [deepL_nil]; omega
  | n :: l, pk => by
    have h1 := deepL_le left h l pk
    have h2 := h n
    rw [deepL_cons]
    split <;> omega
theorem deepN_le : ∀ (left : Nat) (n : Nd), deepN left n ≤ 99 + 2 * left
  | 0, n => by unfold deepN; omega
  | left + 1, .mk k f ts kids => by
    have h1 := deepL_le left (deepN_le left) kids k
    rw [deepN_mk]
    split
    · split <;> omega
    · split
      · split <;> omega
      · omega
def shapeOk (k f : Int) (ts : List (Int × ByteArray × Int)) (kids : List Nd) : Bool := sevOk f ts && ((k == 4 && kids.length == 1) || ((k == 2 || k == 3) && decide (2 ≤ kids.length)))
theorem shapeOk_iff (k f : Int) (ts : List (Int × ByteArray × Int)) (kids : List Nd) : shapeOk k f ts kids = true ↔ f = 0 ∧ ts.length = 0 ∧ ((k = 4 ∧ kids.length = 1) ∨ ((k = 2 ∨ k = 3) ∧ 2 ≤ kids.length)) := by
  unfold shapeOk sevOk
  simp only [Bool.and_eq_true, Bool.or_eq_true, beq_iff_eq, decide_eq_true_eq]
  exact ⟨fun ⟨⟨a, b⟩, c⟩ => ⟨a, b, c⟩, fun ⟨a, b, c⟩ => ⟨⟨a, b⟩, c⟩⟩
set_option maxRecDepth 100000 in
set_option maxHeartbeats 4000000 in
theorem ref17_deep : ∀ (left : Nat) (n : Nd) (w : World) (K : Nat → Prop) (k f : Int) (A1 A2 : Option Addr) (n1 c1 n2 c2 m : Nat), left ≤ 40 → (∀ b, K b → b < w.heap.size) → NodeV w K n [.int .i64 k, .int .u8 f, .slice A1 n1 c1, .slice A2 n2 c2] → NdOk n → Tot n m → m ≤ 3000 →
    Calls Tryd.prog 38 #[.agg #[.int .i64 k, .int .u8 f, .slice A1 n1 c1, .slice A2 n2 c2], .int .i64 (left : Int)] w fun e w' => e = .returned (.int .i64 (deepN left n : Int)) ∧ Keeps (· < w.heap.size) w w' := by
  intro left
  induction left with
  | zero =>
    intro n w K k f A1 A2 n1 c1 n2 c2 m _ _ _ _ _ _
    have hkw : Keeps (· < w.heap.size) w (w.alloc (.cells #[.int .i64 k, .int .u8 f, .slice A1 n1 c1, .slice A2 n2 c2] 26)) := (Keeps.refl _ _).alloc (fun b hb => hb) _
    have hd : deepN 0 n = 99 := by unfold deepN; rfl
    rw [hd]
    clear hd
    have Hkw := hid hkw
    clear hkw
    refine calls_hide fun R' hR' => ?_
    go_enter Tryd.func38, Tryd.ntmps38
    go_wp2_with fail
    exact hR'.out _ _ ⟨rfl, Hkw.out⟩
  | succ left ih =>
    intro n w K k f A1 A2 n1 c1 n2 c2 m hle hb hv ho ht hm
    cases hv with
    | mk _ _ ts kids css v1 v2 h1 h2 hl hk =>
    cases ho with
    | mk _ _ _ _ o1 o2 o3 o5 o4 =>
    obtain ⟨ns, rfl, hnl, htk⟩ := ht.parts
    have hkl := len_le_sum kids ns hnl htk
    obtain ⟨A1', c1', e1, hc1a, hc1b, _⟩ := id h1
    injection e1 with x1 x2 x3
    subst x1 x2 x3
    obtain ⟨A2', c2', e1, hc2a, hc2b, _⟩ := id h2
    injection e1 with x1 x2 x3
    subst x1 x2 x3
    obtain ⟨o21, o22⟩ := o2
    have hkw : Keeps (· < w.heap.size) w (w.alloc (.cells #[.int .i64 k, .int .u8 f, .slice A1 ts.length c1, .slice A2 kids.length c2] 26)) := (Keeps.refl _ _).alloc (fun b hb => hb) _
    have hB : Blk (w.alloc (.cells #[.int .i64 k, .int .u8 f, .slice A1 ts.length c1, .slice A2 kids.length c2] 26)) w.heap.size [.int .i64 k, .int .u8 f, .slice A1 ts.length c1, .slice A2 kids.length c2] := Blk.new w _ _
    have hsz : w.heap.size < (w.alloc (.cells #[.int .i64 k, .int .u8 f, .slice A1 ts.length c1, .slice A2 kids.length c2] 26)).heap.size := by rw [World.size_alloc]; omega
    have hdm := deepN_mk left k f ts kids
    obtain ⟨dv, hdv⟩ : ∃ dv, dv = deepN (left + 1) (.mk k f ts kids) := ⟨_, rfl⟩
    rw [← hdv] at hdm ⊢
    clear hdv
    rw [show ((left + 1 : Nat) : Int) = (left : Int) + 1 by omega]
    have hle0 : ((left : Int) + 1 == 0) = false := by
      have : (left : Int) + 1 ≠ 0 := by omega
      simpa using this
    obtain ⟨bad, hbad⟩ : ∃ bad, bad = !(shapeOk k f ts kids) := ⟨_, rfl⟩
    have hbt : ¬ (f = 0 ∧ ts.length = 0 ∧ ((k = 4 ∧ kids.length = 1) ∨ ((k = 2 ∨ k = 3) ∧ 2 ≤ kids.length))) → bad = true := fun h => by
      rw [hbad]
      cases hs : shapeOk k f ts kids with
      | false => rfl
      | true => exact absurd ((shapeOk_iff k f ts kids).1 hs) h
    have hbf : (f = 0 ∧ ts.length = 0 ∧ ((k = 4 ∧ kids.length = 1) ∨ ((k = 2 ∨ k = 3) ∧ 2 ≤ kids.length))) → bad = false := fun h => by
      rw [hbad, (shapeOk_iff k f ts kids).2 h]
      rfl
    have hdm2 : dv = if k = 1 then (if kids.length == 0 && leafOk f ts then 0 else 99) else if bad then 99 else deepL left kids k + (if k = 4 then 1 else 0) := by
      rw [hdm, hbad]
      show (if k = 1 then _ else if shapeOk k f ts kids = true then _ else 99) = _
      cases shapeOk k f ts kids <;> rfl
    have hdm := hdm2
    have H1 := hid h1
    have H2 := hid h2
    have Hk := hid hk
    have Hb := hid hb
    have O3 := hid o3
    have O4 := hid o4
    have Htk := hid htk
    have Hdm := hid hdm
    have Ht := hid ht
    have Hkw := hid hkw
    have HB := hid hB
    have Ih := hid ih
    have Hbad := hid hbad
    have Hbt := hid hbt
    have Hbf := hid hbf
    clear h1 h2 hk hb o3 o4 htk hdm ht hkw hB ih hbad hbt hbf
    clear hdm2
    clear o5 hc1b hc2b
    refine calls_hide fun R' hR' => ?_
    go_enter Tryd.func38, Tryd.ntmps38
    by_cases hk1 : k = 1
    · have k1 : (k == 1) = true := by simp [hk1]
      have hdm := Hdm.out
      rw [if_pos hk1] at hdm
      clear hk1
      have hcall := ref17_mayLeaf k f ts A1 A2 c1 kids.length c2 (w.alloc (.cells #[.int .i64 k, .int .u8 f, .slice A1 ts.length c1, .slice A2 kids.length c2] 26)) K (fun b h => Nat.lt_of_lt_of_le (Hb.out b h) Hkw.out.size) (H1.out.keep Hkw.out Hb.out) ⟨o21, o22⟩ (fun t ht => ⟨(O3.out t ht).1, (O3.out t ht).2.2⟩) (by omega) (by omega) (by omega)
      clear Hdm
      generalize (kids.length == 0 && leafOk f ts) = bl at *
      have Hcall := hid hcall
      have Hdm := hid hdm
      clear hcall hdm
      go_wp2_with fail
      refine Hcall.out.mono ?_
      rintro e w2 ⟨rfl, g⟩
      have hdm := Hdm.out
      clear Hdm
      have hk2 := Hkw.out.trans (g.mono fun b hb => Nat.lt_of_lt_of_le hb Hkw.out.size)
      clear g Hcall
      have Hk2 := hid hk2
      clear hk2
      cases bl with
      | true =>
        have hdz : dv = 0 := hdm
        clear hdm
        have Hdz := hid hdz
        clear hdz
        go_wp2_with fail
        exact hR'.out _ _ ⟨by rw [Hdz.out]; rfl, Hk2.out⟩
      | false =>
        have hdz : dv = 99 := hdm
        clear hdm
        have Hdz := hid hdz
        clear hdz
        go_wp2_with fail
        exact hR'.out _ _ ⟨by rw [Hdz.out]; rfl, Hk2.out⟩
    · have k1 : (k == 1) = false := by simpa using hk1
      have hdm := Hdm.out
      rw [if_neg hk1] at hdm
      clear Hdm
      go_upto_region 7 with fail
      generalize w.alloc (.cells #[.int .i64 k, .int .u8 f, .slice A1 ts.length c1, .slice A2 kids.length c2] 26) = W1 at *
      have hz := HB.out
      have hzl := hz.lt
      have z0 := (hz).cell 0
      have z1 := (hz).cell 1
      have z2 := (hz).cell 2
      have z3 := (hz).cell 3
      simp only [List.getElem?_cons_zero, List.getElem?_cons_succ] at z0 z1 z2 z3
      clear hz
      go_cut [56] from 16 to 56 (fun bv wx => bv = .bool bad ∧ W1 = wx)
      case first =>
        by_cases q2 : f = 0
        · have q2b : (f != 0) = false := by simp [q2]
          by_cases q3 : ts.length = 0
          · obtain rfl : ts = [] := List.eq_nil_of_length_eq_zero q3
            have q3I : ¬ (0 : Int) < ((([] : List (Int × ByteArray × Int)).length : Nat) : Int) := by decide
            by_cases q4 : k < 2
            · have q4b : decide (k < 2) = true := decide_eq_true q4
              have hb9 : bad = true := Hbt.out (by omega)
              clear q2 q3 hdm hk1
              subst hb9
              go_wp2_with fail
              go_meet
              case rel => exact ⟨rfl, rfl⟩
            · have q4b : ¬ k < 2 := q4
              by_cases q5 : 4 < k
              · have q5b : decide (4 < k) = true := decide_eq_true q5
                have hb9 : bad = true := Hbt.out (by omega)
                clear q2 q3 hdm hk1
                subst hb9
                go_wp2_with fail
                go_meet
                case rel => exact ⟨rfl, rfl⟩
              · have q5b : ¬ 4 < k := q5
                by_cases q6 : k = 4
                · have q6b : (k == 4) = true := by simp [q6]
                  have q6c : ¬ k < 4 := by omega
                  by_cases q7 : kids.length = 1
                  · have q7b : ((kids.length : Int) != 1) = false := by simp [q7]
                    have hb9 : bad = false := Hbf.out (by omega)
                    clear q2 q3 hdm hk1 q7 q6 q4 q5
                    subst hb9
                    go_wp2_with fail
                    go_meet
                    case rel => exact ⟨rfl, rfl⟩
                  · have q7b : ((kids.length : Int) != 1) = true := by
                      have : (kids.length : Int) ≠ 1 := by omega
                      simpa using this
                    have hb9 : bad = true := Hbt.out (by omega)
                    clear q2 q3 hdm hk1 q7 q6 q4 q5
                    subst hb9
                    go_wp2_with fail
                    go_meet
                    case rel => exact ⟨rfl, rfl⟩
                · have q6b : (k == 4) = false := by simpa using q6
                  have q6c : k < 4 := by omega
                  by_cases q7 : kids.length < 2
                  · have q7b : (kids.length : Int) < 2 := by omega
                    have hb9 : bad = true := Hbt.out (by omega)
                    clear q2 q3 hdm hk1 q7 q6 q4 q5
                    subst hb9
                    go_wp2_with fail
                    go_meet
                    case rel => exact ⟨rfl, rfl⟩
                  · have q7b : ¬ (kids.length : Int) < 2 := by omega
                    have hb9 : bad = false := Hbf.out (by omega)
                    clear q2 q3 hdm hk1 q7 q6 q4 q5
                    subst hb9
                    go_wp2_with fail
                    go_meet
                    case rel => exact ⟨rfl, rfl⟩
          · have q3I : (0 : Int) < (ts.length : Int) := by omega
            have q3N : 0 < ts.length := by omega
            have hb9 : bad = true := Hbt.out (by omega)
            clear q2 q3 hdm hk1
            subst hb9
            go_wp2_with fail
            go_meet
            case rel => exact ⟨rfl, rfl⟩
        · have q2b : (f != 0) = true := by simpa using q2
          have hb9 : bad = true := Hbt.out (by omega)
          clear q2 hdm hk1
          subst hb9
          go_wp2_with fail
          go_meet
          case rel => exact ⟨rfl, rfl⟩
      case rest =>
        obtain ⟨rfl, rfl⟩ := hcut
        cases bad with
        | true =>
          have hdz : dv = 99 := hdm
          clear hdm
          have Hdz := hid hdz
          clear hdz
          go_wp2_with fail
          exact hR'.out _ _ ⟨by rw [Hdz.out]; rfl, Hkw.out⟩
        | false =>
          have hdz : dv = deepL left kids k + (if k = 4 then 1 else 0) := hdm
          have hll := deepL_le left (deepN_le left) kids k
          clear hdm
          have Hdz := hid hdz
          clear hdz
          go_wp2_with fail
          go_loopw [5, 60] (fun mv iv wx => ∃ (i mo : Nat), mv = .int .i64 (mo : Int) ∧ iv = .int .i64 (i : Int) ∧ i ≤ kids.length ∧ mo ≤ 200 ∧ Hid (deepL left kids k = max mo (deepL left (kids.drop i) k)) ∧ Hid (Keeps (· < W1.heap.size) W1 wx)) (fun _ iv _ => kids.length - (intOf iv).toNat)
          case atStart => exact ⟨0, 0, rfl, rfl, Nat.zero_le _, by decide, hid (by simp), hid (Keeps.refl _ _)⟩
          case round =>
            obtain ⟨i, mo, rfl, rfl, hi, hmo, HO, HK⟩ := hrel
            have hkr := HK.out
            have hwr := hkr.size
            have hZ := HB.out.keep hkr hsz
            have z0 := (hZ).cell 0
            have z1 := (hZ).cell 1
            have z2 := (hZ).cell 2
            have z3 := (hZ).cell 3
            simp only [List.getElem?_cons_zero, List.getElem?_cons_succ] at z0 z1 z2 z3
            clear hZ
            by_cases hlt : i < kids.length
            · have hltI : (i : Int) < (kids.length : Int) := by omega
              obtain ⟨n, hn1⟩ : ∃ n, kids[i]? = some n := ⟨_, List.getElem?_eq_getElem hlt⟩
              obtain ⟨cs, hcs⟩ : ∃ cs, css[i]? = some cs := ⟨_, List.getElem?_eq_getElem (by omega)⟩
              obtain ⟨m, hm1⟩ : ∃ m, ns[i]? = some m := ⟨_, List.getElem?_eq_getElem (by omega)⟩
              have hN1 := Hk.out i n cs hn1 hcs
              obtain ⟨kk, kf, B1, m1, d1, B2, m2, d2, rfl⟩ := hN1.form
              have hkn : kindN n = kk := by cases hN1; rfl
              have hS1 := H2.out
              rw [← hl, ← List.flatMap_id] at hS1
              obtain ⟨b1, p1, rfl, hkb1, c1'⟩ := SlAt.rec (f := id) (kids_len4 hl Hk.out) hS1 i _ hcs
              have hh1 := Hb.out _ hkb1
              have hkw2 := Hkw.out.trans (hkr.mono fun b hb => by omega)
              have tr : ∀ b o u, b < w.heap.size → w.cell? ⟨b, o, none⟩ = some u → wr.cell? ⟨b, o, none⟩ = some u := fun b o u hb hc => (World.cell?_of_block (a := ⟨b, o, none⟩) (hkw2.block b hb)).trans hc
              have a0 := tr _ _ _ hh1 (c1' 0 _ rfl)
              have a1 := tr _ _ _ hh1 (c1' 1 _ rfl)
              have a2 := tr _ _ _ hh1 (c1' 2 _ rfl)
              have a3 := tr _ _ _ hh1 (c1' 3 _ rfl)
              simp only [Nat.add_zero] at a0
              have hdr : kids.drop i = n :: kids.drop (i + 1) := by
                obtain ⟨h9, h8⟩ := List.getElem?_eq_some_iff.1 hn1
                rw [List.drop_eq_getElem_cons h9, h8]
              have hsn : sumL id (ns.take (i + 1)) = sumL id (ns.take i) + m := sumL_take id ns i m hm1
              have hsle : sumL id (ns.take i) + m ≤ sumL id ns := by rw [← hsn]; exact sumL_take_le id ns (i + 1)
              have ho2 : deepL left kids k = max mo (max (deepN left n + if brk k kk then 1 else 0) (deepL left (kids.drop (i + 1)) k)) := by rw [HO.out, hdr, deepL_cons, hkn]
              have hk3 : Keeps (· < wr.heap.size) wr (wr.alloc (.cells #[.int .i64 kk, .int .u8 kf, .slice B1 m1 d1, .slice B2 m2 d2] 26)) := (Keeps.refl _ _).alloc (fun b hb => hb) _
              have hkw3 := hkw2.trans (hk3.mono fun b hb => by omega)
              have hcall := Ih.out n (wr.alloc (.cells #[.int .i64 kk, .int .u8 kf, .slice B1 m1 d1, .slice B2 m2 d2] 26)) K kk kf B1 B2 m1 d1 m2 d2 m (by omega) (fun b hb => Nat.lt_of_lt_of_le (Hb.out b hb) hkw3.size) (hN1.keepK hkw3 Hb.out) (O4.out n (List.mem_of_getElem? hn1)) (Htk.out i n m hn1 hm1) (by omega)
              have hdn := deepN_le left n
              generalize deepN left n = dn at *
              clear hN1 hS1 tr c1' hcs hn1 hm1 hdr hkn hsn hsle HO
              have Hcall := hid hcall
              have Ho2 := hid ho2
              have Hkw2 := hid hkw2
              have Hkw3 := hid hkw3
              have Hkr := hid hkr
              clear hcall ho2 hkw2 hkw3 hkr
              go_wp2_with fail
              refine Hcall.out.mono ?_
              rintro e w3 ⟨rfl, hk4⟩
              have hk5 : Keeps (· < wr.heap.size) wr w3 := hk3.trans (hk4.mono fun b hb => by simp; omega)
              have hB3 : Blk w3 wr.heap.size [.int .i64 kk, .int .u8 kf, .slice B1 m1 d1, .slice B2 m2 d2] := (Blk.new wr _ _).keep hk4 (by simp)
              have hk6 := Hkr.out.trans (hk5.mono fun b hb => by omega)
              have z0 := (World.cell?_of_block (a := ⟨w.heap.size, 0, none⟩) (hk5.block w.heap.size (by omega))).trans z0
              have z3 := (World.cell?_of_block (a := ⟨w.heap.size, 3, none⟩) (hk5.block w.heap.size (by omega))).trans z3
              have y0 := (hB3).cell 0
              have y1 := (hB3).cell 1
              have y2 := (hB3).cell 2
              have y3 := (hB3).cell 3
              simp only [List.getElem?_cons_zero, List.getElem?_cons_succ] at y0 y1 y2 y3
              clear hB3 hk5 hk4 hk3 a0 a1 a2 a3 Hcall z1 z2
              have Hk6 := hid hk6
              clear hk6
              by_cases r3 : kk = 3
              · have r3b : (kk == 3) = true := by simp [r3]
                have hbv : brk k kk = true := by unfold brk; simp [*]
                have ho3 : deepL left kids k = max (max mo (dn + 1)) (deepL left (kids.drop (i + 1)) k) := by
                  rw [Ho2.out, hbv]
                  simp only [if_true, Bool.false_eq_true, if_false]
                  omega
                clear hbv Ho2 r3
                have Ho3 := hid ho3
                clear ho3
                go_wp2_with fail
                go_roundw
                case rel => exact ⟨i + 1, max mo (dn + 1), by first | go_num | (congr 1; omega) | (simp; omega), by go_num, by omega, by omega, Ho3, Hk6⟩
                case measure => first | (simp [intOf]; done) | (simp [intOf]; omega)
              · have r3b : (kk == 3) = false := by simpa using r3
                by_cases r2 : kk = 2
                · have r2b : (kk == 2) = true := by simp [r2]
                  by_cases rk : k = 3
                  · have rkb : (k != 3) = false := by simp [rk]
                    have rkc : (k == 3) = true := by simp [rk]
                    have hbv : brk k kk = false := by unfold brk; simp [*]
                    have ho3 : deepL left kids k = max (max mo (dn + 0)) (deepL left (kids.drop (i + 1)) k) := by
                      rw [Ho2.out, hbv]
                      simp only [if_true, Bool.false_eq_true, if_false]
                      omega
                    clear hbv Ho2 r3 r2 rk rkc
                    have Ho3 := hid ho3
                    clear ho3
                    go_wp2_with fail
                    go_roundw
                    case rel => exact ⟨i + 1, max mo (dn + 0), by first | go_num | (congr 1; omega) | (simp; omega), by go_num, by omega, by omega, Ho3, Hk6⟩
                    case measure => first | (simp [intOf]; done) | (simp [intOf]; omega)
                  · have rkb : (k != 3) = true := by simp [rk]
                    have rkc : (k == 3) = false := by simpa using rk
                    have hbv : brk k kk = true := by unfold brk; simp [*]
                    have ho3 : deepL left kids k = max (max mo (dn + 1)) (deepL left (kids.drop (i + 1)) k) := by
                      rw [Ho2.out, hbv]
                      simp only [if_true, Bool.false_eq_true, if_false]
                      omega
                    clear hbv Ho2 r3 r2 rk rkc
                    have Ho3 := hid ho3
                    clear ho3
                    go_wp2_with fail
                    go_roundw
                    case rel => exact ⟨i + 1, max mo (dn + 1), by first | go_num | (congr 1; omega) | (simp; omega), by go_num, by omega, by omega, Ho3, Hk6⟩
                    case measure => first | (simp [intOf]; done) | (simp [intOf]; omega)
                · have r2b : (kk == 2) = false := by simpa using r2
                  have hbv : brk k kk = false := by unfold brk; simp [*]
                  have ho3 : deepL left kids k = max (max mo (dn + 0)) (deepL left (kids.drop (i + 1)) k) := by
                    rw [Ho2.out, hbv]
                    simp only [if_true, Bool.false_eq_true, if_false]
                    omega
                  clear hbv Ho2 r3 r2
                  have Ho3 := hid ho3
                  clear ho3
                  go_wp2_with fail
                  go_roundw
                  case rel => exact ⟨i + 1, max mo (dn + 0), by first | go_num | (congr 1; omega) | (simp; omega), by go_num, by omega, by omega, Ho3, Hk6⟩
                  case measure => first | (simp [intOf]; done) | (simp [intOf]; omega)
            · obtain rfl : i = kids.length := by omega
              have hltI : ¬ (kids.length : Int) < (kids.length : Int) := by omega
              have hmo2 : deepL left kids k = mo := by
                have := HO.out
                rw [List.drop_length, deepL_nil] at this
                omega
              have hk9 := Hkw.out.trans (hkr.mono fun b hb => by omega)
              clear HO
              have Hk9 := hid hk9
              have Hmo2 := hid hmo2
              clear hk9 hmo2
              by_cases rk : k = 4
              · have rkb : (k == 4) = true := by simp [rk]
                have hdz := Hdz.out
                rw [if_pos rk, Hmo2.out] at hdz
                clear rk
                have HDZ2 := hid hdz
                clear hdz
                go_wp2_with fail
                exact hR'.out _ _ ⟨by rw [HDZ2.out]; rfl, Hk9.out⟩
              · have rkb : (k == 4) = false := by simpa using rk
                have hdz := Hdz.out
                rw [if_neg rk, Hmo2.out] at hdz
                clear rk
                have HDZ2 := hid hdz
                clear hdz
                go_wp2_with fail
                exact hR'.out _ _ ⟨by rw [HDZ2.out]; rfl, Hk9.out⟩
end Go.Proofs.YtbepgbkbpkaodaaDoor
