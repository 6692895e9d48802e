/- Layer 17's document: the text of a node. -/
import Derived.Test.YtbepgbkbpkaodaaDoorShowJ
import Derived.Test.YtbepgbkbpkaodaaDoorShowH
namespace Go.Proofs.YtbepgbkbpkaodaaDoor
open Go.RowKit

def TextC (n : Nd) : Prop := ∀ (w : World) (K : Nat → Prop) (k f : Int) (A1 A2 : Option Addr) (n1 c1 n2 c2 m : Nat), (∀ b, K b → b < w.heap.size) → NodeV w K n [.int .i64 k, .int .u8 f, .slice A1 n1 c1, .slice A2 n2 c2] → NdOk n → Tot n m → m ≤ 3000 → (∃ d, okN n d = true) →
    Calls Tryd.prog 37 #[.agg #[.int .i64 k, .int .u8 f, .slice A1 n1 c1, .slice A2 n2 c2]] w fun e w' => e = .returned (.string (rtxt n)) ∧ Keeps (· < w.heap.size) w w'
set_option maxRecDepth 100000 in
set_option maxHeartbeats 1000000 in
theorem ref17_bracket (n : Nd) (hn : TextC n) (w : World) (K : Nat → Prop) (k f : Int) (A1 A2 : Option Addr) (n1 c1 n2 c2 m : Nat) (br : Bool) (hb : ∀ b, K b → b < w.heap.size) (hv : NodeV w K n [.int .i64 k, .int .u8 f, .slice A1 n1 c1, .slice A2 n2 c2]) (ho : NdOk n) (ht : Tot n m) (hm : m ≤ 3000) (hd : ∃ d, okN n d = true) :
    Calls Tryd.prog 49 #[.agg #[.int .i64 k, .int .u8 f, .slice A1 n1 c1, .slice A2 n2 c2], .bool br] w fun e w' => e = .returned (.string (brX br (rtxt n))) ∧ Keeps (· < w.heap.size) w w' := by
  have hk : Keeps (· < w.heap.size) w (w.alloc (.cells #[.int .i64 k, .int .u8 f, .slice A1 n1 c1, .slice A2 n2 c2] 26)) := (Keeps.refl _ _).alloc (fun b hb => hb) _
  have hS := hn (w.alloc (.cells #[.int .i64 k, .int .u8 f, .slice A1 n1 c1, .slice A2 n2 c2] 26)) K k f A1 A2 n1 c1 n2 c2 m (fun b h => Nat.lt_of_lt_of_le (hb b h) hk.size) (hv.keepK hk hb) ho ht hm hd
  have hsz : (rtxt n).size ≤ 6000000 := by
    obtain ⟨d, hd⟩ := hd
    have := rtxt_size ht d hd
    omega
  clear hv hn ho ht hb hd
  cases br with
  | false =>
    have HS := hid hS
    have Hk := hid hk
    clear hS hk
    refine calls_hide fun R' hR' => ?_
    go_enter Tryd.func49, Tryd.ntmps49
    go_wp2_with fail
    refine HS.out.mono ?_
    rintro e w2 ⟨rfl, h3⟩
    have h3k := Hk.out.trans (h3.mono fun b hb => Nat.lt_of_lt_of_le hb Hk.out.size)
    clear h3
    have H3k := hid h3k
    clear h3k
    go_wp2_with fail
    exact hR'.out _ _ ⟨rfl, H3k.out⟩
  | true =>
    have HS := hid hS
    have Hk := hid hk
    clear hS hk
    refine calls_hide fun R' hR' => ?_
    go_enter Tryd.func49, Tryd.ntmps49
    go_wp2_with fail
    refine HS.out.mono ?_
    rintro e w2 ⟨rfl, h3⟩
    have h3k := Hk.out.trans (h3.mono fun b hb => Nat.lt_of_lt_of_le hb Hk.out.size)
    have hbx : brX true (rtxt n) = (⟨#[40]⟩ ++ rtxt n) ++ ⟨#[41]⟩ := rfl
    clear h3
    have H3k := hid h3k
    have Hbx := hid hbx
    clear h3k hbx
    go_wp2_with fail
    exact hR'.out _ _ ⟨by first | (rw [Hbx.out]; done) | (rw [Hbx.out]; rfl), H3k.out⟩

theorem cutJ_drop {sep : ByteArray} {a : Bool} {s : ByteArray} {xs : List ByteArray} {i : Nat} {x : ByteArray} (h : xs[i]? = some x) : cutJ sep a s (xs.drop i) = if 1000 < ((if a then s else s ++ sep) ++ x).size then (if a then s else s ++ sep) ++ x else cutJ sep false ((if a then s else s ++ sep) ++ x) (xs.drop (i + 1)) := by
  obtain ⟨h9, h8⟩ := List.getElem?_eq_some_iff.1 h
  rw [List.drop_eq_getElem_cons h9, h8, cutJ]
set_option maxRecDepth 100000 in
set_option maxHeartbeats 4000000 in
theorem ref17_text : ∀ (N : Nat) (n : Nd), SizeOf.sizeOf n ≤ N → TextC n := by
  intro N
  induction N with
  | zero => intro n hn; cases n; simp at hn
  | succ N ih =>
    intro n hn w K k f A1 A2 n1 c1 n2 c2 m hb hv hnd htot hm hokd
    obtain ⟨d, hok⟩ := hokd
    cases hv with
    | mk k f ts kids css v1 v2 h1 h2 hl hk =>
    cases hnd with
    | mk _ _ _ _ o1 o2 o3 o5 o4 =>
    cases htot with
    | mk _ _ _ _ ns hnl htk =>
    obtain rfl : n1 = ts.length := by obtain ⟨A, c, e, _⟩ := id h1; injection e
    obtain rfl : n2 = kids.length := by obtain ⟨A, c, e, _⟩ := id h2; injection e
    have hcp1 := h1.capOf
    have hcp2 := h2.capOf
    unfold maxLen at hcp1 hcp2
    obtain ⟨t1, t2⟩ := hcp1
    obtain ⟨s1, s2⟩ := hcp2
    have htsz := rtxt_mk k f ts kids
    have hcs := okN_cases hok
    have hkids : ∀ n ∈ kids, TextC n := fun n hm => by
      obtain ⟨i, hi⟩ := List.getElem?_of_mem hm
      have := Nd.kid_size (k := k) (f := f) (ts := ts) hi
      exact ih n (by omega)
    have hkw : Keeps (· < w.heap.size) w (w.alloc (.cells #[.int .i64 k, .int .u8 f, .slice A1 ts.length c1, .slice A2 kids.length c2] 26)) := (Keeps.refl _ _).alloc (fun b hb => hb) _
    have hB : Blk (w.alloc (.cells #[.int .i64 k, .int .u8 f, .slice A1 ts.length c1, .slice A2 kids.length c2] 26)) w.heap.size [.int .i64 k, .int .u8 f, .slice A1 ts.length c1, .slice A2 kids.length c2] := Blk.new w _ _
    obtain ⟨o21, o22⟩ := o2
    have hslt : sumL id ns ≤ 3000 := by omega
    have htsl : ts.length ≤ 3000 := by omega
    have htxl : textsN ts ≤ 3000 := by omega
    clear ih hm o1 o5
    have H1 := hid h1
    have H2 := hid h2
    have Hk := hid hk
    have Hb := hid hb
    have Hkids := hid hkids
    have O3 := hid o3
    have O4 := hid o4
    have Htk := hid htk
    have Hkw := hid hkw
    have HB := hid hB
    have Htsz := hid htsz
    clear h1 h2 hk hb hkids o3 o4 htk hkw hB htsz
    refine calls_hide fun R' hR' => ?_
    go_enter Tryd.func37, Tryd.ntmps37
    rcases hcs with ⟨rfl, hk0, hlo⟩ | ⟨hk1, _, hkk, d', hokl⟩
    · have hcall := ref17_leaf 1 f ts A1 A2 c1 kids.length c2 (w.alloc (.cells #[.int .i64 1, .int .u8 f, .slice A1 ts.length c1, .slice A2 kids.length c2] 26)) K (fun b h => Nat.lt_of_lt_of_le (Hb.out b h) Hkw.out.size) (H1.out.keep Hkw.out Hb.out) o21 hlo htsl htxl
      have htx := Htsz.out
      rw [if_pos rfl] at htx
      clear hlo Htsz hk0
      have Hcall := hid hcall
      have Htx := hid htx
      clear hcall htx
      go_wp2_with fail
      refine Hcall.out.mono ?_
      rintro e w2 ⟨rfl, g3⟩
      have hk2 := Hkw.out.trans (g3.mono fun b hb => Nat.lt_of_lt_of_le hb Hkw.out.size)
      clear g3 Hcall
      have Hk2 := hid hk2
      clear hk2
      go_wp2_with fail
      exact hR'.out _ _ ⟨by first | (rw [Htx.out]; done) | (rw [Htx.out]; rfl), Hk2.out⟩
    · have k1 : (k == 1) = false := by simpa using hk1
      have htx := Htsz.out
      rw [if_neg hk1] at htx
      clear hk1 Htsz
      by_cases hk4 : k = 4
      · rw [if_pos hk4] at htx
        subst hk4
        have k3 : ((4 : Int) == 3) = false := rfl
        clear k1
        go_upto_region 5 with fail
        generalize w.alloc (.cells #[.int .i64 4, .int .u8 f, .slice A1 ts.length c1, .slice A2 kids.length c2] 26) = W1 at *
        have hz := HB.out
        have hzl := hz.lt
        have z0 := (hz).cell 0
        have z1 := (hz).cell 1
        have z2 := (hz).cell 2
        have z3 := (hz).cell 3
        simp only [List.getElem?_cons_zero, List.getElem?_cons_succ] at z0 z1 z2 z3
        clear hz
        have q1 : kids.length = 1 := by rcases hkk with ⟨_, h⟩ | ⟨h, _⟩ <;> omega
        obtain ⟨n, hn1⟩ : ∃ n, kids[0]? = some n := ⟨_, List.getElem?_eq_getElem (by omega)⟩
        obtain ⟨cs, hcs⟩ : ∃ cs, css[0]? = some cs := ⟨_, List.getElem?_eq_getElem (by omega)⟩
        obtain ⟨m, hm1⟩ : ∃ m, ns[0]? = some m := ⟨_, List.getElem?_eq_getElem (by omega)⟩
        have hkone : kids = [n] := by
          cases kids with
          | nil => cases hn1
          | cons y l =>
            have : l = [] := List.eq_nil_of_length_eq_zero (by simpa using q1)
            subst this
            injection hn1 with hn1
            subst hn1
            rfl
        have hmle : m ≤ sumL id ns := by
          have := sumL_mem id ns m (List.mem_of_getElem? hm1)
          exact this
        have hN1 := Hk.out 0 n cs hn1 hcs
        obtain ⟨kk, kf, B1, m1, d1, B2, m2, d2, rfl⟩ := hN1.form
        have hkn : kindN n = kk := by cases hN1; rfl
        have hS1 := H2.out
        rw [← hl, ← List.flatMap_id] at hS1
        obtain ⟨b1, p1, rfl, hkb1, c1'⟩ := SlAt.rec0 (f := id) (kids_len4 hl Hk.out) hS1 _ hcs
        have hh1 := Hb.out _ hkb1
        have tr : ∀ b o u, b < w.heap.size → w.cell? ⟨b, o, none⟩ = some u → W1.cell? ⟨b, o, none⟩ = some u := fun b o u hb hc => (World.cell?_of_block (a := ⟨b, o, none⟩) (Hkw.out.block b hb)).trans hc
        have a0 := tr _ _ _ hh1 (c1' 0 _ rfl)
        have a1 := tr _ _ _ hh1 (c1' 1 _ rfl)
        have a2 := tr _ _ _ hh1 (c1' 2 _ rfl)
        have a3 := tr _ _ _ hh1 (c1' 3 _ rfl)
        simp only [Nat.add_zero] at a0
        have hbk : brk 4 kk = ((kk == 2) || (kk == 3)) := by unfold brk; rw [k3]; cases (kk == 3) <;> cases (kk == 2) <;> rfl
        obtain ⟨br, hbr⟩ : ∃ br, br = ((kk == 2) || (kk == 3)) := ⟨_, rfl⟩
        obtain ⟨d9, h9⟩ := okL_get hokl hn1
        have hsz0 := rtxt_size (Htk.out 0 n m hn1 hm1) d9 h9
        have hszb := brX_size br (rtxt n)
        obtain ⟨sK, hsK⟩ : ∃ sK : ByteArray, sK = brX br (rtxt n) := ⟨_, rfl⟩
        have htxn : rtxt (.mk 4 f ts kids) = ⟨#[33]⟩ ++ sK := by
          rw [htx, hkone, rtxtL_cons, rtxtL_nil, hkn, hbk, ← hbr, hsK]
          rfl
        have hcall : ∀ p : KP W1 W1.heap.size, Calls Tryd.prog 49 #[.agg #[.int .i64 kk, .int .u8 kf, .slice B1 m1 d1, .slice B2 m2 d2], .bool br] p.w fun e w' => e = .returned (.string sK) ∧ ∃ q : KP W1 W1.heap.size, w' = q.w := fun p => by
          have hkd : Keeps (· < w.heap.size) w p.w := Hkw.out.trans (p.k.mono fun b hb => Nat.lt_of_lt_of_le hb Hkw.out.size)
          refine p.calls (Nat.le_refl _) ((ref17_bracket n (Hkids.out n (List.mem_of_getElem? hn1)) p.w K kk kf B1 B2 m1 d1 m2 d2 m br (fun b hb => Nat.lt_of_lt_of_le (Hb.out b hb) hkd.size) (hN1.keepK hkd Hb.out) (O4.out n (List.mem_of_getElem? hn1)) (Htk.out 0 n m hn1 hm1) (by omega) ⟨d9, h9⟩).mono ?_)
          rintro e w' ⟨rfl, g3⟩
          exact ⟨by rw [hsK], g3⟩
        have hk0 : 0 < kids.length := by omega
        have hk0I : (0 : Int) < (kids.length : Int) := by omega
        have hsKb : sK.size ≤ 6000000 := by rw [hsK]; omega
        have hfin : ∀ (w' : World), Keeps (· < W1.heap.size) W1 w' → R' (.returned (.string (⟨#[33]⟩ ++ sK))) w' := fun w' g3 => hR'.out _ _ ⟨by rw [htxn], Hkw.out.trans (g3.mono fun b hb => Nat.lt_of_lt_of_le hb Hkw.out.size)⟩
        have hW1s := Hkw.out.size
        clear htxn hbk tr hS1 hN1 c1' hkone htx hkn hn1 hcs hm1 q1 hsK hsz0 hszb hokl h9 hkk hok
        have hb1w : b1 < W1.heap.size := by omega
        have y3 : ∀ p : KP W1 W1.heap.size, p.w.cell? ⟨w.heap.size, 3, none⟩ = some (.slice (some ⟨b1, p1, none⟩) kids.length c2) := KP.cell hzl z3
        have y4 : ∀ p : KP W1 W1.heap.size, p.w.cell? ⟨b1, p1, none⟩ = some (.int .i64 kk) := KP.cell hb1w a0
        have y5 : ∀ p : KP W1 W1.heap.size, p.w.cell? ⟨b1, p1 + 1, none⟩ = some (.int .u8 kf) := KP.cell hb1w a1
        have y6 : ∀ p : KP W1 W1.heap.size, p.w.cell? ⟨b1, p1 + 2, none⟩ = some (.slice B1 m1 d1) := KP.cell hb1w a2
        have y7 : ∀ p : KP W1 W1.heap.size, p.w.cell? ⟨b1, p1 + 3, none⟩ = some (.slice B2 m2 d2) := KP.cell hb1w a3
        have Hcall := hid hcall
        have Hfin := hid hfin
        clear hcall hfin
        by_cases r2 : kk = 2
        · have r2b : (kk == 2) = true := by simp [r2]
          have hbt : br = true := by rw [hbr, r2b]; rfl
          clear r2 hbr
          subst hbt
          refine wp_region_class W1.heap.size (by kernel_rfl) (by kernel_rfl) ?_
          repeat (go_big_quiet_step ((exact Hcall.out _)))
          refine wpQuiet_nil ?_
          rintro _ ⟨⟨wq, hkq⟩, rfl⟩
          go_wp2_with fail
          exact Hfin.out _ hkq
        · have r2b : (kk == 2) = false := by simpa using r2
          have hbt : br = (kk == 3) := by rw [hbr, r2b]; rfl
          clear r2 hbr
          subst hbt
          refine wp_region_class W1.heap.size (by kernel_rfl) (by kernel_rfl) ?_
          repeat (go_big_quiet_step ((exact Hcall.out _)))
          refine wpQuiet_nil ?_
          rintro _ ⟨⟨wq, hkq⟩, rfl⟩
          go_wp2_with fail
          exact Hfin.out _ hkq
      · have k4 : (k == 4) = false := by simpa using hk4
        rw [if_neg hk4] at htx
        have hk23 : k = 2 ∨ k = 3 := by rcases hkk with ⟨h, _⟩ | ⟨h, _⟩ <;> omega
        have HK23 := hid hk23
        clear hk23
        have hdr0 : rtxt (.mk k f ts kids) = cutJ (sepK k) true ⟨#[]⟩ ((rtxtL kids k).drop 0) := htx
        clear hkk htx hok hk4
        have Hdr0 := hid hdr0
        have Hokl := hid hokl
        clear hdr0 hokl
        go_wp2_with fail
        generalize w.alloc (.cells #[.int .i64 k, .int .u8 f, .slice A1 ts.length c1, .slice A2 kids.length c2] 26) = W1 at *
        have hz := HB.out
        have hsl := hz.lt
        clear hz
        go_loopw [3, 37] (fun sv iv wx => ∃ (i : Nat) (s : ByteArray), sv = .string s ∧ iv = .int .i64 (i : Int) ∧ i ≤ kids.length ∧ s.size ≤ 1000 ∧ Hid (rtxt (.mk k f ts kids) = cutJ (sepK k) (i == 0) s ((rtxtL kids k).drop i)) ∧ Hid (Keeps (· < W1.heap.size) W1 wx)) (fun _ iv _ => kids.length - (intOf iv).toNat)
        case atStart => exact ⟨0, ⟨#[]⟩, rfl, rfl, Nat.zero_le _, Nat.zero_le _, Hdr0, hid (Keeps.refl _ _)⟩
        case round =>
          obtain ⟨i, s, rfl, rfl, hi, hss, HC, HK⟩ := hrel
          have hkr := HK.out
          have hZ := HB.out.keep hkr hsl
          have hwr := hkr.size
          by_cases hlt : i < kids.length
          · have hltI : (i : Int) < (kids.length : Int) := by omega
            obtain ⟨n, hn1⟩ : ∃ n, kids[i]? = some n := ⟨_, List.getElem?_eq_getElem hlt⟩
            obtain ⟨cs, hcs⟩ : ∃ cs, css[i]? = some cs := ⟨_, List.getElem?_eq_getElem (by omega)⟩
            obtain ⟨m, hm1⟩ : ∃ m, ns[i]? = some m := ⟨_, List.getElem?_eq_getElem (by omega)⟩
            have hmle : m ≤ sumL id ns := sumL_mem id ns m (List.mem_of_getElem? hm1)
            have hN1 := Hk.out i n cs hn1 hcs
            obtain ⟨kk, kf, B1, m1, d1, B2, m2, d2, rfl⟩ := hN1.form
            have hkn : kindN n = kk := by cases hN1; rfl
            have hS1 := H2.out
            rw [← hl, ← List.flatMap_id] at hS1
            obtain ⟨b1, p1, rfl, hkb1, c1'⟩ := SlAt.rec (f := id) (kids_len4 hl Hk.out) hS1 i _ hcs
            have hh1 := Hb.out _ hkb1
            have hkw2 := Hkw.out.trans (hkr.mono fun b hb => Nat.lt_of_lt_of_le hb Hkw.out.size)
            have tr : ∀ b o u, b < w.heap.size → w.cell? ⟨b, o, none⟩ = some u → wr.cell? ⟨b, o, none⟩ = some u := fun b o u hb hc => (World.cell?_of_block (a := ⟨b, o, none⟩) (hkw2.block b hb)).trans hc
            have a0 := tr _ _ _ hh1 (c1' 0 _ rfl)
            have a1 := tr _ _ _ hh1 (c1' 1 _ rfl)
            have a2 := tr _ _ _ hh1 (c1' 2 _ rfl)
            have a3 := tr _ _ _ hh1 (c1' 3 _ rfl)
            simp only [Nat.add_zero] at a0
            obtain ⟨d9, h9⟩ := okL_get Hokl.out hn1
            have hsz0 := rtxt_size (Htk.out i n m hn1 hm1) d9 h9
            have hget := rtxtL_get (pk := k) hn1
            rw [hkn] at hget
            have hszb := brX_size (brk k kk) (rtxt n)
            have hc2 := HC.out
            rw [cutJ_drop hget] at hc2
            have hka : Keeps (· < wr.heap.size) wr (wr.alloc (.cells #[.int .i64 kk, .int .u8 kf, .slice B1 m1 d1, .slice B2 m2 d2] 26)) := (Keeps.refl _ _).alloc (fun b hb => hb) _
            have hkwa := hkw2.trans (hka.mono fun b hb => by have := Hkw.out.size; omega)
            have hcall := fun br => ref17_bracket n (Hkids.out n (List.mem_of_getElem? hn1)) (wr.alloc (.cells #[.int .i64 kk, .int .u8 kf, .slice B1 m1 d1, .slice B2 m2 d2] 26)) K kk kf B1 B2 m1 d1 m2 d2 m br (fun b hb => Nat.lt_of_lt_of_le (Hb.out b hb) hkwa.size) (hN1.keepK hkwa Hb.out) (O4.out n (List.mem_of_getElem? hn1)) (Htk.out i n m hn1 hm1) (by omega) ⟨d9, h9⟩
            have hkra := hkr.trans (hka.mono fun b hb => by omega)
            have hbx : (brX (brk k kk) (rtxt n)).size ≤ 6000000 := by omega
            clear hN1 hkn hS1 c1' tr hcs hm1 hn1 h9 hsz0 hget hszb HC hka hkwa HK
            have hZl := hZ.lt
            have z0 := (hZ).cell 0
            have z1 := (hZ).cell 1
            have z2 := (hZ).cell 2
            have z3 := (hZ).cell 3
            simp only [List.getElem?_cons_zero, List.getElem?_cons_succ] at z0 z1 z2 z3
            clear hZ
            generalize hbb : brk k kk = bb at *
            have hcall := hcall bb
            generalize brX bb (rtxt n) = xk at *
            have Hcall := hid hcall
            have Hkw2 := hid hkw2
            have Hkra := hid hkra
            have Hkr := hid hkr
            have Hc2 := hid hc2
            clear hcall hkw2 hkra hkr hc2
            by_cases hi0 : i = 0
            · have hiI : ¬ (0 : Int) < (i : Int) := by omega
              have hb0 : (i == 0) = true := by simp [hi0]
              have hc2 := Hc2.out
              rw [hb0, if_pos rfl] at hc2
              clear hi0 hb0 Hc2
              have Hc2 := hid hc2
              clear hc2
              by_cases r3 : kk = 3
              · have r3b : (kk == 3) = true := by simp [r3]
                have hb9 : bb = true := by rw [← hbb]; unfold brk; simp [*]
                have hc9 := Hcall.out
                rw [hb9] at hc9
                clear hb9 hbb Hcall r3
                have HC9 := hid hc9
                clear hc9
                go_wp2_with fail
                refine (HC9.out).mono ?_
                rintro e w3 ⟨rfl, hk3⟩
                have hkr3 := Hkra.out.trans (hk3.mono fun b hb => Nat.lt_of_lt_of_le hb Hkra.out.size)
                have hkw3 := Hkw.out.trans (hkr3.mono fun b hb => Nat.lt_of_lt_of_le hb Hkw.out.size)
                clear hk3 HC9
                have Hkr3 := hid hkr3
                have Hkw3 := hid hkw3
                clear hkr3 hkw3
                by_cases hbig : 1000 < (s ++ xk).size
                · have hbI : (1000 : Int) < (s.size : Int) + (xk.size : Int) := by
                    rw [ByteArray.size_append] at hbig
                    omega
                  have hfin : rtxt (.mk k f ts kids) = (s ++ xk) := by rw [Hc2.out, if_pos hbig]
                  clear hbig
                  have Hfin := hid hfin
                  clear hfin
                  go_wp2_with fail
                  exact hR'.out _ _ ⟨by first | (rw [Hfin.out]; done) | (rw [Hfin.out]; rfl), Hkw3.out⟩
                · have hbI : ¬ (1000 : Int) < (s.size : Int) + (xk.size : Int) := by
                    rw [ByteArray.size_append] at hbig
                    omega
                  have hnx : rtxt (.mk k f ts kids) = cutJ (sepK k) (i + 1 == 0) (s ++ xk) ((rtxtL kids k).drop (i + 1)) := by rw [Hc2.out, if_neg hbig]; rfl
                  have hsx : (s ++ xk).size ≤ 1000 := by omega
                  clear hbig
                  have Hnx := hid hnx
                  clear hnx
                  go_wp2_with fail
                  go_roundw
                  case rel => exact ⟨i + 1, (s ++ xk), by first | rfl | go_num, by go_num, by omega, hsx, Hnx, Hkr3⟩
                  case measure => first | (simp [intOf]; done) | (simp [intOf]; omega)
              · have r3b : (kk == 3) = false := by simpa using r3
                by_cases r2 : kk = 2
                · have r2b : (kk == 2) = true := by simp [r2]
                  by_cases q2 : k = 2
                  · have q2b : (k == 2) = true := by simp [q2]
                    have q2c : (k == 3) = false := by simp [q2]
                    have hb9 : bb = true := by rw [← hbb]; unfold brk; simp [*]
                    have hc9 := Hcall.out
                    rw [hb9] at hc9
                    clear hb9 hbb Hcall r2 r3 q2 q2c
                    have HC9 := hid hc9
                    clear hc9
                    go_wp2_with fail
                    refine (HC9.out).mono ?_
                    rintro e w3 ⟨rfl, hk3⟩
                    have hkr3 := Hkra.out.trans (hk3.mono fun b hb => Nat.lt_of_lt_of_le hb Hkra.out.size)
                    have hkw3 := Hkw.out.trans (hkr3.mono fun b hb => Nat.lt_of_lt_of_le hb Hkw.out.size)
                    clear hk3 HC9
                    have Hkr3 := hid hkr3
                    have Hkw3 := hid hkw3
                    clear hkr3 hkw3
                    by_cases hbig : 1000 < (s ++ xk).size
                    · have hbI : (1000 : Int) < (s.size : Int) + (xk.size : Int) := by
                        rw [ByteArray.size_append] at hbig
                        omega
                      have hfin : rtxt (.mk k f ts kids) = (s ++ xk) := by rw [Hc2.out, if_pos hbig]
                      clear hbig
                      have Hfin := hid hfin
                      clear hfin
                      go_wp2_with fail
                      exact hR'.out _ _ ⟨by first | (rw [Hfin.out]; done) | (rw [Hfin.out]; rfl), Hkw3.out⟩
                    · have hbI : ¬ (1000 : Int) < (s.size : Int) + (xk.size : Int) := by
                        rw [ByteArray.size_append] at hbig
                        omega
                      have hnx : rtxt (.mk k f ts kids) = cutJ (sepK k) (i + 1 == 0) (s ++ xk) ((rtxtL kids k).drop (i + 1)) := by rw [Hc2.out, if_neg hbig]; rfl
                      have hsx : (s ++ xk).size ≤ 1000 := by omega
                      clear hbig
                      have Hnx := hid hnx
                      clear hnx
                      go_wp2_with fail
                      go_roundw
                      case rel => exact ⟨i + 1, (s ++ xk), by first | rfl | go_num, by go_num, by omega, hsx, Hnx, Hkr3⟩
                      case measure => first | (simp [intOf]; done) | (simp [intOf]; omega)
                  · have q2b : (k == 2) = false := by simpa using q2
                    have q2c : (k == 3) = true := by rcases HK23.out with h | h; (exact absurd h q2); (simp [h])
                    have hb9 : bb = false := by rw [← hbb]; unfold brk; simp [*]
                    have hc9 := Hcall.out
                    rw [hb9] at hc9
                    clear hb9 hbb Hcall r2 r3 q2 q2c
                    have HC9 := hid hc9
                    clear hc9
                    go_wp2_with fail
                    refine (HC9.out).mono ?_
                    rintro e w3 ⟨rfl, hk3⟩
                    have hkr3 := Hkra.out.trans (hk3.mono fun b hb => Nat.lt_of_lt_of_le hb Hkra.out.size)
                    have hkw3 := Hkw.out.trans (hkr3.mono fun b hb => Nat.lt_of_lt_of_le hb Hkw.out.size)
                    clear hk3 HC9
                    have Hkr3 := hid hkr3
                    have Hkw3 := hid hkw3
                    clear hkr3 hkw3
                    by_cases hbig : 1000 < (s ++ xk).size
                    · have hbI : (1000 : Int) < (s.size : Int) + (xk.size : Int) := by
                        rw [ByteArray.size_append] at hbig
                        omega
                      have hfin : rtxt (.mk k f ts kids) = (s ++ xk) := by rw [Hc2.out, if_pos hbig]
                      clear hbig
                      have Hfin := hid hfin
                      clear hfin
                      go_wp2_with fail
                      exact hR'.out _ _ ⟨by first | (rw [Hfin.out]; done) | (rw [Hfin.out]; rfl), Hkw3.out⟩
                    · have hbI : ¬ (1000 : Int) < (s.size : Int) + (xk.size : Int) := by
                        rw [ByteArray.size_append] at hbig
                        omega
                      have hnx : rtxt (.mk k f ts kids) = cutJ (sepK k) (i + 1 == 0) (s ++ xk) ((rtxtL kids k).drop (i + 1)) := by rw [Hc2.out, if_neg hbig]; rfl
                      have hsx : (s ++ xk).size ≤ 1000 := by omega
                      clear hbig
                      have Hnx := hid hnx
                      clear hnx
                      go_wp2_with fail
                      go_roundw
                      case rel => exact ⟨i + 1, (s ++ xk), by first | rfl | go_num, by go_num, by omega, hsx, Hnx, Hkr3⟩
                      case measure => first | (simp [intOf]; done) | (simp [intOf]; omega)
                · have r2b : (kk == 2) = false := by simpa using r2
                  have hb9 : bb = false := by rw [← hbb]; unfold brk; simp [*]
                  have hc9 := Hcall.out
                  rw [hb9] at hc9
                  clear hb9 hbb Hcall r2 r3
                  have HC9 := hid hc9
                  clear hc9
                  go_wp2_with fail
                  refine (HC9.out).mono ?_
                  rintro e w3 ⟨rfl, hk3⟩
                  have hkr3 := Hkra.out.trans (hk3.mono fun b hb => Nat.lt_of_lt_of_le hb Hkra.out.size)
                  have hkw3 := Hkw.out.trans (hkr3.mono fun b hb => Nat.lt_of_lt_of_le hb Hkw.out.size)
                  clear hk3 HC9
                  have Hkr3 := hid hkr3
                  have Hkw3 := hid hkw3
                  clear hkr3 hkw3
                  by_cases hbig : 1000 < (s ++ xk).size
                  · have hbI : (1000 : Int) < (s.size : Int) + (xk.size : Int) := by
                      rw [ByteArray.size_append] at hbig
                      omega
                    have hfin : rtxt (.mk k f ts kids) = (s ++ xk) := by rw [Hc2.out, if_pos hbig]
                    clear hbig
                    have Hfin := hid hfin
                    clear hfin
                    go_wp2_with fail
                    exact hR'.out _ _ ⟨by first | (rw [Hfin.out]; done) | (rw [Hfin.out]; rfl), Hkw3.out⟩
                  · have hbI : ¬ (1000 : Int) < (s.size : Int) + (xk.size : Int) := by
                      rw [ByteArray.size_append] at hbig
                      omega
                    have hnx : rtxt (.mk k f ts kids) = cutJ (sepK k) (i + 1 == 0) (s ++ xk) ((rtxtL kids k).drop (i + 1)) := by rw [Hc2.out, if_neg hbig]; rfl
                    have hsx : (s ++ xk).size ≤ 1000 := by omega
                    clear hbig
                    have Hnx := hid hnx
                    clear hnx
                    go_wp2_with fail
                    go_roundw
                    case rel => exact ⟨i + 1, (s ++ xk), by first | rfl | go_num, by go_num, by omega, hsx, Hnx, Hkr3⟩
                    case measure => first | (simp [intOf]; done) | (simp [intOf]; omega)
            · have hiI : (0 : Int) < (i : Int) := by omega
              have hb0 : (i == 0) = false := by simpa using hi0
              have hc2 := Hc2.out
              rw [hb0] at hc2
              clear hi0 hb0 Hc2
              rcases HK23.out with rfl | rfl
              · have hc2 : rtxt (.mk 2 f ts kids) = if 1000 < ((s ++ ⟨#[32, 38, 32]⟩) ++ xk).size then (s ++ ⟨#[32, 38, 32]⟩) ++ xk else cutJ (sepK 2) false ((s ++ ⟨#[32, 38, 32]⟩) ++ xk) ((rtxtL kids 2).drop (i + 1)) := hc2
                have Hc2 := hid hc2
                clear hc2
                by_cases r3 : kk = 3
                · have r3b : (kk == 3) = true := by simp [r3]
                  have hb9 : bb = true := by rw [← hbb]; unfold brk; simp [*]
                  have hc9 := Hcall.out
                  rw [hb9] at hc9
                  clear hb9 hbb Hcall r3
                  have HC9 := hid hc9
                  clear hc9
                  go_wp2_with fail
                  refine (HC9.out).mono ?_
                  rintro e w3 ⟨rfl, hk3⟩
                  have hkr3 := Hkra.out.trans (hk3.mono fun b hb => Nat.lt_of_lt_of_le hb Hkra.out.size)
                  have hkw3 := Hkw.out.trans (hkr3.mono fun b hb => Nat.lt_of_lt_of_le hb Hkw.out.size)
                  clear hk3 HC9
                  have Hkr3 := hid hkr3
                  have Hkw3 := hid hkw3
                  clear hkr3 hkw3
                  by_cases hbig : 1000 < ((s ++ ⟨#[32, 38, 32]⟩) ++ xk).size
                  · have hbI : (1000 : Int) < (s.size : Int) + 3 + (xk.size : Int) := by
                      rw [ByteArray.size_append, ByteArray.size_append] at hbig
                      have h3 : (⟨#[32, 38, 32]⟩ : ByteArray).size = 3 := rfl
                      omega
                    have hfin : rtxt (.mk 2 f ts kids) = ((s ++ ⟨#[32, 38, 32]⟩) ++ xk) := by rw [Hc2.out, if_pos hbig]
                    clear hbig
                    have Hfin := hid hfin
                    clear hfin
                    go_wp2_with fail
                    exact hR'.out _ _ ⟨by first | (rw [Hfin.out]; done) | (rw [Hfin.out]; rfl), Hkw3.out⟩
                  · have hbI : ¬ (1000 : Int) < (s.size : Int) + 3 + (xk.size : Int) := by
                      rw [ByteArray.size_append, ByteArray.size_append] at hbig
                      have h3 : (⟨#[32, 38, 32]⟩ : ByteArray).size = 3 := rfl
                      omega
                    have hnx : rtxt (.mk 2 f ts kids) = cutJ (sepK 2) (i + 1 == 0) ((s ++ ⟨#[32, 38, 32]⟩) ++ xk) ((rtxtL kids 2).drop (i + 1)) := by rw [Hc2.out, if_neg hbig]; rfl
                    have hsx : ((s ++ ⟨#[32, 38, 32]⟩) ++ xk).size ≤ 1000 := by omega
                    clear hbig
                    have Hnx := hid hnx
                    clear hnx
                    go_wp2_with fail
                    go_roundw
                    case rel => exact ⟨i + 1, ((s ++ ⟨#[32, 38, 32]⟩) ++ xk), by first | rfl | go_num, by go_num, by omega, hsx, Hnx, Hkr3⟩
                    case measure => first | (simp [intOf]; done) | (simp [intOf]; omega)
                · have r3b : (kk == 3) = false := by simpa using r3
                  by_cases r2 : kk = 2
                  · have r2b : (kk == 2) = true := by simp [r2]
                    have hb9 : bb = true := by rw [← hbb]; unfold brk; simp [*]
                    have hc9 := Hcall.out
                    rw [hb9] at hc9
                    clear hb9 hbb Hcall r2 r3
                    have HC9 := hid hc9
                    clear hc9
                    go_wp2_with fail
                    refine (HC9.out).mono ?_
                    rintro e w3 ⟨rfl, hk3⟩
                    have hkr3 := Hkra.out.trans (hk3.mono fun b hb => Nat.lt_of_lt_of_le hb Hkra.out.size)
                    have hkw3 := Hkw.out.trans (hkr3.mono fun b hb => Nat.lt_of_lt_of_le hb Hkw.out.size)
                    clear hk3 HC9
                    have Hkr3 := hid hkr3
                    have Hkw3 := hid hkw3
                    clear hkr3 hkw3
                    by_cases hbig : 1000 < ((s ++ ⟨#[32, 38, 32]⟩) ++ xk).size
                    · have hbI : (1000 : Int) < (s.size : Int) + 3 + (xk.size : Int) := by
                        rw [ByteArray.size_append, ByteArray.size_append] at hbig
                        have h3 : (⟨#[32, 38, 32]⟩ : ByteArray).size = 3 := rfl
                        omega
                      have hfin : rtxt (.mk 2 f ts kids) = ((s ++ ⟨#[32, 38, 32]⟩) ++ xk) := by rw [Hc2.out, if_pos hbig]
                      clear hbig
                      have Hfin := hid hfin
                      clear hfin
                      go_wp2_with fail
                      exact hR'.out _ _ ⟨by first | (rw [Hfin.out]; done) | (rw [Hfin.out]; rfl), Hkw3.out⟩
                    · have hbI : ¬ (1000 : Int) < (s.size : Int) + 3 + (xk.size : Int) := by
                        rw [ByteArray.size_append, ByteArray.size_append] at hbig
                        have h3 : (⟨#[32, 38, 32]⟩ : ByteArray).size = 3 := rfl
                        omega
                      have hnx : rtxt (.mk 2 f ts kids) = cutJ (sepK 2) (i + 1 == 0) ((s ++ ⟨#[32, 38, 32]⟩) ++ xk) ((rtxtL kids 2).drop (i + 1)) := by rw [Hc2.out, if_neg hbig]; rfl
                      have hsx : ((s ++ ⟨#[32, 38, 32]⟩) ++ xk).size ≤ 1000 := by omega
                      clear hbig
                      have Hnx := hid hnx
                      clear hnx
                      go_wp2_with fail
                      go_roundw
                      case rel => exact ⟨i + 1, ((s ++ ⟨#[32, 38, 32]⟩) ++ xk), by first | rfl | go_num, by go_num, by omega, hsx, Hnx, Hkr3⟩
                      case measure => first | (simp [intOf]; done) | (simp [intOf]; omega)
                  · have r2b : (kk == 2) = false := by simpa using r2
                    have hb9 : bb = false := by rw [← hbb]; unfold brk; simp [*]
                    have hc9 := Hcall.out
                    rw [hb9] at hc9
                    clear hb9 hbb Hcall r2 r3
                    have HC9 := hid hc9
                    clear hc9
                    go_wp2_with fail
                    refine (HC9.out).mono ?_
                    rintro e w3 ⟨rfl, hk3⟩
                    have hkr3 := Hkra.out.trans (hk3.mono fun b hb => Nat.lt_of_lt_of_le hb Hkra.out.size)
                    have hkw3 := Hkw.out.trans (hkr3.mono fun b hb => Nat.lt_of_lt_of_le hb Hkw.out.size)
                    clear hk3 HC9
                    have Hkr3 := hid hkr3
                    have Hkw3 := hid hkw3
                    clear hkr3 hkw3
                    by_cases hbig : 1000 < ((s ++ ⟨#[32, 38, 32]⟩) ++ xk).size
                    · have hbI : (1000 : Int) < (s.size : Int) + 3 + (xk.size : Int) := by
                        rw [ByteArray.size_append, ByteArray.size_append] at hbig
                        have h3 : (⟨#[32, 38, 32]⟩ : ByteArray).size = 3 := rfl
                        omega
                      have hfin : rtxt (.mk 2 f ts kids) = ((s ++ ⟨#[32, 38, 32]⟩) ++ xk) := by rw [Hc2.out, if_pos hbig]
                      clear hbig
                      have Hfin := hid hfin
                      clear hfin
                      go_wp2_with fail
                      exact hR'.out _ _ ⟨by first | (rw [Hfin.out]; done) | (rw [Hfin.out]; rfl), Hkw3.out⟩
                    · have hbI : ¬ (1000 : Int) < (s.size : Int) + 3 + (xk.size : Int) := by
                        rw [ByteArray.size_append, ByteArray.size_append] at hbig
                        have h3 : (⟨#[32, 38, 32]⟩ : ByteArray).size = 3 := rfl
                        omega
                      have hnx : rtxt (.mk 2 f ts kids) = cutJ (sepK 2) (i + 1 == 0) ((s ++ ⟨#[32, 38, 32]⟩) ++ xk) ((rtxtL kids 2).drop (i + 1)) := by rw [Hc2.out, if_neg hbig]; rfl
                      have hsx : ((s ++ ⟨#[32, 38, 32]⟩) ++ xk).size ≤ 1000 := by omega
                      clear hbig
                      have Hnx := hid hnx
                      clear hnx
                      go_wp2_with fail
                      go_roundw
                      case rel => exact ⟨i + 1, ((s ++ ⟨#[32, 38, 32]⟩) ++ xk), by first | rfl | go_num, by go_num, by omega, hsx, Hnx, Hkr3⟩
                      case measure => first | (simp [intOf]; done) | (simp [intOf]; omega)
              · have hc2 : rtxt (.mk 3 f ts kids) = if 1000 < ((s ++ ⟨#[32, 124, 32]⟩) ++ xk).size then (s ++ ⟨#[32, 124, 32]⟩) ++ xk else cutJ (sepK 3) false ((s ++ ⟨#[32, 124, 32]⟩) ++ xk) ((rtxtL kids 3).drop (i + 1)) := hc2
                have Hc2 := hid hc2
                clear hc2
                by_cases r3 : kk = 3
                · have r3b : (kk == 3) = true := by simp [r3]
                  have hb9 : bb = true := by rw [← hbb]; unfold brk; simp [*]
                  have hc9 := Hcall.out
                  rw [hb9] at hc9
                  clear hb9 hbb Hcall r3
                  have HC9 := hid hc9
                  clear hc9
                  go_wp2_with fail
                  refine (HC9.out).mono ?_
                  rintro e w3 ⟨rfl, hk3⟩
                  have hkr3 := Hkra.out.trans (hk3.mono fun b hb => Nat.lt_of_lt_of_le hb Hkra.out.size)
                  have hkw3 := Hkw.out.trans (hkr3.mono fun b hb => Nat.lt_of_lt_of_le hb Hkw.out.size)
                  clear hk3 HC9
                  have Hkr3 := hid hkr3
                  have Hkw3 := hid hkw3
                  clear hkr3 hkw3
                  by_cases hbig : 1000 < ((s ++ ⟨#[32, 124, 32]⟩) ++ xk).size
                  · have hbI : (1000 : Int) < (s.size : Int) + 3 + (xk.size : Int) := by
                      rw [ByteArray.size_append, ByteArray.size_append] at hbig
                      have h3 : (⟨#[32, 124, 32]⟩ : ByteArray).size = 3 := rfl
                      omega
                    have hfin : rtxt (.mk 3 f ts kids) = ((s ++ ⟨#[32, 124, 32]⟩) ++ xk) := by rw [Hc2.out, if_pos hbig]
                    clear hbig
                    have Hfin := hid hfin
                    clear hfin
                    go_wp2_with fail
                    exact hR'.out _ _ ⟨by first | (rw [Hfin.out]; done) | (rw [Hfin.out]; rfl), Hkw3.out⟩
                  · have hbI : ¬ (1000 : Int) < (s.size : Int) + 3 + (xk.size : Int) := by
                      rw [ByteArray.size_append, ByteArray.size_append] at hbig
                      have h3 : (⟨#[32, 124, 32]⟩ : ByteArray).size = 3 := rfl
                      omega
                    have hnx : rtxt (.mk 3 f ts kids) = cutJ (sepK 3) (i + 1 == 0) ((s ++ ⟨#[32, 124, 32]⟩) ++ xk) ((rtxtL kids 3).drop (i + 1)) := by rw [Hc2.out, if_neg hbig]; rfl
                    have hsx : ((s ++ ⟨#[32, 124, 32]⟩) ++ xk).size ≤ 1000 := by omega
                    clear hbig
                    have Hnx := hid hnx
                    clear hnx
                    go_wp2_with fail
                    go_roundw
                    case rel => exact ⟨i + 1, ((s ++ ⟨#[32, 124, 32]⟩) ++ xk), by first | rfl | go_num, by go_num, by omega, hsx, Hnx, Hkr3⟩
                    case measure => first | (simp [intOf]; done) | (simp [intOf]; omega)
                · have r3b : (kk == 3) = false := by simpa using r3
                  by_cases r2 : kk = 2
                  · have r2b : (kk == 2) = true := by simp [r2]
                    have hb9 : bb = false := by rw [← hbb]; unfold brk; simp [*]
                    have hc9 := Hcall.out
                    rw [hb9] at hc9
                    clear hb9 hbb Hcall r2 r3
                    have HC9 := hid hc9
                    clear hc9
                    go_wp2_with fail
                    refine (HC9.out).mono ?_
                    rintro e w3 ⟨rfl, hk3⟩
                    have hkr3 := Hkra.out.trans (hk3.mono fun b hb => Nat.lt_of_lt_of_le hb Hkra.out.size)
                    have hkw3 := Hkw.out.trans (hkr3.mono fun b hb => Nat.lt_of_lt_of_le hb Hkw.out.size)
                    clear hk3 HC9
                    have Hkr3 := hid hkr3
                    have Hkw3 := hid hkw3
                    clear hkr3 hkw3
                    by_cases hbig : 1000 < ((s ++ ⟨#[32, 124, 32]⟩) ++ xk).size
                    · have hbI : (1000 : Int) < (s.size : Int) + 3 + (xk.size : Int) := by
                        rw [ByteArray.size_append, ByteArray.size_append] at hbig
                        have h3 : (⟨#[32, 124, 32]⟩ : ByteArray).size = 3 := rfl
                        omega
                      have hfin : rtxt (.mk 3 f ts kids) = ((s ++ ⟨#[32, 124, 32]⟩) ++ xk) := by rw [Hc2.out, if_pos hbig]
                      clear hbig
                      have Hfin := hid hfin
                      clear hfin
                      go_wp2_with fail
                      exact hR'.out _ _ ⟨by first | (rw [Hfin.out]; done) | (rw [Hfin.out]; rfl), Hkw3.out⟩
                    · have hbI : ¬ (1000 : Int) < (s.size : Int) + 3 + (xk.size : Int) := by
                        rw [ByteArray.size_append, ByteArray.size_append] at hbig
                        have h3 : (⟨#[32, 124, 32]⟩ : ByteArray).size = 3 := rfl
                        omega
                      have hnx : rtxt (.mk 3 f ts kids) = cutJ (sepK 3) (i + 1 == 0) ((s ++ ⟨#[32, 124, 32]⟩) ++ xk) ((rtxtL kids 3).drop (i + 1)) := by rw [Hc2.out, if_neg hbig]; rfl
                      have hsx : ((s ++ ⟨#[32, 124, 32]⟩) ++ xk).size ≤ 1000 := by omega
                      clear hbig
                      have Hnx := hid hnx
                      clear hnx
                      go_wp2_with fail
                      go_roundw
                      case rel => exact ⟨i + 1, ((s ++ ⟨#[32, 124, 32]⟩) ++ xk), by first | rfl | go_num, by go_num, by omega, hsx, Hnx, Hkr3⟩
                      case measure => first | (simp [intOf]; done) | (simp [intOf]; omega)
                  · have r2b : (kk == 2) = false := by simpa using r2
                    have hb9 : bb = false := by rw [← hbb]; unfold brk; simp [*]
                    have hc9 := Hcall.out
                    rw [hb9] at hc9
                    clear hb9 hbb Hcall r2 r3
                    have HC9 := hid hc9
                    clear hc9
                    go_wp2_with fail
                    refine (HC9.out).mono ?_
                    rintro e w3 ⟨rfl, hk3⟩
                    have hkr3 := Hkra.out.trans (hk3.mono fun b hb => Nat.lt_of_lt_of_le hb Hkra.out.size)
                    have hkw3 := Hkw.out.trans (hkr3.mono fun b hb => Nat.lt_of_lt_of_le hb Hkw.out.size)
                    clear hk3 HC9
                    have Hkr3 := hid hkr3
                    have Hkw3 := hid hkw3
                    clear hkr3 hkw3
                    by_cases hbig : 1000 < ((s ++ ⟨#[32, 124, 32]⟩) ++ xk).size
                    · have hbI : (1000 : Int) < (s.size : Int) + 3 + (xk.size : Int) := by
                        rw [ByteArray.size_append, ByteArray.size_append] at hbig
                        have h3 : (⟨#[32, 124, 32]⟩ : ByteArray).size = 3 := rfl
                        omega
                      have hfin : rtxt (.mk 3 f ts kids) = ((s ++ ⟨#[32, 124, 32]⟩) ++ xk) := by rw [Hc2.out, if_pos hbig]
                      clear hbig
                      have Hfin := hid hfin
                      clear hfin
                      go_wp2_with fail
                      exact hR'.out _ _ ⟨by first | (rw [Hfin.out]; done) | (rw [Hfin.out]; rfl), Hkw3.out⟩
                    · have hbI : ¬ (1000 : Int) < (s.size : Int) + 3 + (xk.size : Int) := by
                        rw [ByteArray.size_append, ByteArray.size_append] at hbig
                        have h3 : (⟨#[32, 124, 32]⟩ : ByteArray).size = 3 := rfl
                        omega
                      have hnx : rtxt (.mk 3 f ts kids) = cutJ (sepK 3) (i + 1 == 0) ((s ++ ⟨#[32, 124, 32]⟩) ++ xk) ((rtxtL kids 3).drop (i + 1)) := by rw [Hc2.out, if_neg hbig]; rfl
                      have hsx : ((s ++ ⟨#[32, 124, 32]⟩) ++ xk).size ≤ 1000 := by omega
                      clear hbig
                      have Hnx := hid hnx
                      clear hnx
                      go_wp2_with fail
                      go_roundw
                      case rel => exact ⟨i + 1, ((s ++ ⟨#[32, 124, 32]⟩) ++ xk), by first | rfl | go_num, by go_num, by omega, hsx, Hnx, Hkr3⟩
                      case measure => first | (simp [intOf]; done) | (simp [intOf]; omega)
          · obtain rfl : i = kids.length := by omega
            have hltI : ¬ (kids.length : Int) < (kids.length : Int) := by omega
            have hc2 := HC.out
            rw [List.drop_eq_nil_of_le (by rw [rtxtL_len]; exact Nat.le_refl _)] at hc2
            have hc2 : rtxt (.mk k f ts kids) = s := by rw [hc2]; cases (kids.length == 0) <;> rfl
            have hk9 := Hkw.out.trans (hkr.mono fun b hb => Nat.lt_of_lt_of_le hb Hkw.out.size)
            clear HC HK
            have Hc2 := hid hc2
            have Hk9 := hid hk9
            clear hc2 hk9
            go_wp2_with fail
            exact hR'.out _ _ ⟨by first | (rw [Hc2.out]; done) | (rw [Hc2.out]; rfl), Hk9.out⟩
end Go.Proofs.YtbepgbkbpkaodaaDoor
