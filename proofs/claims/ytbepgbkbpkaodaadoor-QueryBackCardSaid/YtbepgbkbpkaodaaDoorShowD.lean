/- Layer 17 (query), Show: a node's text. -/
import Derived.Test.YtbepgbkbpkaodaaDoorShowL
import Derived.Deep.CutRange
import Derived.Deep.CutBlock
import Derived.Deep.RegionHeld3
namespace Go.Proofs.YtbepgbkbpkaodaaDoor
open Go.RowKit

theorem ba_eq {s : ByteArray} {l : List UInt8} (h : s.data.toList = l) : s = ⟨l.toArray⟩ := by
  subst h
  obtain ⟨d⟩ := s
  rfl
set_option maxRecDepth 100000 in
set_option maxHeartbeats 4000000 in
theorem query_show : ∀ (N : Nat) (n : Nd), SizeOf.sizeOf n ≤ N → ShowC n := by
  intro N
  induction N with
  | zero => intro n hn; cases n; simp at hn
  | succ N ih =>
    intro n hn w K k f A1 A2 n1 c1 n2 c2 d m hb hT hv ho ht hm hd
    cases hv with
    | mk _ _ ts kids css v1 v2 h1 h2 hl hk =>
    cases ho with
    | mk _ _ _ _ o1 o2 o3 o5 o4 =>
    obtain ⟨ns, rfl, hnl, htk⟩ := ht.parts
    have hkl := len_le_sum kids ns hnl htk
    obtain ⟨A1', c1', e1, hc1a, hc1b, _⟩ := id h1
    injection e1 with x1 x2 x3
    subst x1 x2 x3
    obtain ⟨A2', c2', e1, hc2a, hc2b, _⟩ := id h2
    injection e1 with x1 x2 x3
    subst x1 x2 x3
    have hkw : Keeps (· < w.heap.size) w (w.alloc (.cells #[.int .i64 k, .int .u8 f, .slice A1 ts.length c1, .slice A2 kids.length c2] 26)) := (Keeps.refl _ _).alloc (fun b hb => hb) _
    have hB : Blk (w.alloc (.cells #[.int .i64 k, .int .u8 f, .slice A1 ts.length c1, .slice A2 kids.length c2] 26)) w.heap.size [.int .i64 k, .int .u8 f, .slice A1 ts.length c1, .slice A2 kids.length c2] := Blk.new w _ _
    have hsz : w.heap.size < (w.alloc (.cells #[.int .i64 k, .int .u8 f, .slice A1 ts.length c1, .slice A2 kids.length c2] 26)).heap.size := by rw [World.size_alloc]; omega
    have hokm := okN_mk k f ts kids d
    have htxm := txtN_mk k f ts kids
    have hgbm := gbN_mk k f ts kids d
    have hkids : ∀ n ∈ kids, ShowC n := fun n hm => by
      obtain ⟨i, hi⟩ := List.getElem?_of_mem hm
      have := Nd.kid_size (k := k) (f := f) (ts := ts) hi
      exact ih n (by omega)
    have HT := hid hT
    have H1 := hid h1
    have H2 := hid h2
    have Hk := hid hk
    have Hb := hid hb
    have O3 := hid o3
    have O4 := hid o4
    have Hkids := hid hkids
    have Htk := hid htk
    have Hokm := hid hokm
    have Htxm := hid htxm
    have Ht := hid ht
    have Hgbm := hid hgbm
    clear hT h1 h2 hk hb o3 o4 hkids htk hokm htxm ht hgbm
    clear ih o5 hc1b hc2b
    obtain ⟨ok, hok⟩ : ∃ ok, ok = okN (.mk k f ts kids) d := ⟨_, rfl⟩
    obtain ⟨tx, htx⟩ : ∃ tx, tx = txtN (.mk k f ts kids) := ⟨_, rfl⟩
    obtain ⟨gb, hgb⟩ : ∃ gb, gb = gbN (.mk k f ts kids) d := ⟨_, rfl⟩
    have hR0 : ∀ R' : Ending → World → Prop, (∀ e w', ShowP (.mk k f ts kids) d (1 + ts.length + textsN ts + sumL id ns) w e w' → R' e w') → ∀ (s : ByteArray) (w' : World), (ok = true → s.data.toList = tx) → (ok = false → s.data.toList = gb) → s.size + 5 ≤ 700 * (1 + ts.length + textsN ts + sumL id ns) → Keeps (· < w.heap.size) w w' → R' (.returned (.tuple #[.string s, .bool ok])) w' := fun R' h s w' h1 h4 h2 h3 => h _ _ ⟨s, by rw [hok], by rw [← hok, ← htx]; exact h1, by rw [← hok, ← hgb]; exact h4, h2, h3⟩
    rw [← hok] at Hokm
    rw [← htx] at Htxm
    rw [← hgb] at Hgbm
    clear hok htx hgb
    have HR0 := hid hR0
    have Hkw := hid hkw
    have HB := hid hB
    clear hR0 hkw hB
    refine calls_hide fun R' hR' => ?_
    have hFail : ∀ w', Keeps (· < w.heap.size) w w' → ok = false → gb = [] → R' (.returned (.tuple #[.string ⟨#[]⟩, .bool false])) w' := fun w' h hf hg => by
      have := HR0.out R' hR'.out ⟨#[]⟩ w' (fun h => by rw [hf] at h; cases h) (fun _ => by rw [hg]) (by show 0 + 5 ≤ _; omega) h
      rw [hf] at this
      exact this
    have hR1 := HR0.out R' hR'.out
    clear HR0 hR'
    have HFail := hid hFail
    have HR1 := hid hR1
    clear hFail hR1
    go_enter Tryd.func35, Tryd.ntmps35
    obtain ⟨o21, o22⟩ := o2
    obtain ⟨sv, hsv⟩ : ∃ sv, sv = (sevOk f ts && decide (2 ≤ kids.length)) := ⟨_, rfl⟩
    have HSw := hid hsv
    unfold sevOk at hsv
    have HSv := hid hsv
    clear hsv
    go_upto_region 1 with fail
    generalize w.alloc (.cells #[.int .i64 k, .int .u8 f, .slice A1 ts.length c1, .slice A2 kids.length c2] 26) = W1 at *
    have hz := HB.out
    have hzl := hz.lt
    have z0 := (hz).cell 0
    have z1 := (hz).cell 1
    have z2 := (hz).cell 2
    have z3 := (hz).cell 3
    simp only [List.getElem?_cons_zero, List.getElem?_cons_succ] at z0 z1 z2 z3
    clear hz
    go_cut [6] from 9 to 24 (fun bv wx => bv = .bool sv ∧ W1 = wx)
    case first =>
      by_cases q1 : 2 ≤ kids.length
      · have q1I : (2 : Int) ≤ (kids.length : Int) := by omega
        by_cases q2 : f = 0
        · have q2b : (f == 0) = true := by simp [q2]
          by_cases q3 : ts.length = 0
          · have q3b : ((ts.length : Int) == 0) = true := by simp [q3]
            have hsv : sv = true := by rw [HSv.out, q2b, decide_eq_true q1]; simp [q3]
            clear q1 q2 q3
            subst hsv
            go_wp2_with fail
            go_meet
            case rel => first | exact ⟨rfl, rfl⟩ | exact ⟨by simp, rfl⟩
          · have q3b : ((ts.length : Int) == 0) = false := by have : (ts.length : Int) ≠ 0 := by omega
                                                              simpa using this
            have q3c : (ts.length == 0) = false := by simpa using q3
            have hsv : sv = false := by rw [HSv.out, q3c, Bool.and_false]; rfl
            clear q3c
            clear q1 q2 q3
            subst hsv
            go_wp2_with fail
            go_meet
            case rel => first | exact ⟨rfl, rfl⟩ | exact ⟨by simp, rfl⟩
        · have q2b : (f == 0) = false := by simpa using q2
          have hsv : sv = false := by rw [HSv.out, q2b]; rfl
          clear q1 q2
          subst hsv
          go_wp2_with fail
          go_meet
          case rel => first | exact ⟨rfl, rfl⟩ | exact ⟨by simp, rfl⟩
      · have q1I : ¬ (2 : Int) ≤ (kids.length : Int) := by omega
        have hsv : sv = false := by rw [HSv.out, decide_eq_false q1, Bool.and_false]
        clear q1
        subst hsv
        go_wp2_with fail
        go_meet
        case rel => first | exact ⟨rfl, rfl⟩ | exact ⟨by simp, rfl⟩
    case rest =>
      obtain ⟨rfl, rfl⟩ := hcut
      by_cases hd8 : 8 < d
      · have hd8I : (8 : Int) < (d : Int) := by omega
        have hno : ok = false := by rw [Hokm.out, decide_eq_false (by omega)]; rfl
        have hg : gb = [] := by rw [Hgbm.out, if_neg (fun h => absurd h.1 (by omega))]
        have Hno := hid hno
        have Hg := hid hg
        clear hno hg
        go_wp2_with fail
        exact HFail.out _ Hkw.out Hno.out Hg.out
      have hd8I : ¬ (8 : Int) < (d : Int) := by omega
      have hokm := Hokm.out
      rw [decide_eq_true (by omega : d ≤ 8), Bool.true_and] at hokm
      clear Hokm
      by_cases hk1 : k = 1
      · have k1 : (k == 1) = true := by simp [hk1]
        have k4 : (k == 4) = false := by simp [hk1]
        have k2 : (k == 2) = false := by simp [hk1]
        have k3 : (k == 3) = false := by simp [hk1]
        rw [if_pos hk1] at hokm
        have htxm := Htxm.out
        rw [if_pos hk1] at htxm
        have hg : gb = [] := by rw [Hgbm.out, if_neg (fun h => by have := h.2.1; omega)]
        have Hg := hid hg
        clear hg
        clear hk1 Htxm
        by_cases hk0 : kids.length = 0
        · have hk0I : ((kids.length : Int) == 0) = true := by simp [hk0]
          rw [hk0] at hokm
          have hokm2 : ok = leafOk f ts := by rw [hokm]; rfl
          have hcall := query_leafT k f ts A1 A2 c1 kids.length c2 W1 K (fun b h => Nat.lt_of_lt_of_le (Hb.out b h) Hkw.out.size) (HT.out.keep Hkw.out) (H1.out.keep Hkw.out Hb.out) ⟨o21, o22⟩ (fun t ht => ⟨(O3.out t ht).1, (O3.out t ht).2.2⟩) (by omega) (by omega)
          rw [← hokm2] at hcall
          clear hk0 hokm hokm2
          have Hcall := hid hcall
          have Htxm := hid htxm
          clear hcall htxm
          go_wp2_with fail
          refine Hcall.out.mono ?_
          rintro e w3 ⟨s, rfl, g1, g4, g2, g3⟩
          have hk3 := Hkw.out.trans (g3.mono fun b hb => by omega)
          clear g3 Hcall
          have G1 := hid g1
          have G2 := hid g2
          have Hk3 := hid hk3
          have G4 := hid g4
          clear g1 g2 hk3 g4
          go_wp2_with fail
          exact HR1.out s _ (fun h => by rw [Htxm.out]; exact G1.out h) (fun h => by rw [Hg.out]; exact G4.out h) (by have := G2.out; omega) Hk3.out
        · have hk0I : ((kids.length : Int) == 0) = false := by
            have : (kids.length : Int) ≠ 0 := by omega
            simpa using this
          have hk0c : (kids.length == 0) = false := by simpa using hk0
          have hno : ok = false := by rw [hokm, hk0c]; rfl
          clear hk0c
          clear hk0 hokm htxm
          have Hno := hid hno
          clear hno
          go_wp2_with fail
          exact HFail.out _ Hkw.out Hno.out Hg.out
      · have k1 : (k == 1) = false := by simpa using hk1
        rw [if_neg hk1] at hokm
        have htxm := Htxm.out
        rw [if_neg hk1] at htxm
        clear hk1 Htxm
        by_cases hk4 : k = 4
        · have k4 : (k == 4) = true := by simp [hk4]
          have k2 : (k == 2) = false := by simp [hk4]
          have k3 : (k == 3) = false := by simp [hk4]
          rw [k4, k2, k3, if_pos hk4] at hokm
          rw [if_pos hk4] at htxm
          rw [show sevOk f ts = (f == 0 && ts.length == 0) from rfl] at hokm
          by_cases q1 : kids.length = 1
          · have q1b : ((kids.length : Int) == 1) = true := by simp [q1]
            have q1c : (kids.length == 1) = true := by simp [q1]
            by_cases q2 : f = 0
            · have q2b : (f == 0) = true := by simp [q2]
              by_cases q3 : ts.length = 0
              · have q3b : ((ts.length : Int) == 0) = true := by simp [q3]
                have q3c : (ts.length == 0) = true := by simp [q3]
                obtain ⟨n, hn1⟩ : ∃ n, kids[0]? = some n := ⟨_, List.getElem?_eq_getElem (by omega)⟩
                obtain ⟨cs, hcs⟩ : ∃ cs, css[0]? = some cs := ⟨_, List.getElem?_eq_getElem (by omega)⟩
                obtain ⟨m, hm1⟩ : ∃ m, ns[0]? = some m := ⟨_, List.getElem?_eq_getElem (by omega)⟩
                have hkone : kids = [n] := by
                  cases kids with
                  | nil => cases hn1
                  | cons y l =>
                    have : l = [] := List.eq_nil_of_length_eq_zero (by simpa using q1)
                    subst this
                    injection hn1 with hn1
                    subst hn1
                    rfl
                have hmle : m ≤ sumL id ns := by
                  have := sumL_take id ns 0 m hm1
                  have h2 := sumL_take_le id ns 1
                  have h3 : sumL id (ns.take (0 + 1)) = sumL id (ns.take 0) + m := this
                  simp only [Nat.zero_add] at h3
                  omega
                have hN1 := Hk.out 0 n cs hn1 hcs
                obtain ⟨kk, kf, B1, m1, d1, B2, m2, d2, rfl⟩ := hN1.form
                have hkn : kindN n = kk := by cases hN1; rfl
                have hS1 := H2.out
                rw [← hl, ← List.flatMap_id] at hS1
                obtain ⟨b1, p1, rfl, hkb1, c1'⟩ := SlAt.rec0 (f := id) (kids_len4 hl Hk.out) hS1 _ hcs
                have hh1 := Hb.out _ hkb1
                have tr : ∀ b o u, b < w.heap.size → w.cell? ⟨b, o, none⟩ = some u → W1.cell? ⟨b, o, none⟩ = some u := fun b o u hb hc => (World.cell?_of_block (a := ⟨b, o, none⟩) (Hkw.out.block b hb)).trans hc
                have a0 := tr _ _ _ hh1 (c1' 0 _ rfl)
                have a1 := tr _ _ _ hh1 (c1' 1 _ rfl)
                have a2 := tr _ _ _ hh1 (c1' 2 _ rfl)
                have a3 := tr _ _ _ hh1 (c1' 3 _ rfl)
                simp only [Nat.add_zero] at a0
                have hokn : ok = okN n (withD (d + 1) (brk k kk)) := by
                  rw [hokm, q1c, q2b, q3c, hkone, okL_cons, okL_nil, hkn]
                  show ((true && (true || ((false || false) && decide (2 ≤ [n].length)))) && (okN n (withD (d + 1) (brk k kk)) && true)) = _
                  cases okN n (withD (d + 1) (brk k kk)) <;> rfl
                have htxn : tx = 33 :: withT n (brk k kk) := by
                  rw [htxm, hkone, txtL_cons, txtL_nil, hkn, Lib.join_one]
                  rfl
                have hgn : gb = 33 :: withG n (d + 1) (brk k kk) := by
                  rw [Hgbm.out, if_pos ⟨by omega, hk4, by unfold sevOk; rw [q2b, q3c]; rfl, q1⟩, hkone, gbL_cons, hkn]
                  rfl
                have hbk : brk k kk = ((kk == 2) || (kk == 3)) := by unfold brk; rw [k3]; cases (kk == 3) <;> cases (kk == 2) <;> rfl
                rw [hbk] at hokn htxn hgn
                obtain ⟨br, hbr⟩ : ∃ br, br = ((kk == 2) || (kk == 3)) := ⟨_, rfl⟩
                rw [← hbr] at hokn htxn hgn
                obtain ⟨sK, hsK⟩ : ∃ sK : ByteArray, sK = ⟨(if ok then withT n br else withG n (d + 1) br).toArray⟩ := ⟨_, rfl⟩
                have hcall : ∀ p : KP W1 W1.heap.size, Calls Tryd.prog 45 #[.agg #[.int .i64 kk, .int .u8 kf, .slice B1 m1 d1, .slice B2 m2 d2], .int .i64 ((d : Int) + 1), .bool br] p.w fun e w' => e = .returned (.tuple #[.string sK, .bool ok]) ∧ ∃ q : KP W1 W1.heap.size, w' = q.w := fun p => by
                  have hkd : Keeps (· < w.heap.size) w p.w := Hkw.out.trans (p.k.mono fun b hb => by omega)
                  refine p.calls (Nat.le_refl _) ((query_within n (Hkids.out n (List.mem_of_getElem? hn1)) p.w K kk kf B1 B2 m1 d1 m2 d2 (d + 1) m br (fun b hb => Nat.lt_of_lt_of_le (Hb.out b hb) hkd.size) (HT.out.keep hkd) (hN1.keepK hkd Hb.out) (O4.out n (List.mem_of_getElem? hn1)) (Htk.out 0 n m hn1 hm1) (by omega) (by omega)).mono ?_)
                  rintro e w' ⟨s, rfl, g1, g4, g2, g3⟩
                  rw [← hokn] at g1 g4 ⊢
                  refine ⟨?_, g3⟩
                  have : s = sK := by
                    rw [hsK]
                    cases ok with
                    | true => exact ba_eq (g1 rfl)
                    | false => exact ba_eq (g4 rfl)
                  rw [this]
                have hsz2 : sK.size + 3 ≤ 700 * m := by
                  obtain ⟨l1, l2⟩ := with_len (br := br) (d := d + 1) (Htk.out 0 n m hn1 hm1)
                  rw [hsK]
                  show (if ok then withT n br else withG n (d + 1) br).length + 3 ≤ 700 * m
                  cases ok with
                  | true => exact l1 hokn.symm
                  | false => exact l2
                have hk0 : 0 < kids.length := by omega
                have hk0I : (0 : Int) < (kids.length : Int) := by omega
                have hmb : m ≤ 3000 := by omega
                have hsKb : sK.size ≤ 3000000 := by omega
                have hfin : ∀ (w' : World), Keeps (· < W1.heap.size) W1 w' → R' (.returned (.tuple #[.string (⟨#[33]⟩ ++ sK), .bool ok])) w' := fun w' g3 => HR1.out _ _ (fun h => by rw [htxn, ByteArray.data_append, Array.toList_append, hsK, h]; rfl) (fun h => by rw [hgn, ByteArray.data_append, Array.toList_append, hsK, h]; rfl) (by rw [ByteArray.size_append]; show 1 + sK.size + 5 ≤ _; omega) (Hkw.out.trans (g3.mono fun b hb => by omega))
                clear hokn htxn hgn hbk tr hS1 hN1 c1' hkone hokm htxm hkn q1c q3c hn1 hcs hm1 q1 q2 q3 hk4 hsK hsz2
                have hb1w : b1 < W1.heap.size := by omega
                have y3 : ∀ p : KP W1 W1.heap.size, p.w.cell? ⟨w.heap.size, 3, none⟩ = some (.slice (some ⟨b1, p1, none⟩) kids.length c2) := KP.cell hzl z3
                have y4 : ∀ p : KP W1 W1.heap.size, p.w.cell? ⟨b1, p1, none⟩ = some (.int .i64 kk) := KP.cell hb1w a0
                have y5 : ∀ p : KP W1 W1.heap.size, p.w.cell? ⟨b1, p1 + 1, none⟩ = some (.int .u8 kf) := KP.cell hb1w a1
                have y6 : ∀ p : KP W1 W1.heap.size, p.w.cell? ⟨b1, p1 + 2, none⟩ = some (.slice B1 m1 d1) := KP.cell hb1w a2
                have y7 : ∀ p : KP W1 W1.heap.size, p.w.cell? ⟨b1, p1 + 3, none⟩ = some (.slice B2 m2 d2) := KP.cell hb1w a3
                have Hcall := hid hcall
                have Hfin := hid hfin
                clear hcall hfin
                by_cases r2 : kk = 2
                · have r2b : (kk == 2) = true := by simp [r2]
                  have hbt : br = true := by rw [hbr, r2b]; rfl
                  clear r2 hbr
                  subst hbt
                  go_upto_region 7 with fail
                  refine wp_region_class W1.heap.size (by kernel_rfl) (by kernel_rfl) ?_
                  repeat (go_big_quiet_step ((exact Hcall.out _)))
                  refine wpQuiet_nil ?_
                  rintro _ ⟨⟨wq, hkq⟩, rfl⟩
                  go_wp2_with fail
                  exact Hfin.out _ hkq
                · have r2b : (kk == 2) = false := by simpa using r2
                  have hbt : br = (kk == 3) := by rw [hbr, r2b]; rfl
                  clear r2 hbr
                  subst hbt
                  go_upto_region 7 with fail
                  refine wp_region_class W1.heap.size (by kernel_rfl) (by kernel_rfl) ?_
                  repeat (go_big_quiet_step ((exact Hcall.out _)))
                  refine wpQuiet_nil ?_
                  rintro _ ⟨⟨wq, hkq⟩, rfl⟩
                  go_wp2_with fail
                  exact Hfin.out _ hkq
              · have q3b : ((ts.length : Int) == 0) = false := by
                  have : (ts.length : Int) ≠ 0 := by omega
                  simpa using this
                have q3c : (ts.length == 0) = false := by simpa using q3
                have hno : ok = false := by rw [hokm, q3c, Bool.and_false]; rfl
                have hg : gb = [] := by rw [Hgbm.out, if_neg (fun h => by have := h.2.2.1; unfold sevOk at this; rw [q3c, Bool.and_false] at this; cases this)]
                clear hokm htxm hk4 q1 q2 q3 q1c q3c
                have Hno := hid hno
                have Hg := hid hg
                clear hno hg
                go_wp2_with fail
                exact HFail.out _ Hkw.out Hno.out Hg.out
            · have q2b : (f == 0) = false := by simpa using q2
              have hno : ok = false := by rw [hokm, q2b]; rfl
              have hg : gb = [] := by rw [Hgbm.out, if_neg (fun h => by have := h.2.2.1; unfold sevOk at this; rw [q2b, Bool.false_and] at this; cases this)]
              clear hokm htxm hk4 q1 q2 q1c
              have Hno := hid hno
              have Hg := hid hg
              clear hno hg
              go_wp2_with fail
              exact HFail.out _ Hkw.out Hno.out Hg.out
          · have q1b : ((kids.length : Int) == 1) = false := by
              have : (kids.length : Int) ≠ 1 := by omega
              simpa using this
            have q1c : (kids.length == 1) = false := by simpa using q1
            have hno : ok = false := by rw [hokm, q1c]; simp
            have hg : gb = [] := by rw [Hgbm.out, if_neg (fun h => q1 h.2.2.2)]
            clear hokm htxm hk4 q1 q1c
            have Hno := hid hno
            have Hg := hid hg
            clear hno hg
            go_wp2_with fail
            exact HFail.out _ Hkw.out Hno.out Hg.out
        have k4 : (k == 4) = false := by simpa using hk4
        have hg : gb = [] := by rw [Hgbm.out, if_neg (fun h => hk4 h.2.1)]
        have Hg := hid hg
        clear hg
        by_cases hk2 : k = 2
        · have k2 : (k == 2) = true := by simp [hk2]
          have k3 : (k == 3) = false := by simp [hk2]
          cases sv with
          | false =>
            have hno : ok = false := by
              rw [hokm, k4, Bool.false_and, Bool.false_or, k2, Bool.true_or, Bool.true_and]
              have := HSw.out
              cases hse : sevOk f ts with
              | false => rfl
              | true =>
                rw [hse, Bool.true_and] at this
                rw [← this, Bool.and_false]
                rfl
            clear hokm htxm hk2
            have Hno := hid hno
            clear hno
            go_wp2_with fail
            exact HFail.out _ Hkw.out Hno.out Hg.out
          | true =>
            have hse := HSw.out
            have hse1 : sevOk f ts = true := by cases h : sevOk f ts with
              | true => rfl
              | false => rw [h] at hse; cases hse
            have hse2 : decide (2 ≤ kids.length) = true := by rw [hse1, Bool.true_and] at hse; exact hse.symm
            have hokj : ok = okL kids d k := by
              rw [hokm, hse1, hse2, if_neg hk4]
              simp [hk2]
            have htxj : tx = Lib.join (txtL kids k) [32, 38, 32] := by
              rw [htxm, if_neg hk4]
              simp [hk2]
            have hcall := query_joinT k true (by rw [k3]; rfl) kids Hkids.out W1 K A2 c2 d ⟨#[32, 38, 32]⟩ css ns (fun b h => Nat.lt_of_lt_of_le (Hb.out b h) Hkw.out.size) (HT.out.keep Hkw.out) (H2.out.keep Hkw.out Hb.out) hl (fun i n cs h1 h2 => (Hk.out i n cs h1 h2).keepK Hkw.out Hb.out) O4.out hnl Htk.out (by omega) (by omega) (by decide) (by omega)
            rw [← hokj] at hcall
            clear hokm htxm hk2 hse hse1 hse2 hokj hk4
            have Hcall := hid hcall
            have Htxj := hid htxj
            clear hcall htxj
            go_wp2_with fail
            refine Hcall.out.mono ?_
            rintro e w3 ⟨s, rfl, g1, g4, g2, g3⟩
            have hk3 := Hkw.out.trans (g3.mono fun b hb => by omega)
            clear g3 Hcall
            have G1 := hid g1
            have G2 := hid g2
            have Hk3 := hid hk3
            have G4 := hid g4
            clear g1 g2 hk3 g4
            go_wp2_with fail
            exact HR1.out s _ (fun h => by rw [Htxj.out]; exact G1.out h) (fun h => by rw [Hg.out]; exact G4.out h) (by have := G2.out; omega) Hk3.out
        have k2 : (k == 2) = false := by simpa using hk2
        by_cases hk3 : k = 3
        · have k3 : (k == 3) = true := by simp [hk3]

          cases sv with
          | false =>
            have hno : ok = false := by
              rw [hokm, k4, Bool.false_and, Bool.false_or, k3, Bool.or_true, Bool.true_and]
              have := HSw.out
              cases hse : sevOk f ts with
              | false => rfl
              | true =>
                rw [hse, Bool.true_and] at this
                rw [← this, Bool.and_false]
                rfl
            clear hokm htxm hk3
            have Hno := hid hno
            clear hno
            go_wp2_with fail
            exact HFail.out _ Hkw.out Hno.out Hg.out
          | true =>
            have hse := HSw.out
            have hse1 : sevOk f ts = true := by cases h : sevOk f ts with
              | true => rfl
              | false => rw [h] at hse; cases hse
            have hse2 : decide (2 ≤ kids.length) = true := by rw [hse1, Bool.true_and] at hse; exact hse.symm
            have hokj : ok = okL kids d k := by
              rw [hokm, hse1, hse2, if_neg hk4]
              simp [hk3]
            have htxj : tx = Lib.join (txtL kids k) [32, 124, 32] := by
              rw [htxm, if_neg hk4]
              simp [hk3]
            have hcall := query_joinT k false (by rw [k3]; rfl) kids Hkids.out W1 K A2 c2 d ⟨#[32, 124, 32]⟩ css ns (fun b h => Nat.lt_of_lt_of_le (Hb.out b h) Hkw.out.size) (HT.out.keep Hkw.out) (H2.out.keep Hkw.out Hb.out) hl (fun i n cs h1 h2 => (Hk.out i n cs h1 h2).keepK Hkw.out Hb.out) O4.out hnl Htk.out (by omega) (by omega) (by decide) (by omega)
            rw [← hokj] at hcall
            clear hokm htxm hk3 hse hse1 hse2 hokj hk4
            have Hcall := hid hcall
            have Htxj := hid htxj
            clear hcall htxj
            go_wp2_with fail
            refine Hcall.out.mono ?_
            rintro e w3 ⟨s, rfl, g1, g4, g2, g3⟩
            have hk3 := Hkw.out.trans (g3.mono fun b hb => by omega)
            clear g3 Hcall
            have G1 := hid g1
            have G2 := hid g2
            have Hk3 := hid hk3
            have G4 := hid g4
            clear g1 g2 hk3 g4
            go_wp2_with fail
            exact HR1.out s _ (fun h => by rw [Htxj.out]; exact G1.out h) (fun h => by rw [Hg.out]; exact G4.out h) (by have := G2.out; omega) Hk3.out
        have k3 : (k == 3) = false := by simpa using hk3
        have hno : ok = false := by
          rw [hokm, k4, k2, k3]
          simp
        clear hokm htxm hk4 hk2 hk3
        have Hno := hid hno
        clear hno
        go_wp2_with fail
        exact HFail.out _ Hkw.out Hno.out Hg.out
end Go.Proofs.YtbepgbkbpkaodaaDoor
