/- Contracts: post.Walk. -/
import Derived.Test.YtbmgmjfpoepgpaaDoorPoolC
import Derived.Test.YtbmgmjfpoepgpaaDoorRow
import Derived.Test.YtbmgmjfpoepgpaaDoorInit
namespace Go.Proofs.YtbmgmjfpoepgpaaDoor
open Go.RowKit

def walkT (p : PlanM) : Nat → Int → List Int → Tree (List Int)
  | 0, _, acc => .ret acc
  | n + 1, t, acc => if (p.cls t).1 < 0 ∨ (p.cls t).2 = 0 then .ret acc else .load t fun x => .off fun b => if b then .ret acc else
      if (p.cls t).2 = 1 then .load (t - 1) fun y => walkT p n y (acc ++ [x]) else walkT p n (t - 1) (acc ++ [x])

def lenV : Value → Nat
  | .slice _ n _ => n
  | _ => 0
theorem PlanM.cls_in {p : PlanM} (hp : p.Wf) {t : Int} (h : ¬ (p.cls t).1 < 0) : 0 ≤ t ∧ t ≤ 131072 := by
  unfold PlanM.cls at h
  have key : ∀ k, p.has k t → 0 ≤ t ∧ t ≤ 131072 := fun k hk => by
    have h1 := hp.b k
    have h2 := hp.s k
    unfold PlanM.has at hk
    omega
  split at h
  · exact key 0 (by assumption)
  · split at h
    · exact key 1 (by assumption)
    · split at h
      · exact key 2 (by assumption)
      · split at h
        · exact key 3 (by assumption)
        · simp at h

set_option maxRecDepth 100000 in
set_option maxHeartbeats 4000000 in
theorem walk_call {w : World} {K : Nat → Prop} {r m c : Nat} {s : St} (h : RM w K r m c s) (hK0 : K 0) (ht : Tab w) (p : PlanM) (hp : p.Wf) (t : Int) (ht0 : -9223372036854775808 ≤ t ∧ t ≤ 9223372036854775807) (n : Nat) (hn : p.cells = n) (hn2 : n ≤ 65536) :
    Calls Tryd.prog 20 #[.pointer (some ⟨r, 0, none⟩), p.val, .int .i64 t] w fun e w' =>
      ∃ g, e = .returned g ∧ RM w' (fun b => K b ∨ g.ownBlock = some b) r m c ((walkT p n t []).exec s).2 ∧ RowOwn w' K g ((walkT p n t []).exec s).1 ∧ Keeps K w w' ∧ ∀ x ∈ ((walkT p n t []).exec s).1, U32 x := by
  have H := hid h
  have HT := hid ht
  have HP := hid hp
  have HLT := hid h.lt
  have HT0 := hid ht0
  generalize hres : (walkT p n t []).exec s = res
  have Hres := hid hres
  clear hres
  have HNC := hid hn
  clear h ht hp ht0 hn
  refine calls_hide fun R' hR' => ?_
  have hcall := fun w hw t ht => class_call p t w HP.out hw ht
  unfold PlanM.val at *
  go_enter Tryd.func20, Tryd.ntmps20
  go_wp2_with fail
  go_step3
  go_wp2_with fail
  go_step3
  go_wp2_with fail
  refine wp_gen (fun W => Blk W w.heap.size p.flat ∧ Keeps (· < w.heap.size) w W ∧ RM W (fun b => K b ∨ b = w.heap.size) r m c s) ⟨Blk.new w p.flat _, (Keeps.refl _ _).alloc (fun b hb => hb) _, H.out.more _⟩ (fun w0 HW => ?_)
  obtain ⟨hb0, hk0, hR0⟩ := HW
  generalize hB : w.heap.size = B at *
  generalize hK1 : (fun b => K b ∨ b = B) = K1 at *
  have hKK : ∀ b, K b → K1 b := by rw [← hK1]; exact fun b hb => Or.inl hb
  have hKB : K1 B := by rw [← hK1]; exact Or.inr rfl
  have hK1lt : ∀ b, K1 b → b < w0.heap.size := hR0.lt
  have hkw : Keeps K w w0 := hk0.mono HLT.out
  have hT0 : Tab w0 := HT.out.keep hkw hK0
  clear hK1 hk0
  have Hb0 := hid hb0
  have HR0 := hid hR0
  have HKK := hid hKK
  have HKB := hid hKB
  have HK1lt := hid hK1lt
  have Hkw := hid hkw
  have HTw := hid hT0
  have HB := hid hB
  clear hb0 hR0 hKK hKB hK1lt hkw hT0 hB
  go_loopw [2, 7] (fun vt out wr => ∃ (t' : Int) (k : Nat) (s' : St) (acc : List Int) (A : Option Addr) (cp : Nat), vt = .int .i64 t' ∧ (-9223372036854775808 ≤ t' ∧ t' ≤ 9223372036854775807) ∧ k ≤ n ∧ acc.length + k = n ∧ out = .slice A acc.length cp ∧
      RM wr (fun b => K1 b ∨ (Value.slice A acc.length cp).ownBlock = some b) r m c s' ∧ RowOwn wr K1 (.slice A acc.length cp) acc ∧ Keeps K1 w0 wr ∧ (∀ x ∈ acc, U32 x) ∧ (walkT p k t' acc).exec s' = res) (fun _ out _ => n - lenV out)
  case atStart => exact ⟨t, n, s, [], none, 0, rfl, HT0.out, Nat.le_refl _, by simp, rfl, HR0.out.mono (fun b hb => hb.resolve_right (by intro e; cases e)), RowOwn.nil _ _, Keeps.refl _ _, fun x hx => (by cases hx), Hres.out⟩
  case round =>
    obtain ⟨t', k, s', acc, A, cp, rfl, ht', hk, hla, rfl, hR, hO, hK, hac, hex⟩ := hrel
    have hb := Hb0.out.keep hK HKB.out
    have hTr := HTw.out.keep hK (HKK.out 0 hK0)
    have HR := hid hR
    have HO := hid hO
    have HK := hid hK
    have Hac := hid hac
    have Hex := hid hex
    clear hR hO hK hac hex
    unfold PlanM.flat at hb
    have c0 := (hb).cell 0
    have c1 := (hb).cell 1
    have c2 := (hb).cell 2
    have c3 := (hb).cell 3
    have c4 := (hb).cell 4
    have c5 := (hb).cell 5
    have c6 := (hb).cell 6
    have c7 := (hb).cell 7
    have c8 := (hb).cell 8
    have c9 := (hb).cell 9
    have c10 := (hb).cell 10
    have c11 := (hb).cell 11
    have c12 := (hb).cell 12
    have c13 := (hb).cell 13
    have c14 := (hb).cell 14
    simp only [List.getElem?_cons_zero, List.getElem?_cons_succ] at c0 c1 c2 c3 c4 c5 c6 c7 c8 c9 c10 c11 c12 c13 c14
    cases k with
    | zero =>
      have hl0 : acc.length = n := by omega
      have g0 : ¬ (acc.length : Int) < p.cells := by have := HNC.out; omega
      have hfin : (acc, s') = res := Hex.out
      have hob : ∀ b, (Value.slice A acc.length cp).ownBlock = some b → b < wr.heap.size := fun b hb => HR.out.lt b (Or.inr hb)
      have Hfin := hid hfin
      clear hfin
      clear c0 c1 c2 c3 c4 c5 c6 c7 c8 c9 c10 c11 c13 c14 hl0
      go_wp2_with fail
      refine hR'.out _ _ ⟨_, rfl, ?_, ?_, ?_, ?_⟩
      all_goals (try rw [← Hfin.out])
      · exact HR.out.mono (fun b hb => hb.imp (HKK.out b) id)
      · exact ⟨HO.out.1, fun b hb hKb => HO.out.2 b hb (HKK.out b hKb)⟩
      · exact Hkw.out.trans (HK.out.mono HKK.out)
      · exact Hac.out
    | succ k =>
      have g0 : (acc.length : Int) < p.cells := by have := HNC.out; omega
      have hwk : walkT p (k + 1) t' acc = if (p.cls t').1 < 0 ∨ (p.cls t').2 = 0 then .ret acc else .load t' fun x => .off fun b => if b then .ret acc else
        if (p.cls t').2 = 1 then .load (t' - 1) fun y => walkT p k y (acc ++ [x]) else walkT p k (t' - 1) (acc ++ [x]) := rfl
      have HCIN := hid (fun h => PlanM.cls_in HP.out (t := t') h)
      have hcl := hcall wr hTr t' ht'
      have hla' : acc.length + 1 + k = n := by omega
      have HLA := hid hla'
      have hal65 : acc.length + 1 ≤ 65536 := by omega
      have hex := Hex.out
      rw [hwk] at hex
      clear hwk hla hla'
      generalize p.cls t' = cl at *
      obtain ⟨q1, q2⟩ := cl
      simp only at hex HCIN hcl
      go_wp2_with fail
      refine hcl.mono ?_
      rintro e w2 ⟨rfl, hk2⟩
      have hR2 := HR.out.below hk2
      have hob : ∀ b, (Value.slice A acc.length cp).ownBlock = some b → b < wr.heap.size := fun b hb => HR.out.lt b (Or.inr hb)
      have hO2 : RowOwn w2 K1 (.slice A acc.length cp) acc := ⟨own_of_keep HO.out.1 hk2 hob, HO.out.2⟩
      have hK2 := HK.out.trans (hk2.mono fun b hb => HR.out.lt b (Or.inl hb))
      have HR2 := hid hR2
      have HO2 := hid hO2
      have HK2 := hid hK2
      clear hR2 hO2 hK2
      clear hcl hk2 c0 c1 c2 c3 c4 c5 c6 c7 c8 c9 c10 c11 c12 c13 c14 hob hTr
      have END : Hid (∀ W sf, (acc, sf) = res → RM W (fun b => K1 b ∨ (Value.slice A acc.length cp).ownBlock = some b) r m c sf → RowOwn W K1 (.slice A acc.length cp) acc → Keeps K1 w0 W → R' (.returned (.slice A acc.length cp)) W) := hid (fun W sf h1 h2 h3 h4 => by
        refine hR'.out _ _ ⟨_, rfl, ?_, ?_, ?_, ?_⟩
        all_goals (try rw [← h1])
        · exact h2.mono (fun b hb => hb.imp (HKK.out b) id)
        · exact ⟨h3.1, fun b hb hKb => h3.2 b hb (HKK.out b hKb)⟩
        · exact Hkw.out.trans (h4.mono HKK.out)
        · exact Hac.out)
      by_cases hq1 : q1 < 0
      · rw [if_pos (Or.inl hq1)] at hex
        have hfin : (acc, s') = res := hex
        have Hfin := hid hfin
        clear hfin
        clear hex
        have g1 : decide (q1 < 0) = true := decide_eq_true hq1
        go_wp2_with fail
        exact END.out _ _ Hfin.out HR2.out HO2.out HK2.out
      · have g1 : decide (q1 < 0) = false := decide_eq_false hq1
        obtain ⟨ct0, ct1⟩ := HCIN.out (by omega)
        by_cases hq2 : q2 = 0
        · rw [if_pos (Or.inr hq2)] at hex
          have hfin : (acc, s') = res := hex
          have Hfin := hid hfin
          clear hfin
          clear hex
          have g2 : (q2 == 0) = true := by simpa using hq2
          go_wp2_with fail
          exact END.out _ _ Hfin.out HR2.out HO2.out HK2.out
        · rw [if_neg (by rintro (h | h); exact hq1 h; exact hq2 h)] at hex
          have g2 : (q2 == 0) = false := by simpa using hq2
          have Hex := hid hex
          clear hex
          clear hq1 hq2
          go_wp2_with fail
          refine (step_load HR2.out t').mono ?_
          rintro e w3 ⟨rfl, hr3, hk3⟩
          have hu2 := HR2.out.load_u32 t'
          have hn1 : (Tree.off fun b => if b then .ret acc else (if q2 = 1 then .load (t' - 1) fun y => walkT p k y (acc ++ [(s'.load t').1]) else walkT p k (t' - 1) (acc ++ [(s'.load t').1]))).exec (s'.load t').2 = res := Hex.out
          clear Hex
          generalize s'.load t' = ls at *
          obtain ⟨x, s3⟩ := ls
          simp only at hr3 hu2 hn1
          obtain ⟨u20, u21⟩ := hu2
          have hO3 : RowOwn w3 K1 (.slice A acc.length cp) acc := ⟨own_of_keep HO2.out.1 hk3 (fun b hb => Or.inr hb), HO2.out.2⟩
          have hK3 := HK2.out.trans (hk3.mono fun b hb => Or.inl hb)
          have hn2 : (if s3.isOff = true then Tree.ret acc else (if q2 = 1 then .load (t' - 1) fun y => walkT p k y (acc ++ [x]) else walkT p k (t' - 1) (acc ++ [x]))).exec s3 = res := hn1
          have HO3 := hid hO3
          have HK3 := hid hK3
          clear hO3 hK3
          have HR3 := hid hr3
          clear hr3 hk3 hn1 HR2 HO2 HK2
          have Hn2 := hid hn2
          clear hn2
          go_wp2_with fail
          refine (step_off HR3.out).mono ?_
          rintro e w4 ⟨rfl, rfl⟩
          have hn2 := Hn2.out
          clear Hn2
          generalize s3.isOff = bo at *
          cases bo with
          | true =>
            rw [if_pos rfl] at hn2
            have hfin : (acc, s3) = res := hn2
            clear hn2
            have Hfin := hid hfin
            clear hfin
            go_wp2_with fail
            exact END.out _ _ Hfin.out HR3.out HO3.out HK3.out
          | false =>
            rw [if_neg (by decide)] at hn2
            have Hn2 := hid hn2
            clear hn2
            clear END
            obtain ⟨i0, hi, hz0, hz1, hz2⟩ := info_parts Tryd.infoU
            go_wp2_with (at_builtin; refine wpList_append_x rfl _ _ 37 rfl 41 i0 (.int .u32 0) 1 4 Tryd.underlying37 hi hz0 hz1 hz2 rfl (by decide) (.slice A acc.length cp) acc.length (acc.map (Value.int .u32)) rfl (HO3.out.1.alloc _) ⟨w3.heap.size, 0, none⟩ 1 1 [.int .u32 x] rfl rfl ?_ ?_ ?_ ?_ ?_)
            · intro j u hj
              rcases j with _ | j
              · simpa [Addr.add] using hj
              · simp at hj
            · intro u hu; simp at hu; rcases hu with rfl; rfl
            · unfold maxLen; omega
            · omega
            · intro v' w6 hown' hgr hfr
              obtain ⟨A', cp', hv'⟩ : ∃ A' cp', v' = .slice A' (acc.length + 1) cp' := by
                rcases hown'.2 with ⟨_, h⟩ | ⟨g, cap, _, h, _⟩
                · omega
                · exact ⟨_, _, h⟩
              subst hv'
              have hal := HR3.out.alloc (.cells #[.int .u32 x] 41)
              have hR6 := hal.appendR hgr (by rw [World.size_alloc]; exact hfr) (fun b hb => (hown'.lt b hb).2)
              have hK6 : Keeps K1 w0 w6 := (HK3.out.alloc (fun b hb => by have := HK1lt.out b hb; have := HK3.out.size; omega) _).trans (keepsR_append (fun b hb => hal.lt b (Or.inl hb)) HO3.out.2 hgr)
              have hO6 : RowOwn w6 K1 (.slice A' (acc.length + 1) cp') (acc ++ [x]) := by
                refine ⟨?_, ?_⟩
                · simpa using hown'
                · intro b hb hKb
                  rcases hfr with h | ⟨b', h, h2⟩
                  · exact HO3.out.2 b (h ▸ hb) hKb
                  · rw [h] at hb; injection hb with hb
                    have := HK1lt.out b hKb; have := HK3.out.size; omega
              have HAC := hid (show ∀ y ∈ acc ++ [x], U32 y from by intro y hy; rcases List.mem_append.1 hy with h | h; exact Hac.out y h; simp at h; subst h; exact ⟨u20, u21⟩)
              have HR6 := hid hR6
              have HK6 := hid hK6
              have HO6 := hid hO6
              clear hR6 hK6 hO6
              clear hown' hgr hfr hal hi hz0 hz1 hz2
              by_cases hq3 : q2 = 1
              · have hnx := Hn2.out
                rw [if_pos hq3] at hnx
                have g3 : (q2 == 1) = true := by simpa using hq3
                clear hq3
                have Hnx := hid hnx
                clear hnx
                go_wp2_with fail
                refine (step_load HR6.out (t' - 1)).mono ?_
                rintro e w7 ⟨rfl, hr7, hk7⟩
                have hu7 := HR6.out.load_u32 (t' - 1)
                have hn7 : (walkT p k (s3.load (t' - 1)).1 (acc ++ [x])).exec (s3.load (t' - 1)).2 = res := Hnx.out
                generalize s3.load (t' - 1) = ls at *
                obtain ⟨y, s7⟩ := ls
                simp only at hr7 hu7 hn7
                obtain ⟨u70, u71⟩ := hu7
                have hO7 : RowOwn w7 K1 (.slice A' (acc.length + 1) cp') (acc ++ [x]) := ⟨own_of_keep HO6.out.1 hk7 (fun b hb => Or.inr hb), HO6.out.2⟩
                have hK7 := HK6.out.trans (hk7.mono fun b hb => Or.inl hb)
                have g4 : IntKind.i64.wrap y = y := IntWalk.i64_in _ (by omega)
                have Hr7 := hid hr7
                have HO7 := hid hO7
                have HK7 := hid hK7
                have Hn7 := hid hn7
                clear hr7 hO7 hK7 hn7
                clear hk7
                go_wp2_with fail
                go_roundw
                case rel => exact ⟨y, k, s7, acc ++ [x], A', cp', by first | rfl | go_num, by omega, by have := HLA.out; omega, by have := HLA.out; simp; omega, by simp, by simpa using Hr7.out, by simpa using HO7.out, HK7.out, HAC.out, Hn7.out⟩
                case measure => have := HLA.out; simp [lenV]; omega
              · have hnx := Hn2.out
                rw [if_neg hq3] at hnx
                have g3 : (q2 == 1) = false := by simpa using hq3
                clear hq3
                have Hnx := hid hnx
                clear hnx
                go_wp2_with fail
                go_roundw
                case rel => exact ⟨t' - 1, k, s3, acc ++ [x], A', cp', by first | rfl | go_num, by omega, by have := HLA.out; omega, by have := HLA.out; simp; omega, by simp, by simpa using HR6.out, by simpa using HO6.out, HK6.out, HAC.out, Hnx.out⟩
                case measure => have := HLA.out; simp [lenV]; omega
end Go.Proofs.YtbmgmjfpoepgpaaDoor
