/- Contracts: slices.insertionSortCmpFunc at a row of numbers that follow each other. -/
import Derived.Test.YtbmgmjfpoepgpaaSortB
namespace Go.Proofs.Ytbmgmjfpoepgpaa
open Go.RowKit

/-- the comparison, called in any world that keeps K, tells the keys' order -/
def CmpOK (K : Nat → Prop) (w : World) (N : Nat) (key : Nat → Int) (lb : Nat) : Prop :=
  ∀ W, Keeps K w W → ∀ i j : Nat, i < N → j < N → Calls Try.prog 35 #[.int .i64 (i : Int), .int .i64 (j : Int), .pointer (some ⟨lb, 0, none⟩)] W fun e w' =>
    e = .returned (.int .i64 (cmpv key i j)) ∧ ∃ q, w' = W.drewN q
def cmpf (lb : Nat) : Value := .func (.func 35) #[] #[.pointer (some ⟨lb, 0, none⟩)]
theorem CmpOK.keep {K : Nat → Prop} {w w' : World} {N : Nat} {key : Nat → Int} {lb : Nat} (h : CmpOK K w N key lb) (k : Keeps K w w') : CmpOK K w' N key lb :=
  fun W hW i j hi hj => h W (k.trans hW) i j hi hj

theorem insS_done {key : Nat → Int} {L : List Nat} {i k : Nat} (hs : L.Pairwise (Lt key)) (hk : k ≤ L.length) (hm : ∀ y ∈ L, y < i) (h1 : ∀ y, L[k - 1]? = some y → 0 < k → ¬ Lt key i y) (h2 : ∀ y ∈ L.drop k, Lt key i y) :
    L.take k ++ i :: L.drop k = insS key i L := by
  refine (insS_at i L k hk (fun j hj => ?_) (fun h hl => ?_)).symm
  · have hkl : k - 1 < L.length := by omega
    have h3 := Lt.total (h1 _ (List.getElem?_eq_getElem hkl) (by omega)) (by have := hm _ (List.getElem_mem hkl); omega)
    rcases Nat.lt_or_ge j (k - 1) with hj' | hj'
    · exact (sorted_get hs hkl hj').trans h3
    · have e : j = k - 1 := by omega
      subst e; exact h3
  · have := h2 (L[k]'h) (by rw [List.drop_eq_getElem_cons h]; exact List.mem_cons_self ..)
    exact this.asymm hl

set_option maxRecDepth 100000 in
set_option maxHeartbeats 4000000 in
theorem insertion_ok {w : World} {K : Nat → Prop} {b n cap a e N lb : Nat} {key : Nat → Int} {P S : List Nat} (hR : Row w b (P ++ List.range' a (e - a) ++ S)) (hK : ¬ K b) (hC : CmpOK K w N key lb)
    (hn : n = (P ++ List.range' a (e - a) ++ S).length) (ha : a = P.length) (hae : a ≤ e) (heN : e ≤ N) (hbig : n ≤ 1099511627776) (hcap : n ≤ cap) (hcb : cap ≤ maxLen) :
    Calls Try.prog 56 #[.slice (some ⟨b, 0, none⟩) n cap, .int .i64 (a : Int), .int .i64 (e : Int), .func (.func 35) #[] #[.pointer (some ⟨lb, 0, none⟩)]] w fun en w' =>
      en = .returned (.tuple #[]) ∧ Row w' b (P ++ srt key a e ++ S) ∧ Keeps K w w' := by
  unfold maxLen at hcb
  have hen : e ≤ n := by rw [hn]; simp; omega
  have hR0 : Hid (∃ r : Nat, a + 1 + r = e + 1 ∧ True) := hid ⟨e - a, by omega, trivial⟩
  clear hR0
  have HR := hid hR
  have HP := hid ha
  clear hR hn ha
  refine calls_hide fun R' hR' => ?_
  go_enter Try.func56, Try.ntmps56
  go_wp2_with fail
  go_loopw [8] (fun vi wr => ∃ (i : Nat), vi = .int .i64 (i : Int) ∧ a < i ∧ i ≤ e + 1 ∧ Hid ((i ≤ e → Row wr b (P ++ srt key a i ++ List.range' i (e - i) ++ S)) ∧ (i = e + 1 → Row wr b (P ++ srt key a e ++ S)) ∧ Keeps K w wr)) (fun i _ => e + 1 - (intOf i).toNat)
  case atStart =>
    refine ⟨a + 1, by go_num, by omega, by omega, hid ⟨fun h => ?_, fun h => ?_, Keeps.refl _ _⟩⟩
    · have h1 := HR.out
      have e1 : e - a = (e - (a + 1)) + 1 := by omega
      rw [e1, List.range'_succ] at h1
      rw [srt_one]
      simpa [List.append_assoc] using h1
    · have h1 := HR.out
      have e1 : e - a = 0 := by omega
      rw [e1] at h1
      rw [srt_nil (by omega)]
      simpa using h1
  case round =>
    obtain ⟨i, rfl, hai, hie, HH⟩ := hrel
    by_cases hlt : i < e
    · have z0 : (i : Int) < (e : Int) := by omega
      go_wp2_with fail
      obtain ⟨h1, -, hk1⟩ := HH.out
      have h1 := h1 (by omega)
      have hsr : (srt key a i).length = i - a := srt_length ..
      have hst : Hid (Row wr b (P ++ ((srt key a i).take (i - a) ++ i :: (srt key a i).drop (i - a)) ++ (List.range' (i + 1) (e - (i + 1)) ++ S)) ∧ (∀ y ∈ (srt key a i).drop (i - a), Lt key i y) ∧ Keeps K w wr) := by
        have e1 : e - i = (e - (i + 1)) + 1 := by omega
        rw [e1, List.range'_succ] at h1
        have e2 : (srt key a i).take (i - a) = srt key a i := List.take_of_length_le (by omega)
        have e3 : (srt key a i).drop (i - a) = [] := List.drop_of_length_le (by omega)
        refine hid ⟨?_, fun y hy => ?_, hk1⟩
        · rw [e2, e3]; simpa [List.append_assoc] using h1
        · rw [e3] at hy; cases hy
      clear h1 hk1 HH
      -- the way out of the inner loop
      have OUT : Hid (∀ (j : Nat) (W : World), a ≤ j → j ≤ i → Row W b (P ++ ((srt key a i).take (j - a) ++ i :: (srt key a i).drop (j - a)) ++ (List.range' (i + 1) (e - (i + 1)) ++ S)) → (∀ y ∈ (srt key a i).drop (j - a), Lt key i y) →
          (∀ y, (srt key a i)[j - a - 1]? = some y → a < j → ¬ Lt key i y) → Keeps K w W → Hid ((i + 1 ≤ e → Row W b (P ++ srt key a (i + 1) ++ List.range' (i + 1) (e - (i + 1)) ++ S)) ∧ (i + 1 = e + 1 → Row W b (P ++ srt key a e ++ S)) ∧ Keeps K w W)) := hid (by
        intro j W h1 h2 h3 h4 h5 h6
        refine hid ⟨fun _ => ?_, fun h => by omega, h6⟩
        have := insS_done (key := key) (L := srt key a i) (i := i) (k := j - a) (srt_sorted a i) (by rw [srt_length]; omega) (fun y hy => (mem_srt.1 hy).2) (fun y hy hp => h5 y hy (by omega)) h4
        rw [this] at h3
        rw [srt_succ (by omega)]
        simpa [List.append_assoc] using h3)
      have HIE := hid hlt
      clear hsr
      go_loopw [9] (fun vj wr2 => ∃ (j : Nat), vj = .int .i64 (j : Int) ∧ a ≤ j ∧ j ≤ i ∧ Hid (Row wr2 b (P ++ ((srt key a i).take (j - a) ++ i :: (srt key a i).drop (j - a)) ++ (List.range' (i + 1) (e - (i + 1)) ++ S)) ∧ (∀ y ∈ (srt key a i).drop (j - a), Lt key i y) ∧ Keeps K w wr2)) (fun j _ => (intOf j).toNat)
      case atStart => exact ⟨i, rfl, by omega, Nat.le_refl _, hst⟩
      case round =>
        clear hst
        obtain ⟨j, rfl, haj, hji, HJ⟩ := hrel
        by_cases hja : a < j
        · obtain ⟨jp, rfl⟩ : ∃ jp, j = jp + 1 := ⟨j - 1, by omega⟩
          obtain ⟨j1, hj1⟩ : ∃ j1, j1 = jp + 1 := ⟨_, rfl⟩
          obtain ⟨hRj, hall, hkj⟩ := HJ.out
          obtain ⟨y, hy⟩ : ∃ y, (srt key a i)[jp - a]? = some y := ⟨_, List.getElem?_eq_getElem (by rw [srt_length]; omega)⟩
          have hyb := (mem_srt.1 (List.mem_of_getElem? hy))
          have ejp : jp + 1 - a = (jp - a) + 1 := by omega
          have hRj2 : Row wr b ((P ++ (srt key a i).take (jp - a)) ++ y :: [] ++ i :: ((srt key a i).drop (jp + 1 - a) ++ (List.range' (i + 1) (e - (i + 1)) ++ S))) := by
            have e2 : (srt key a i).take (jp + 1 - a) = (srt key a i).take (jp - a) ++ [y] := by rw [ejp]; exact take_get hy
            rw [e2] at hRj
            simpa [List.append_assoc] using hRj
          have hlk := srt_length (key := key) a i
          have hl1 : jp = (P ++ (srt key a i).take (jp - a)).length := by have := HP.out; simp; omega
          have hl2 : j1 = (P ++ (srt key a i).take (jp - a)).length + 1 + ([] : List Nat).length := by have := HP.out; simp; omega
          have hlkk := HP.out
          obtain ⟨c1, c2, _, _⟩ := hRj2.facts hl1 hl2
          have f1 := hRj2.free jp
          have f2 := hRj2.free j1
          have ctake := take_get hy
          have hcmp := fun m => hC (wr.drewN m) (hkj.drewN m) i y (by omega) (by omega)
          have hcv := cmpv_lt (key := key) hyb.2
          have e0 : (jp : Int) + 1 = (j1 : Int) := by omega
          have e1 : (j1 : Int) - 1 = (jp : Int) := by omega
          have i1 : (j1 : Int) < (n : Int) := by omega
          have i2 : (jp : Int) < (n : Int) := by omega
          have i3 : (a : Int) < (j1 : Int) := by omega
          have i4 : decide ((j1 : Int) > (a : Int)) = true := decide_eq_true (by omega)
          have ec : ((jp + 1 : Nat) : Int) = (j1 : Int) := by omega
          have HL := hid (And.intro hl1 hl2)
          have HR2 := hid (And.intro hRj2 hkj)
          have HA := hid (And.intro hall (And.intro hy (And.intro hyb.2 ejp)))
          have HJP := hid (And.intro haj (And.intro hji (And.intro hja hj1)))
          obtain ⟨X, hX⟩ : ∃ X : Int, X = (i : Int) := ⟨_, rfl⟩
          obtain ⟨Y, hY⟩ : ∃ Y : Int, Y = (y : Int) := ⟨_, rfl⟩
          obtain ⟨V, hV⟩ : ∃ V : Int, V = cmpv key i y := ⟨_, rfl⟩
          simp only [← hX, ← hY, ← hV] at c1 c2 hcmp hcv
          rw [ec]
          clear hRj hall hkj hy hyb ejp hRj2 hlk hl1 hl2 ctake HJ haj hji hja hj1 hX hY hV ec hlkk
          by_cases hv : V < 0
          · have HLT := hid (hcv.1 hv)
            have hd : decide (V < 0) = true := decide_eq_true hv
            clear hcv OUT
            go_wp2_with fail
            go_quiet (first | (go_at_call 35; refine Calls.quiet_of (hcmp _)))
            go_wp2_with fail
            clear c1 c2 f1 f2 hcmp
            refine wp_gen (fun W2 => Row W2 b ((P ++ (srt key a i).take (jp - a)) ++ y :: [] ++ i :: ((srt key a i).drop (jp + 1 - a) ++ (List.range' (i + 1) (e - (i + 1)) ++ S))) ∧ Keeps K w W2) ⟨HR2.out.1.drewN nq, HR2.out.2.drewN nq⟩ (fun W2 HW => ?_)
            obtain ⟨hR2, hk2⟩ := HW
            obtain ⟨c1, c2, _, c4⟩ := hR2.facts HL.out.1 HL.out.2
            have f1 := hR2.free jp
            have f2 := hR2.free j1
            have c4 := c4 (.int .i64 (y : Int))
            have hs := hR2.swap' HL.out.1 HL.out.2
            have HN := hid (show Row ((W2.setCell ⟨b, j1, none⟩ (.int .i64 (y : Int))).setCell ⟨b, jp, none⟩ (.int .i64 (i : Int))) b (P ++ ((srt key a i).take (jp - a) ++ i :: (srt key a i).drop (jp - a)) ++ (List.range' (i + 1) (e - (i + 1)) ++ S)) ∧ (∀ y ∈ (srt key a i).drop (jp - a), Lt key i y) ∧
                Keeps K w ((W2.setCell ⟨b, j1, none⟩ (.int .i64 (y : Int))).setCell ⟨b, jp, none⟩ (.int .i64 (i : Int))) from by
              obtain ⟨hall, hy, hyb, ejp⟩ := HA.out
              refine ⟨?_, ?_, hk2.set2 hK _ _ _ _⟩
              · rw [drop_get hy, ← ejp]
                simpa [List.append_assoc] using hs
              · rw [drop_get hy, ← ejp]
                intro z hz
                rcases List.mem_cons.1 hz with h | h
                · rw [h]; exact HLT.out
                · exact hall z h)
            clear hR2 hk2 hs HR2
            obtain ⟨X1, hX⟩ : ∃ X : Int, X = (i : Int) := ⟨_, rfl⟩
            obtain ⟨Y1, hY⟩ : ∃ Y : Int, Y = (y : Int) := ⟨_, rfl⟩
            simp only [← hX, ← hY] at c1 c2 c4 HN
            clear hX hY
            go_big_region
            clear c1 c2 c4 f1 f2
            go_wp2_with fail
            go_roundw
            case rel => obtain ⟨haj, hji, hja, hj1⟩ := HJP.out; exact ⟨jp, by first | rfl | go_num, by omega, by omega, hid ⟨HN.out.1.drew, HN.out.2.1, HN.out.2.2.drew⟩⟩
            case measure => obtain ⟨haj, hji, hja, hj1⟩ := HJP.out; simp [intOf]; omega
          · have HLT := hid (fun h => hv (hcv.2 h))
            have hd : decide (V < 0) = false := decide_eq_false hv
            clear hcv
            go_wp2_with fail
            go_quiet (first | (go_at_call 35; refine Calls.quiet_of (hcmp _)))
            go_wp2_with fail
            go_roundw
            case rel =>
              obtain ⟨haj, hji, hja, hj1⟩ := HJP.out
              obtain ⟨hall, hy, hyb, ejp⟩ := HA.out
              have hlt := HIE.out
              refine ⟨i + 1, by go_num, by omega, by omega, OUT.out (jp + 1) _ haj hji ?_ hall (fun z hz _ => ?_) (HR2.out.2.drewN nq)⟩
              · have e2 : (srt key a i).take (jp + 1 - a) = (srt key a i).take (jp - a) ++ [y] := by rw [ejp]; exact take_get hy
                rw [e2]
                simpa [List.append_assoc] using HR2.out.1.drewN nq
              · have e3 : jp + 1 - a - 1 = jp - a := by omega
                rw [e3, hy] at hz
                injection hz with hz
                rw [← hz]; exact HLT.out
            case measure => have hlt := HIE.out; simp [intOf]; omega
        · have hja' : j = a := by omega
          subst hja'
          have i4 : decide ((j : Int) > (j : Int)) = false := decide_eq_false (by omega)
          have i5 : ¬ (j : Int) < (j : Int) := by omega
          clear hja haj hji
          trace_state
          go_wp2_with fail
          go_big_region
          go_wp2_with fail
          go_roundw
          case rel =>
            have hlt := HIE.out
            obtain ⟨h1, h2, h3⟩ := HJ.out
            exact ⟨i + 1, by go_num, by omega, by omega, OUT.out j _ (by omega) (by omega) h1.drew h2 (fun z hz h => by omega) h3.drew⟩
          case measure => have hlt := HIE.out; simp [intOf]; omega
    · have z0 : ¬ (i : Int) < (e : Int) := by omega
      go_wp2_with fail
      go_end0
      obtain ⟨h1, h2, h3⟩ := HH.out
      refine hR'.out _ _ ⟨rfl, ?_, h3⟩
      by_cases he : i = e
      · subst he
        have := h1 (Nat.le_refl _)
        rw [Nat.sub_self] at this
        simpa using this
      · exact h2 (by omega)
end Go.Proofs.Ytbmgmjfpoepgpaa
