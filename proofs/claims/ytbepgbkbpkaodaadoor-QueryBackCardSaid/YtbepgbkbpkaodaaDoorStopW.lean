/- Layer 6's document: Stop and Words. -/
import Derived.Test.YtbepgbkbpkaodaaDoorRef6
import Derived.Test.YtbepgbkbpkaodaaDoorSamA
namespace Go.Proofs.YtbepgbkbpkaodaaDoor
open Go.RowKit

def stopsB : List ByteArray := stopsP.map fun l => ⟨l.toArray⟩
theorem stopsB_len : stopsB.length = 17 := rfl
theorem stopP_any (s : ByteArray) : stopP s = stopsB.any fun t => t.toList == s.toList := by
  unfold stopP stopsB
  rw [List.any_map]
  congr 1
  funext l
  show (s.toList == l) = ((⟨l.toArray⟩ : ByteArray).toList == s.toList)
  rw [Bool.eq_iff_iff, beq_iff_eq, beq_iff_eq, ByteArray.toList_eq, ByteArray.toList_eq]
  exact ⟨fun h => h.symm, fun h => h.symm⟩
theorem stops_cells (w : World) (T : TypeId) : ∀ (i : Nat) (x : ByteArray), stopsB[i]? = some x → (w.alloc (.cells (stopsB.map Value.string).toArray T)).cell? ⟨w.heap.size, i, none⟩ = some (.string x) := fun i x h => by
  have := (own_lit w 0 T T 1 17 (stopsB.map Value.string) rfl rfl (by decide) (Nat.zero_le _)).cells (g := w.heap.size) rfl i (.string x) (by rw [List.getElem?_map, h]; rfl)
  rw [Addr.add_lit] at this
  simpa using this

set_option maxRecDepth 100000 in
set_option maxHeartbeats 2000000 in
theorem ref6_stop (s : ByteArray) (w : World) : Calls Tryd.prog 74 #[.string s] w fun e w' => e = .returned (.bool (stopP s)) ∧ Keeps (· < w.heap.size) w w' := by
  have hk0 : Keeps (· < w.heap.size) w (w.alloc (.cells (stopsB.map Value.string).toArray 9)) := (Keeps.refl _ _).alloc (fun b hb => hb) _
  have hc := stops_cells w 9
  have hany := stopP_any s
  have hf : ∀ i : Nat, (∀ j x, j < i → stopsB[j]? = some x → (x.toList == s.toList) = false) → 17 ≤ i → stopP s = false := fun i h hi => by
    rw [hany, Bool.eq_false_iff]
    intro hc
    obtain ⟨x, hx, hs⟩ := List.any_eq_true.1 hc
    obtain ⟨j, hj⟩ := List.getElem?_of_mem hx
    have hjl := (List.getElem?_eq_some_iff.1 hj).1
    rw [stopsB_len] at hjl
    rw [h j x (by omega) hj] at hs
    cases hs
  have ht : ∀ (i : Nat) (x : ByteArray), stopsB[i]? = some x → (x.toList == s.toList) = true → stopP s = true := fun i x h1 h2 => by
    rw [hany]
    exact List.any_eq_true.2 ⟨x, List.mem_of_getElem? h1, h2⟩
  have Hk0 := hid hk0
  have Hc := hid hc
  have Hany := hid hany
  have Hf := hid hf
  have Ht := hid ht
  clear hk0 hc hany hf ht
  refine calls_hide fun R' hR' => ?_
  go_enter Tryd.func74, Tryd.ntmps74
  go_wp2
  go_loopw [8] (fun iv wx => ∃ i : Nat, iv = .int .i64 (i : Int) ∧ i ≤ 17 ∧ w.alloc (.cells (stopsB.map Value.string).toArray 9) = wx ∧ Hid (∀ j x, j < i → stopsB[j]? = some x → (x.toList == s.toList) = false)) (fun iv _ => 17 - (intOf iv).toNat)
  case atStart => exact ⟨0, rfl, Nat.zero_le _, rfl, hid (fun j x h => absurd h (by omega))⟩
  case round =>
    obtain ⟨i, rfl, hi, rfl, HJ⟩ := hrel
    by_cases hlt : i < 17
    · have hltI : (i : Int) < 17 := by omega
      obtain ⟨x, hx⟩ : ∃ x, stopsB[i]? = some x := ⟨_, List.getElem?_eq_getElem (by rw [stopsB_len]; exact hlt)⟩
      have hcx := Hc.out i x hx
      by_cases he : (x.toList == s.toList) = true
      · have hr := Ht.out i x hx he
        clear hx
        have Hr := hid hr
        clear hr
        go_wp2_with fail
        refine hR'.out _ _ ⟨?_, Hk0.out⟩
        rw [Hr.out]
        rfl
      · have he : (x.toList == s.toList) = false := by simpa using he
        have hJ2 : ∀ j y, j < i + 1 → stopsB[j]? = some y → (y.toList == s.toList) = false := fun j y h1 h2 => by
          by_cases hj : j = i
          · subst hj
            rw [hx] at h2
            injection h2 with h2
            subst h2
            exact he
          · exact HJ.out j y (by omega) h2
        clear hx HJ
        have HJ2 := hid hJ2
        clear hJ2
        go_wp2_with fail
        go_roundw
        case rel => exact ⟨i + 1, by go_num, by omega, by first | trivial | rfl, HJ2⟩
        case measure => first | (simp [intOf]; done) | (simp [intOf]; omega)
    · have hltI : ¬ (i : Int) < 17 := by omega
      have hr := Hf.out i HJ.out (by omega)
      clear HJ
      have Hr := hid hr
      clear hr
      go_wp2_with fail
      refine hR'.out _ _ ⟨?_, Hk0.out⟩
      rw [Hr.out]

/-- what is left of all words -/
def wordsF (l : List (ByteArray × Nat)) : List (ByteArray × Nat) := l.filter fun t => !stopP t.1
theorem wordsF_step (l : List (ByteArray × Nat)) (i : Nat) (t : ByteArray × Nat) (h : l[i]? = some t) : wordsF (l.take (i + 1)) = wordsF (l.take i) ++ (if stopP t.1 then [] else [t]) := by
  unfold wordsF
  rw [List.take_add_one, h, List.filter_append]
  congr 1
  cases hs : stopP t.1 <;> simp [List.filter, hs]
theorem allL_len : ∀ (l : List Int) (o : List UInt8) (fu so : Bool) (p : Nat), (allL o fu so p l).length ≤ l.length
  | [], _, _, _, _ => Nat.le_refl _
  | r :: l, o, fu, so, p => by
    rw [allL_cons]
    have h1 := fun o fu so p => allL_len l o fu so p
    split
    · split
      · have := h1 [] false false (p + 1)
        simp only [List.length_cons]
        omega
      · have := h1 [] false false p
        simp only [List.length_cons]
        omega
    · split
      all_goals
        refine Nat.le_trans (h1 _ _ _ _) ?_
        simp
theorem allS_len (s : ByteArray) : (allS s).length ≤ s.size + 1 := by
  refine Nat.le_trans (allL_len _ _ _ _ _) ?_
  have := runesF_len s s.size 0
  simp only [List.length_append, List.length_singleton]
  exact Nat.succ_le_succ this

set_option maxRecDepth 100000 in
set_option maxHeartbeats 2000000 in
theorem ref6_words (s : ByteArray) (hs : s.size ≤ 1000000) (w : World) : Calls Tryd.prog 59 #[.string s] w fun e w' => ∃ v, e = .returned v ∧ TokRow w w' v (wordsF (allS s)) := by
  refine calls_hide fun R' hR' => ?_
  go_enter Tryd.func59, Tryd.ntmps59
  go_wp2_with fail
  refine (ref6_all s hs w).mono ?_
  rintro e w1 ⟨v, rfl, hO, hk1⟩
  obtain ⟨A0, c0, rfl⟩ := ownB_form hO
  have hal := allS_len s
  have hal : (allS s).length ≤ 1000001 := by omega
  generalize allS s = al at *
  have hS := ownB_slAtS hO
  clear hO
  have hk2 : Keeps (· < w.heap.size) w (w1.alloc (.cells #[] 42)) := hk1.alloc (fun b hb => Nat.lt_of_lt_of_le hb hk1.size) _
  have hO2 : (w1.alloc (.cells #[] 42)).ownsRow w1.heap.size 42 3 (.slice (some ⟨w1.heap.size, 0, none⟩) 0 0) 0 [] := own_lit w1 w1.heap.size _ _ 3 0 [] rfl rfl (by decide) (Nat.le_refl _)
  have hkw : Keeps (· < w1.heap.size) w1 (w1.alloc (.cells #[] 42)) := (Keeps.refl _ _).alloc (fun b hb => hb) _
  have HS := hid hS
  have Hk1 := hid hk1
  have Hk2 := hid hk2
  have HO2 := hid hO2
  have Hkw := hid hkw
  clear hS hk1 hk2 hO2 hkw
  go_wp2_with fail
  go_loopw [4, 11] (fun ov iv wx => ∃ (i : Nat) (acc : List (ByteArray × Nat)) (A : Option Addr) (cp : Nat), ov = .slice A acc.length cp ∧ iv = .int .i64 (i : Int) ∧ i ≤ al.length ∧ acc.length ≤ i ∧ Hid (TokRow w1 wx (.slice A acc.length cp) acc) ∧ Hid (acc = wordsF (al.take i))) (fun _ iv _ => al.length - (intOf iv).toNat)
  case atStart => exact ⟨0, [], some ⟨w1.heap.size, 0, none⟩, 0, rfl, rfl, Nat.zero_le _, Nat.le_refl _, hid ⟨HO2.out, Hkw.out⟩, hid rfl⟩
  case round =>
    obtain ⟨i, acc, A, cp, rfl, rfl, hi, hai, HR, HE⟩ := hrel
    by_cases hlt : i < al.length
    · have hltI : (i : Int) < (al.length : Int) := by omega
      obtain ⟨⟨tx, p⟩, hx⟩ : ∃ x, al[i]? = some x := ⟨_, List.getElem?_eq_getElem hlt⟩
      obtain ⟨b, off, hv, hb, hc⟩ := SlAt.rec (f := tokC) (fun _ _ => rfl) (HS.out.keep HR.out.2 (fun b hb => hb.2)) i _ hx
      subst hv
      have hst := wordsF_step al i _ hx
      have a0 := hc 0 _ rfl
      have a1 := hc 1 _ rfl
      have a2 := hc 2 _ rfl
      simp only [Nat.add_zero] at a0
      have hbr := hb.2
      have hw1r := HR.out.2.size
      have hb3 : b < wr.heap.size := by omega
      clear hc hb hx
      rw [← HE.out] at hst
      clear HE
      cases hsp : stopP tx with
      | true =>
        rw [if_pos hsp, List.append_nil] at hst
        have Hst := hid hst
        have Hsp := hid hsp
        clear hst hsp
        go_wp2_with fail
        refine (ref6_stop tx wr).mono ?_
        rintro e w3 ⟨rfl, hk3⟩
        have hR3 := HR.out.calls hk3
        rw [Hsp.out]
        clear HR hk3 a0 a1 a2
        have HR3 := hid hR3
        clear hR3
        go_wp2_with fail
        go_roundw
        case rel => exact ⟨i + 1, acc, A, cp, rfl, by go_num, by omega, by omega, HR3, hid Hst.out.symm⟩
        case measure => first | (simp [intOf]; done) | (simp [intOf]; omega)
      | false =>
        rw [if_neg (by rw [hsp]; decide)] at hst
        have Hst := hid hst
        have Hsp := hid hsp
        clear hst hsp
        go_wp2_with fail
        refine (ref6_stop tx wr).mono ?_
        rintro e w3 ⟨rfl, hk3⟩
        have hR3 := HR.out.calls hk3
        have b0 := (World.cell?_of_block (a := ⟨b, off + i * 3, none⟩) (hk3.block b hb3)).trans a0
        have b1 := (World.cell?_of_block (a := ⟨b, off + i * 3 + 1, none⟩) (hk3.block b hb3)).trans a1
        have b2 := (World.cell?_of_block (a := ⟨b, off + i * 3 + 2, none⟩) (hk3.block b hb3)).trans a2
        rw [Hsp.out]
        clear HR hk3 a0 a1 a2
        have HR3 := hid hR3
        clear hR3
        obtain ⟨i0, hi, hz0, hz1, hz2⟩ := info_partsF Tryd.infoTok
        go_wp2_with (at_builtin; go_must (refine wpList_append_own_at _ rfl _ _ 23 rfl (w1.heap.size) 42 i0 (.agg #[.int .u8 0, .string ⟨#[]⟩, .int .i64 0]) 3 32 Tryd.underlying23 hi hz0 hz1 hz2 rfl (by decide) (.slice A acc.length cp) acc.length (acc.flatMap tokC) rfl (ownB_keepS HR3.out.1 ((Keeps.refl _ _).alloc (fun b hb => hb) _)) ⟨w3.heap.size, 0, none⟩ 1 1 [.int .u8 0, .string tx, .int .i64 (p : Int)] rfl (by simp) (own_newsS (own_lit w3 0 _ _ 3 1 [.int .u8 0, .string tx, .int .i64 (p : Int)] rfl rfl (by decide) (Nat.zero_le _))) ?_ ?_ ?_ ?_ ?_))
        all_goals (try (first | with_reducible exact one1 _ _ | with_reducible exact one2 _ _ _ | with_reducible exact one4 _ _ _ _ _ | with_reducible exact oneM _ _ | exact rfl | exact fun _ _ => rfl | exact ⟨rfl, rfl⟩ | exact ⟨rfl, rfl, rfl⟩ | exact ⟨rfl, rfl, rfl, rfl⟩ | (unfold maxLen; omega) | omega | (simp; omega) | (simp; done)))
        (try clear hi)
        (try clear hz0)
        (try clear hz1)
        (try clear hz2)
        all_goals (try (first | exact oneTok (tx, p) | (have := hai; simp only [maxLen]; omega) | (have := HR3.out.2.size; simp only [World.size_alloc]; omega)))
        intro v' w7 hown hgr _ hf
        have hN := HR3.out.push (x := (tx, p)) hown hgr
        obtain ⟨A', cp', rfl⟩ := ownB_form hown
        clear hown hgr hf HR3
        have HN := hid hN
        clear hN
        go_wp2_with fail
        go_roundw
        case rel => exact ⟨i + 1, acc ++ [(tx, p)], A', cp', by simp, by go_num, by omega, by simp; omega, by simpa using HN, hid Hst.out.symm⟩
        case measure => first | (simp [intOf]; done) | (simp [intOf]; omega)
    · obtain rfl : i = al.length := by omega
      have hltI : ¬ (al.length : Int) < (al.length : Int) := by omega
      have he := HE.out
      rw [List.take_length] at he
      subst he
      go_wp2_with fail
      exact hR'.out _ _ ⟨_, rfl, HR.out.back Hk1.out⟩
end Go.Proofs.YtbepgbkbpkaodaaDoor
