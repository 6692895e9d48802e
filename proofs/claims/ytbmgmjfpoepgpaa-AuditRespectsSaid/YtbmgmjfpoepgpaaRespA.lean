/- Contracts: audit.Respects. -/
import Derived.Test.YtbmgmjfpoepgpaaRespP
import Derived.Deep.OwnRows
namespace Go.Proofs.Ytbmgmjfpoepgpaa
open Go.RowKit

theorem made_blkA (w : World) (z : Value) (n : Nat) (T : TypeId) : Blk (w.alloc (.cells (madeCells #[z] n) T)) w.heap.size (List.replicate n z) := by
  refine ⟨T, ?_⟩
  rw [heap_alloc_new]
  congr 2
  apply Array.ext'
  rw [toList_madeCells_one]
theorem Try.infoBo : (Try.prog.info? 4).map (fun i => (i.zero, i.size, i.bytes)) = some (some (.bool false), 1, 1) := by kernel_rfl
def thereL (n : Nat) (ord : List Int) (k : Nat) : List Value := (List.range n).map (fun (i : Nat) => Value.bool (decide ((i : Int) ∈ ord.take k)))
theorem thereL_zero (n : Nat) (ord : List Int) : thereL n ord 0 = List.replicate n (.bool false) := by
  unfold thereL
  rw [List.take_zero]
  apply List.ext_getElem
  · simp
  · intro i h1 h2; simp
theorem thereL_get {n : Nat} {ord : List Int} {k i : Nat} (hi : i < n) : (thereL n ord k)[i]? = some (.bool (decide ((i : Int) ∈ ord.take k))) := by
  unfold thereL; rw [List.getElem?_map, List.getElem?_range hi]; rfl
theorem thereL_set {n : Nat} {ord : List Int} {k x : Nat} (hk : ord[k]? = some (x : Int)) : (thereL n ord k).set x (.bool true) = thereL n ord (k + 1) := by
  obtain ⟨hl, e⟩ := List.getElem?_eq_some_iff.1 hk
  apply List.ext_getElem
  · simp [thereL]
  · intro i h1 h2
    rw [List.getElem_set]
    simp only [thereL, List.getElem_map, List.getElem_range]
    rw [List.take_succ_eq_append_getElem hl, e]
    by_cases h : x = i
    · subst h; simp
    · rw [if_neg h]
      congr 1
      have : ¬ (i : Int) = (x : Int) := by omega
      simp [this]

set_option maxRecDepth 100000 in
set_option maxHeartbeats 4000000 in
theorem resp_call {w : World} {K KO : Nat → Prop} {v vo : Value} {l : List DoneM} {ord : List Int} (h : HistAt w K v l) (hK : ∀ b, K b → b < w.heap.size) (ho : SlAt w KO 1 vo ord.length (ord.map (Value.int .i64))) (hKO : ∀ b, KO b → b < w.heap.size)
    (hl : l.length ≤ 1000) (hol : ord.length ≤ 1000) [Decidable (Aud l ord)] :
    Calls Try.prog 12 #[v, vo] w fun e w' => e = .returned (.bool (decide (Aud l ord))) ∧ Keeps (· < w.heap.size) w w' := by
  obtain ⟨A, cap, rfl, h1, h2⟩ := h.form
  obtain ⟨O, oc, rfl, h3, h4⟩ := ho.form
  unfold maxLen at h2 h4
  have HH := hid h
  have HK := hid hK
  have HO := hid ho
  have HKO := hid hKO
  clear h hK ho hKO
  refine calls_hide fun R' hR' => ?_
  by_cases hlen : ord.length = l.length
  · have t0 : ((ord.length : Int) != (l.length : Int)) = false := by simp [hlen]
    have HLEN := hid hlen
    clear hlen
    have hmk := fun w => run_make_row' (P := Try.prog) 69 4 (.bool false) 1 Try.underlying69 Try.infoBo rfl .i64 .i64 l.length (by omega) (by omega) w
    go_enter Try.func12, Try.ntmps12
    go_wp2_with fail
    go_step3
    go_wp2_with fail
    have hb0 := made_blkA w (.bool false) l.length 4
    have hk0 : Keeps (· < w.heap.size) w (w.alloc (.cells (madeCells #[.bool false] l.length) 4)) := (Keeps.refl _ _).alloc (fun b hb => hb) _
    generalize w.alloc (.cells (madeCells #[.bool false] l.length) 4) = w0 at *
    generalize hB : w.heap.size = B at *
    have HB := hid (And.intro hb0 (And.intro hk0 hB))
    clear hb0 hk0 hB hmk
    go_step3
    go_wp2_with fail
    go_loopw [6, 21] (fun vok vi wr => ∃ (k : Nat), vok = .bool true ∧ vi = .int .i64 (k : Int) ∧ k ≤ ord.length ∧ Hid (Blk wr B (thereL l.length ord k) ∧ Keeps (· < B) w wr ∧ ∀ u, u < k → InOk l.length ord u ∧ Fine l ord u)) (fun _ i _ => ord.length - (intOf i).toNat)
    case atStart => exact ⟨0, rfl, rfl, Nat.zero_le _, hid ⟨by rw [thereL_zero]; exact HB.out.1, HB.out.2.1, fun u hu => by omega⟩⟩
    case round =>
      obtain ⟨k, rfl, rfl, hk, HI⟩ := hrel
      by_cases hlt : k < ord.length
      · have z0 : (k : Int) < (ord.length : Int) := by omega
        have HLT := hid hlt
        -- a way to 'false'
        have BAD : Hid (∀ W, ¬ (InOk l.length ord k ∧ Fine l ord k) → Keeps (· < B) w W → R' (.returned (.bool false)) W) := hid (by
          intro W hn hkW
          have hA : ¬ Aud l ord := fun h => hn (h.2 k hlt)
          rw [decide_eq_false hA] at hR'
          exact hR'.out _ _ ⟨rfl, hkW⟩)
        obtain ⟨x, hx⟩ : ∃ x, ord[k]? = some x := ⟨_, List.getElem?_eq_getElem hlt⟩
        have hkw := HI.out.2.1
        obtain ⟨b1, o1, c1, e1, hb1, x0⟩ := HO.out.get k x hx
        injection e1 with e1 e0 e2
        clear e0
        subst e1 e2
        have x1 := (World.cell?_of_block (a := ⟨b1, o1 + k, none⟩) (hkw.block b1 (by have := HKO.out b1 hb1; have := HB.out.2.2; omega))).trans x0
        have HX := hid hx
        clear x0 hx hkw
        by_cases hx0 : x < 0
        · have d0 : decide (x < 0) = true := decide_eq_true hx0
          go_wp2_with fail
          refine BAD.out _ (fun h => ?_) HI.out.2.1
          obtain ⟨⟨i, hi, _, _⟩, _⟩ := h
          have := HX.out
          rw [hi] at this; injection this; omega
        · have d0 : decide (x < 0) = false := decide_eq_false hx0
          by_cases hxn : x ≥ (l.length : Int)
          · have d1 : decide (x ≥ (l.length : Int)) = true := decide_eq_true hxn
            go_wp2_with fail
            refine BAD.out _ (fun h => ?_) HI.out.2.1
            obtain ⟨⟨i, hi, hin, _⟩, _⟩ := h
            have := HX.out
            rw [hi] at this; injection this; omega
          · obtain ⟨i, rfl⟩ : ∃ i : Nat, x = (i : Int) := ⟨x.toNat, by omega⟩
            have hin : i < l.length := by omega
            have d1 : ¬ ((i : Int) ≥ (l.length : Int)) := hxn
            have d2 : (i : Int) < (l.length : Int) := by omega
            have y1 := HI.out.1.cell i
            rw [thereL_get hin] at y1
            have y2 := HI.out.1.free i
            have HIN := hid hin
            clear hxn hx0 hin
            by_cases hm : (i : Int) ∈ ord.take k
            · rw [decide_eq_true hm] at y1
              have HM := hid hm
              clear hm
              go_wp2_with fail
              refine BAD.out _ (fun h => ?_) HI.out.2.1
              obtain ⟨⟨i', hi, hin, hnm⟩, _⟩ := h
              have := HX.out
              rw [hi] at this; injection this with this
              rw [this] at hnm; exact hnm HM.out
            · rw [decide_eq_false hm] at y1
              have HM := hid hm
              have hsetf : Hid (Blk (wr.setCell ⟨B, i, none⟩ (.bool true)) B (thereL l.length ord (k + 1)) ∧ Keeps (· < B) w (wr.setCell ⟨B, i, none⟩ (.bool true))) := hid (by
                refine ⟨?_, HI.out.2.1.setCell (by simp) _⟩
                rw [← thereL_set HX.out]; exact HI.out.1.set i _)
              have HFI := hid (HI.out.2.2)
              clear hm
              have hkoc : (k : Int) ≤ (oc : Int) := by omega
              go_wp2_with fail
              clear y1 y2 x1
              generalize wr.setCell ⟨B, i, none⟩ (.bool true) = w2 at hsetf ⊢
              clear HI
              go_loopw [6, 47] (fun vok vu wr2 => ∃ (u : Nat), vok = .bool true ∧ vu = .int .i64 (u : Int) ∧ u ≤ k ∧ Hid (∃ q, w2.drewN q = wr2) ∧ Hid (∀ u' j : Nat, u' < u → ord[u']? = some (j : Int) → ¬ (respOf l i ≤ invOf l j))) (fun _ u _ => k - (intOf u).toNat)
              case atStart => exact ⟨0, rfl, rfl, Nat.zero_le _, hid ⟨0, rfl⟩, hid fun u' j h => by omega⟩
              case round =>
                obtain ⟨u, rfl, rfl, huk, HW, HU⟩ := hrel
                by_cases hlu : u < k
                · have z1 : (u : Int) < (k : Int) := by omega
                  have HLU := hid hlu
                  have hkw : Keeps (· < B) w wr := by obtain ⟨q, hq⟩ := HW.out; rw [← hq]; exact hsetf.out.2.drewN q
                  obtain ⟨j, hj, hjn, -⟩ := (HFI.out u hlu).1
                  obtain ⟨b2, o2, c2, e1, hb2, x0⟩ := HO.out.get u (j : Int) hj
                  injection e1 with e1 e0 e2
                  clear e0
                  injection e1 with e1
                  injection e1 with e1 e3 e4
                  clear e4
                  subst e1 e2 e3
                  have x1 := (World.cell?_of_block (a := ⟨b1, o1 + u, none⟩) (hkw.block b1 (by have := HKO.out b1 hb1; have := HB.out.2.2; omega))).trans x0
                  obtain ⟨d1', hd1⟩ : ∃ d, l[i]? = some d := ⟨_, List.getElem?_eq_getElem HIN.out⟩
                  obtain ⟨d2', hd2⟩ : ∃ d, l[j]? = some d := ⟨_, List.getElem?_eq_getElem hjn⟩
                  have hh := HH.out.keep hkw (fun b hb => by have := HK.out b hb; have := HB.out.2.2; omega)
                  obtain ⟨b3, o3, c3, e1, -, -, -, -, -, x2⟩ := hh.get hd1
                  obtain ⟨b4, o4, c4, e1', -, -, -, x3, -, -⟩ := hh.get hd2
                  injection e1 with e1 e0 e2
                  clear e0
                  subst e1 e2
                  injection e1' with e1 e0 e2
                  clear e0
                  injection e1 with e1
                  injection e1 with e1 e3 e4
                  clear e4
                  subst e1 e2 e3
                  have k1 : respOf l i = d1'.resp := by simp [respOf, hd1]
                  have k2 : invOf l j = d2'.inv := by simp [invOf, hd2]
                  have d3 : (j : Int) < (l.length : Int) := by omega
                  generalize d1'.resp = X at *
                  generalize d2'.inv = Y at *
                  have HJ := hid (And.intro hj (And.intro k1 k2))
                  clear x0 hh hd1 hd2 hj k1 k2 hkw hlu
                  by_cases hle : X ≤ Y
                  · have d4 : decide (X ≤ Y) = true := decide_eq_true hle
                    have HLE := hid hle
                    clear hle
                    go_wp2_with fail
                    go_quiet (fail)
                    go_wp2_with fail
                    refine BAD.out _ (fun h => ?_) ?_
                    · have := h.2 u i j HLU.out HX.out HJ.out.1
                      rw [HJ.out.2.1, HJ.out.2.2] at this
                      exact this HLE.out
                    · obtain ⟨q, hq⟩ := HW.out
                      rw [← hq]; exact (hsetf.out.2.drewN q).drewN nq
                  · have d4 : decide (X ≤ Y) = false := decide_eq_false hle
                    have HLE := hid hle
                    clear hle
                    go_wp2_with fail
                    go_quiet (fail)
                    go_wp2_with fail
                    go_roundw
                    case rel =>
                      refine ⟨u + 1, rfl, by first | rfl | go_num, HLU.out, hid (by obtain ⟨q, hq⟩ := HW.out; exact ⟨q + nq, by rw [← hq, World.drewN_drewN]⟩), hid fun u' j' hu' hj' => ?_⟩
                      by_cases e : u' < u
                      · have := HU.out u' j' e hj'; omega
                      · have e : u' = u := by omega
                        subst e
                        rw [HJ.out.1] at hj'; injection hj' with hj'
                        have hj' : j = j' := by omega
                        subst hj'
                        rw [HJ.out.2.1, HJ.out.2.2]; have := HLE.out; omega
                    case measure => have := HLU.out; simp [intOf]; omega
                · have huk' : u = k := by omega
                  have HUK := hid huk'
                  have z1 : ¬ (u : Int) < (k : Int) := by omega
                  clear huk'
                  go_wp2_with fail
                  go_roundw
                  case rel =>
                    refine ⟨k + 1, rfl, by first | rfl | go_num, HLT.out, hid ?_⟩
                    obtain ⟨q, hq⟩ := HW.out
                    rw [← hq]
                    refine ⟨hsetf.out.1.drewN q, hsetf.out.2.drewN q, fun v hv => ?_⟩
                    by_cases e : v < k
                    · exact HFI.out v e
                    · have e : v = k := by omega
                      subst e
                      refine ⟨⟨i, HX.out, HIN.out, HM.out⟩, fun u' i' j' hu' hi' hj' => ?_⟩
                      have h1 := HX.out
                      rw [hi'] at h1; injection h1 with h1
                      have h1 : i' = i := by omega
                      subst h1
                      have := HU.out u' j' (by have := HUK.out; omega) hj'; omega
                  case measure => have := HLT.out; simp [intOf]; omega
      · have hk' : k = ord.length := by omega
        have z0 : ¬ (k : Int) < (ord.length : Int) := by omega
        have HKK := hid hk'
        clear hk'
        go_wp2_with fail
        have hA : Aud l ord := ⟨HLEN.out, fun u hu => HI.out.2.2 u (by have := HKK.out; omega)⟩
        rw [decide_eq_true hA] at hR'
        exact hR'.out _ _ ⟨rfl, HI.out.2.1⟩
  · have t0 : ((ord.length : Int) != (l.length : Int)) = true := by simp; omega
    have hn : ¬ Aud l ord := fun h => hlen h.1
    rw [decide_eq_false hn] at hR'
    clear hlen hn
    go_enter Try.func12, Try.ntmps12
    go_wp2_with fail
    go_step3
    go_wp2_with fail
    exact hR'.out _ _ ⟨rfl, Keeps.refl _ _⟩
end Go.Proofs.Ytbmgmjfpoepgpaa
