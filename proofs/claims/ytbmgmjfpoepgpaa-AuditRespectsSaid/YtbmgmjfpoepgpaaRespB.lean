/- Contracts: the reference's Respects. -/
import Derived.Test.YtbmgmjfpoepgpaaRespA
namespace Go.Proofs.Ytbmgmjfpoepgpaa
open Go.RowKit

def atL (n : Nat) (ord : List Int) (k : Nat) : List Value := (List.range n).map (fun (i : Nat) => Value.int .i64 ((atOf (ord.take k) i : Nat) : Int))
theorem atL_zero (n : Nat) (ord : List Int) : atL n ord 0 = List.replicate n (.int .i64 0) := by
  unfold atL
  rw [List.take_zero]
  apply List.ext_getElem
  · simp
  · intro i h1 h2; simp [atOf_nil]
theorem atL_get {n : Nat} {ord : List Int} {k i : Nat} (hi : i < n) : (atL n ord k)[i]? = some (.int .i64 ((atOf (ord.take k) i : Nat) : Int)) := by
  unfold atL; rw [List.getElem?_map, List.getElem?_range hi]; rfl
theorem atL_set {n : Nat} {ord : List Int} {k x : Nat} (hk : ord[k]? = some (x : Int)) (hn : (x : Int) ∉ ord.take k) : (atL n ord k).set x (.int .i64 ((k : Int) + 1)) = atL n ord (k + 1) := by
  apply List.ext_getElem
  · simp [atL]
  · intro i h1 h2
    rw [List.getElem_set]
    simp only [atL, List.getElem_map, List.getElem_range]
    rw [atOf_snoc hk hn]
    by_cases h : x = i
    · subst h; simp
    · rw [if_neg h, if_neg (fun e => h e.symm)]

set_option maxRecDepth 100000 in
set_option maxHeartbeats 4000000 in
theorem rresp_call {w : World} {K KO : Nat → Prop} {v vo : Value} {l : List DoneM} {ord : List Int} (h : HistAt w K v l) (hK : ∀ b, K b → b < w.heap.size) (ho : SlAt w KO 1 vo ord.length (ord.map (Value.int .i64))) (hKO : ∀ b, KO b → b < w.heap.size)
    (hl : l.length ≤ 1000) [Decidable (Ref l ord)] :
    Calls Try.prog 13 #[v, vo] w fun e w' => e = .returned (.bool (decide (Ref l ord))) ∧ Keeps (· < w.heap.size) w w' := by
  obtain ⟨A, cap, rfl, h1, h2⟩ := h.form
  obtain ⟨O, oc, rfl, h3, h4⟩ := ho.form
  unfold maxLen at h2 h4
  have HH := hid h
  have HK := hid hK
  have HO := hid ho
  have HKO := hid hKO
  clear h hK ho hKO
  refine calls_hide fun R' hR' => ?_
  by_cases hlen : ord.length = l.length
  · have t0 : ((ord.length : Int) != (l.length : Int)) = false := by simp [hlen]
    have HLEN := hid hlen
    clear hlen
    have hmk := fun w => run_make_row' (P := Try.prog) 25 3 (.int .i64 0) 8 Try.underlying25 Try.infoI rfl .i64 .i64 l.length (by omega) (by omega) w
    go_enter Try.func13, Try.ntmps13
    go_wp2_with fail
    have hb0 := made_blkA w (.int .i64 0) l.length 3
    have hk0 : Keeps (· < w.heap.size) w (w.alloc (.cells (madeCells #[.int .i64 0] l.length) 3)) := (Keeps.refl _ _).alloc (fun b hb => hb) _
    generalize w.alloc (.cells (madeCells #[.int .i64 0] l.length) 3) = w0 at *
    generalize hB : w.heap.size = B at *
    have HB := hid (And.intro hb0 (And.intro hk0 hB))
    clear hb0 hk0 hB hmk
    go_loopw [19] (fun vi wr => ∃ (k : Nat), vi = .int .i64 (k : Int) ∧ k ≤ ord.length ∧ Hid (Blk wr B (atL l.length ord k) ∧ Keeps (· < B) w wr ∧ ∀ u, u < k → InOk l.length ord u)) (fun i _ => ord.length - (intOf i).toNat)
    case atStart => exact ⟨0, rfl, Nat.zero_le _, hid ⟨by rw [atL_zero]; exact HB.out.1, HB.out.2.1, fun u hu => by omega⟩⟩
    case round =>
      obtain ⟨k, rfl, hk, HI⟩ := hrel
      by_cases hlt : k < ord.length
      · have z0 : (k : Int) < (ord.length : Int) := by omega
        have HLT := hid hlt
        have BAD : Hid (∀ W, ¬ (InOk l.length ord k) → Keeps (· < B) w W → R' (.returned (.bool false)) W) := hid (by
          intro W hn hkW
          have hA : ¬ Ref l ord := fun h => hn (h.2.1 k hlt)
          rw [decide_eq_false hA] at hR'
          exact hR'.out _ _ ⟨rfl, hkW⟩)
        obtain ⟨x, hx⟩ : ∃ x, ord[k]? = some x := ⟨_, List.getElem?_eq_getElem hlt⟩
        have hkw := HI.out.2.1
        obtain ⟨b1, o1, c1, e1, hb1, x0⟩ := HO.out.get k x hx
        injection e1 with e1 e0 e2
        clear e0
        subst e1 e2
        have x1 := (World.cell?_of_block (a := ⟨b1, o1 + k, none⟩) (hkw.block b1 (by have := HKO.out b1 hb1; have := HB.out.2.2; omega))).trans x0
        have HX := hid hx
        clear x0 hx hkw
        by_cases hx0 : x < 0
        · have d0 : decide (x < 0) = true := decide_eq_true hx0
          go_wp2_with fail
          refine BAD.out _ (fun h => ?_) HI.out.2.1
          obtain ⟨i, hi, _, _⟩ := h
          have := HX.out
          rw [hi] at this; injection this; omega
        · have d0 : decide (x < 0) = false := decide_eq_false hx0
          by_cases hxn : x ≥ (l.length : Int)
          · have d1 : decide (x ≥ (l.length : Int)) = true := decide_eq_true hxn
            go_wp2_with fail
            refine BAD.out _ (fun h => ?_) HI.out.2.1
            obtain ⟨i, hi, hin, _⟩ := h
            have := HX.out
            rw [hi] at this; injection this; omega
          · obtain ⟨i, rfl⟩ : ∃ i : Nat, x = (i : Int) := ⟨x.toNat, by omega⟩
            have hin : i < l.length := by omega
            have d1 : ¬ ((i : Int) ≥ (l.length : Int)) := hxn
            have d2 : (i : Int) < (l.length : Int) := by omega
            have y1 := HI.out.1.cell i
            rw [atL_get hin] at y1
            have y2 := HI.out.1.free i
            have HIN := hid hin
            clear hxn hx0 hin
            by_cases hm : (i : Int) ∈ ord.take k
            · obtain ⟨P, hP⟩ : ∃ P : Int, P = ((atOf (ord.take k) i : Nat) : Int) := ⟨_, rfl⟩
              rw [← hP] at y1
              have d3 : (P != 0) = true := by
                have := mt atOf_zero.1 (fun h => h hm)
                simp; omega
              have HM := hid hm
              clear hm hP
              go_wp2_with fail
              refine BAD.out _ (fun h => ?_) HI.out.2.1
              obtain ⟨i', hi, hin, hnm⟩ := h
              have := HX.out
              rw [hi] at this; injection this with this
              rw [this] at hnm; exact hnm HM.out
            · rw [atOf_zero.2 hm] at y1
              have HM := hid hm
              have hsetf : Hid (Blk (wr.setCell ⟨B, i, none⟩ (.int .i64 ((k : Int) + 1))) B (atL l.length ord (k + 1)) ∧ Keeps (· < B) w (wr.setCell ⟨B, i, none⟩ (.int .i64 ((k : Int) + 1)))) := hid (by
                refine ⟨?_, HI.out.2.1.setCell (by simp) _⟩
                rw [← atL_set HX.out hm]; exact HI.out.1.set i _)
              have HFI := hid (HI.out.2.2)
              clear hm
              go_wp2_with fail
              clear y1 y2 x1
              go_roundw
              case rel =>
                refine ⟨k + 1, by first | rfl | go_num, HLT.out, hid ⟨hsetf.out.1, hsetf.out.2, fun v hv => ?_⟩⟩
                by_cases e : v < k
                · exact HFI.out v e
                · have e : v = k := by omega
                  subst e
                  exact ⟨i, HX.out, HIN.out, HM.out⟩
              case measure => have := HLT.out; simp [intOf]; omega
      · have hk' : k = ord.length := by omega
        have z0 : ¬ (k : Int) < (ord.length : Int) := by omega
        have HF := hid (show Blk wr B (atL l.length ord ord.length) ∧ Keeps (· < B) w wr ∧ ∀ u, u < ord.length → InOk l.length ord u from by rw [← hk']; exact HI.out)
        clear hk' HI
        go_wp2_with fail
        rename World => w1
        go_loopw [57] (fun vi wr => ∃ (i q : Nat), vi = .int .i64 (i : Int) ∧ i ≤ l.length ∧ w1.drewN q = wr ∧ Hid (∀ i' j', i' < i → j' < l.length → ¬ (respOf l i' ≤ invOf l j' ∧ atOf ord j' < atOf ord i'))) (fun i _ => l.length - (intOf i).toNat)
        case atStart => exact ⟨0, 0, rfl, Nat.zero_le _, rfl, hid fun i' j' h => by omega⟩
        case round =>
          obtain ⟨i, q, rfl, hil, hw, HI⟩ := hrel
          have HW := hid hw
          clear hw
          by_cases hli : i < l.length
          · have z1 : (i : Int) < (l.length : Int) := by omega
            have HLI := hid hli
            clear hli
            go_wp2_with fail
            rename World => w2
            go_loopw [62] (fun vj wr => ∃ (j q2 : Nat), vj = .int .i64 (j : Int) ∧ j ≤ l.length ∧ w2.drewN q2 = wr ∧ Hid (∀ j', j' < j → ¬ (respOf l i ≤ invOf l j' ∧ atOf ord j' < atOf ord i))) (fun j _ => l.length - (intOf j).toNat)
            case atStart => exact ⟨0, 0, rfl, Nat.zero_le _, rfl, hid fun j' h => by omega⟩
            case round =>
              obtain ⟨j, q2, rfl, hjl, hw2, HJ⟩ := hrel
              have HW2 := hid hw2
              clear hw2
              by_cases hlj : j < l.length
              · have z2 : (j : Int) < (l.length : Int) := by omega
                have HLJ := hid hlj
                have hbw : Blk wr B (atL l.length ord ord.length) ∧ Keeps (· < B) w wr := by
                  rw [← HW2.out, ← HW.out]; exact ⟨(HF.out.1.drewN q).drewN q2, (HF.out.2.1.drewN q).drewN q2⟩
                have HBW := hid hbw
                have y1 := hbw.1.cell i
                have y2 := hbw.1.cell j
                rw [atL_get HLI.out, List.take_length] at y1
                rw [atL_get hlj, List.take_length] at y2
                obtain ⟨d1', hd1⟩ : ∃ d, l[i]? = some d := ⟨_, List.getElem?_eq_getElem HLI.out⟩
                obtain ⟨d2', hd2⟩ : ∃ d, l[j]? = some d := ⟨_, List.getElem?_eq_getElem hlj⟩
                have hh := HH.out.keep hbw.2 (fun b hb => by have := HK.out b hb; have := HB.out.2.2; omega)
                obtain ⟨b3, o3, c3, e1, -, -, -, -, -, x2⟩ := hh.get hd1
                obtain ⟨b4, o4, c4, e1', -, -, -, x3, -, -⟩ := hh.get hd2
                injection e1 with e1 e0 e2
                clear e0
                subst e1 e2
                injection e1' with e1 e0 e2
                clear e0
                injection e1 with e1
                injection e1 with e1 e3 e4
                clear e4
                subst e1 e2 e3
                have k1 : respOf l i = d1'.resp := by simp [respOf, hd1]
                have k2 : invOf l j = d2'.inv := by simp [invOf, hd2]
                generalize d1'.resp = X at *
                generalize d2'.inv = Y at *
                have HK12 := hid (And.intro k1 k2)
                obtain ⟨P, hP⟩ : ∃ P : Int, P = ((atOf ord i : Nat) : Int) := ⟨_, rfl⟩
                obtain ⟨Q, hQ⟩ : ∃ Q : Int, Q = ((atOf ord j : Nat) : Int) := ⟨_, rfl⟩
                rw [← hP] at y1
                rw [← hQ] at y2
                have HPQ := hid (And.intro hP hQ)
                have HGO : Hid (¬ (X ≤ Y ∧ Q < P) → ∀ j', j' < j + 1 → ¬ (respOf l i ≤ invOf l j' ∧ atOf ord j' < atOf ord i)) := hid (by
                  intro hn j' hj'
                  by_cases e : j' < j
                  · exact HJ.out j' e
                  · have e : j' = j := by omega
                    subst e
                    rw [k1, k2]
                    intro h; exact hn ⟨h.1, by omega⟩)
                clear hh hd1 hd2 k1 k2 hbw hP hQ hlj
                by_cases hle : X ≤ Y
                · have d4 : decide (X ≤ Y) = true := decide_eq_true hle
                  by_cases hpq : Q < P
                  · have d5 : decide (Q < P) = true := decide_eq_true hpq
                    have HC := hid (And.intro hle hpq)
                    clear hle hpq
                    go_wp2_with fail
                    go_quiet (fail)
                    go_wp2_with fail
                    have hA : ¬ Ref l ord := fun h => h.2.2 i j HLI.out HLJ.out ⟨by rw [HK12.out.1, HK12.out.2]; exact HC.out.1, by have := HPQ.out; have := HC.out.2; omega⟩
                    rw [decide_eq_false hA] at hR'
                    exact hR'.out _ _ ⟨rfl, HBW.out.2.drewN nq⟩
                  · have d5 : decide (Q < P) = false := decide_eq_false hpq
                    have HC := hid (fun h : X ≤ Y ∧ Q < P => hpq h.2)
                    clear hle hpq
                    go_wp2_with fail
                    go_quiet (fail)
                    go_wp2_with fail
                    go_roundw
                    case rel => exact ⟨j + 1, q2 + nq, by first | rfl | go_num, HLJ.out, by rw [← HW2.out, World.drewN_drewN], hid (HGO.out HC.out)⟩
                    case measure => have := HLJ.out; simp [intOf]; omega
                · have d4 : decide (X ≤ Y) = false := decide_eq_false hle
                  have HC := hid (fun h : X ≤ Y ∧ Q < P => hle h.1)
                  clear hle
                  go_wp2_with fail
                  go_quiet (fail)
                  go_wp2_with fail
                  go_roundw
                  case rel => exact ⟨j + 1, q2 + nq, by first | rfl | go_num, HLJ.out, by rw [← HW2.out, World.drewN_drewN], hid (HGO.out HC.out)⟩
                  case measure => have := HLJ.out; simp [intOf]; omega
              · have hj' : j = l.length := by omega
                have HJJ := hid hj'
                have z2 : ¬ (j : Int) < (l.length : Int) := by omega
                clear hj' hlj
                go_wp2_with fail
                go_roundw
                case rel =>
                  refine ⟨i + 1, q + q2, by first | rfl | go_num, HLI.out, by rw [← HW2.out, ← HW.out, World.drewN_drewN], hid fun i' j' hi' hj' => ?_⟩
                  by_cases e : i' < i
                  · exact HI.out i' j' e hj'
                  · have e : i' = i := by omega
                    subst e
                    exact HJ.out j' (by have := HJJ.out; omega)
                case measure => have := HLI.out; simp [intOf]; omega
          · have hi' : i = l.length := by omega
            have HII := hid hi'
            have z1 : ¬ (i : Int) < (l.length : Int) := by omega
            clear hi' hli
            go_wp2_with fail
            have hA : Ref l ord := ⟨HLEN.out, HF.out.2.2, fun i' j' hi' hj' => HI.out i' j' (by have := HII.out; omega) hj'⟩
            rw [decide_eq_true hA] at hR'
            exact hR'.out _ _ ⟨rfl, by rw [← HW.out]; exact HF.out.2.1.drewN q⟩
  · have t0 : ((ord.length : Int) != (l.length : Int)) = true := by simp; omega
    have hn : ¬ Ref l ord := fun h => hlen h.1
    rw [decide_eq_false hn] at hR'
    clear hlen hn
    go_enter Try.func13, Try.ntmps13
    go_wp2_with fail
    exact hR'.out _ _ ⟨rfl, Keeps.refl _ _⟩
end Go.Proofs.Ytbmgmjfpoepgpaa
