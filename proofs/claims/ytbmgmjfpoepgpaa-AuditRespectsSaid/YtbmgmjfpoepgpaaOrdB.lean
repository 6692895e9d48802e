/- Contracts: the reference's Order; SameInts. -/
import Derived.Test.YtbmgmjfpoepgpaaOrdA
namespace Go.Proofs.Ytbmgmjfpoepgpaa
open Go.RowKit

theorem add_blk (b k j : Nat) : (⟨b, k, none⟩ : Addr).add j = ⟨b, k + j, none⟩ := by unfold Addr.add; split <;> simp_all
theorem grow_facts {w w1 : World} {B : Nat} {v v' : Value} (hbv : ∀ b, v.ownBlock = some b → B ≤ b) (hB : B ≤ w.heap.size) (hgr : w.grownBy w1 v.ownBlock) (hfr : v'.ownBlock = v.ownBlock ∨ ∃ b, v'.ownBlock = some b ∧ w.heap.size ≤ b) :
    Keeps (· < B) w w1 ∧ (∀ b, v'.ownBlock = some b → B ≤ b) := by
  refine ⟨⟨hgr.os, hgr.tape, hgr.output, hgr.size, fun b hb => hgr.block b (by omega) (fun e => ?_)⟩, fun b hb => ?_⟩
  · have := hbv b e.symm; omega
  · rcases hfr with h | ⟨b', h, h2⟩
    · exact hbv b (h ▸ hb)
    · rw [h] at hb; injection hb with hb; omega
theorem own_form {w : World} {v : Value} {n : Nat} {xs : List Value} (h : w.ownsRow 0 3 1 v n xs) : ∃ A cp, v = .slice A n cp ∧ n ≤ cp ∧ cp ≤ maxLen := by
  rcases h.2 with ⟨h1, h2⟩ | ⟨b, cap, _, h1, _, _, h3, h4, _⟩
  · exact ⟨_, _, by rw [h1, h2], by omega, Nat.zero_le _⟩
  · exact ⟨_, _, h1, h3, h4⟩
theorem own_formP {w : World} {v : Value} {n : Nat} {xs : List Value} (h : w.ownsRow 0 3 1 v n xs) (hn : 0 < n) : ∃ b cp, v = .slice (some ⟨b, 0, none⟩) n cp ∧ n ≤ cp ∧ cp ≤ maxLen := by
  rcases h.2 with ⟨h1, h2⟩ | ⟨b, cap, _, h1, _, _, h3, h4, _⟩
  · omega
  · exact ⟨_, _, h1, h3, h4⟩
theorem row_news {w : World} {b : Nat} {xs : List Nat} (h : Row w b xs) (k m : Nat) : ∀ j u, (((xs.drop k).take m).map iv)[j]? = some u → w.cell? ((⟨b, k, none⟩ : Addr).add j) = some u := by
  intro j u hj
  rw [add_blk]
  rw [List.getElem?_map] at hj
  obtain ⟨x, hx, rfl⟩ := Option.map_eq_some_iff.1 hj
  have hjm : j < m := by have := (List.getElem?_eq_some_iff.1 hx).1; simp at this; omega
  rw [List.getElem?_take_of_lt hjm, List.getElem?_drop] at hx
  exact h.cell hx
theorem iv_one (xs : List Nat) : ∀ u ∈ xs.map iv, u.oneCell' = true := by
  intro u hu
  obtain ⟨x, _, rfl⟩ := List.mem_map.1 hu
  rfl

set_option maxRecDepth 100000 in
set_option maxHeartbeats 4000000 in
theorem rorder_call {w : World} {K : Nat → Prop} {v : Value} {l : List DoneM} (h : HistAt w K v l) (hK : ∀ b, K b → b < w.heap.size) (hl : l.length ≤ 1000) :
    Calls Try.prog 11 #[v] w fun e w' => ∃ g, e = .returned g ∧ SlAt w' (· < w'.heap.size) 1 g l.length ((srt (keyOf l) 0 l.length).map iv) ∧ Keeps (· < w.heap.size) w w' := by
  obtain ⟨A, cap, rfl, h1, h2⟩ := h.form
  unfold maxLen at h2
  have HH := hid h
  have HK := hid hK
  clear h hK
  refine calls_hide fun R' hR' => ?_
  go_enter Try.func11, Try.ntmps11
  go_wp2_with fail
  generalize hB : w.heap.size = B at *
  go_loopw [3, 10] (fun g vi wr => ∃ (i : Nat) (b : Nat) (cp : Nat), g = .slice (some ⟨b, 0, none⟩) i cp ∧ vi = .int .i64 (i : Int) ∧ i ≤ l.length ∧ Hid (IntRow wr (· < B) (.slice (some ⟨b, 0, none⟩) i cp) (srt (keyOf l) 0 i) ∧ Keeps (· < B) w wr)) (fun _ i _ => l.length - (intOf i).toNat)
  case atStart =>
    refine ⟨0, B, 0, rfl, rfl, Nat.zero_le _, hid ⟨⟨⟨rfl, Or.inr ⟨B, 0, #[], rfl, Nat.zero_le _, by rw [← hB]; exact heap_alloc_new w _, Nat.le_refl _, Nat.zero_le _, rfl, rfl⟩⟩, fun b hb h => ?_⟩, ?_⟩⟩
    · have e : B = b := by simpa [Value.ownBlock] using hb
      omega
    · rw [← hB]; exact (Keeps.refl _ _).alloc (fun b hb => hb) _
  case round =>
    have HB := hid hB
    clear hB
    obtain ⟨i, b, cp, rfl, rfl, hk, HI⟩ := hrel
    by_cases hlt : i < l.length
    · have z0 : (i : Int) < (l.length : Int) := by omega
      have HLT := hid hlt
      have hcp : i ≤ cp ∧ cp ≤ maxLen := by
        obtain ⟨A', c', e, h3, h4⟩ := HI.out.1.form
        rw [srt_length] at e h3
        injection e with _ _ e3
        subst e3
        exact ⟨by omega, h4⟩
      obtain ⟨hcp1, hcp2⟩ := hcp
      unfold maxLen at hcp2
      rename World => w1
      go_wp2_with fail
      go_loopw [5] (fun vk wr2 => ∃ (k q : Nat), vk = .int .i64 (k : Int) ∧ k ≤ i ∧ w1.drewN q = wr2 ∧ Hid (∀ j y, j < k → (srt (keyOf l) 0 i)[j]? = some y → keyOf l y ≤ keyOf l i)) (fun k _ => i - (intOf k).toNat)
      case atStart => exact ⟨0, 0, rfl, Nat.zero_le _, rfl, hid fun j y h => by omega⟩
      case round =>
        obtain ⟨k, q, rfl, hki, hw, HQ⟩ := hrel
        have HW := hid hw
        clear hw
        -- behind the search
        have OUT : Hid ((∀ y, (srt (keyOf l) 0 i)[k]? = some y → keyOf l i < keyOf l y) → srt (keyOf l) 0 (i + 1) = (srt (keyOf l) 0 i).take k ++ i :: (srt (keyOf l) 0 i).drop k) := hid (by
          intro hz
          have hll := srt_length (key := keyOf l) 0 i
          rw [srt_succ (Nat.zero_le _)]
          refine insS_at i _ k (by omega) (fun j hj => ?_) (fun h hlt => ?_)
          · have h1 := HQ.out j _ hj (List.getElem?_eq_getElem (by omega))
            have h2 := (mem_srt.1 (List.getElem_mem (l := srt (keyOf l) 0 i) (n := j) (by omega))).2
            unfold Lt; omega
          · have h1 := hz _ (List.getElem?_eq_getElem h)
            unfold Lt at hlt; omega)
        by_cases hkl : k < i
        · obtain ⟨y, hy⟩ : ∃ y, (srt (keyOf l) 0 i)[k]? = some y := ⟨_, List.getElem?_eq_getElem (by rw [srt_length]; omega)⟩
          have hyi := (mem_srt.1 (List.mem_of_getElem? hy)).2
          obtain ⟨d1, hd1⟩ : ∃ d, l[i]? = some d := ⟨_, List.getElem?_eq_getElem hlt⟩
          obtain ⟨d2, hd2⟩ : ∃ d, l[y]? = some d := ⟨_, List.getElem?_eq_getElem (by omega)⟩
          have hkw : Keeps (· < B) w wr := by rw [← HW.out]; exact HI.out.2.drewN q
          have hh := HH.out.keep hkw (fun b hb => by have := HK.out b hb; have := HB.out; omega)
          obtain ⟨hb, off, cap', e, -, -, -, -, x1, -⟩ := hh.get hd1
          obtain ⟨hb', off', cap'', e', -, -, -, -, x2, -⟩ := hh.get hd2
          injection e with e1 e0 e2
          clear e0
          subst e1 e2
          injection e' with e1 e0 e2
          clear e0
          injection e1 with e1
          injection e1 with e1 e3
          subst e1 e2 e3
          obtain ⟨b', c', e, hr, -, -, -⟩ := HI.out.1.row (by rw [srt_length]; omega)
          injection e with e1 e0 e2
          clear e0
          injection e1 with e1
          injection e1 with e1 e0
          clear e0
          subst e1 e2
          have x3 : wr.cell? ⟨b, k, none⟩ = some (.int .i64 (y : Int)) := by rw [← HW.out]; exact (hr.drewN q).cell hy
          have k1 : keyOf l i = d1.pt := by simp [keyOf, hd1]
          have k2 : keyOf l y = d2.pt := by simp [keyOf, hd2]
          have HY := hid (And.intro hy (And.intro k1 k2))
          have y0 : (k : Int) < (i : Int) := by omega
          have y1 : (y : Int) < (l.length : Int) := by omega
          generalize d1.pt = X at *
          generalize d2.pt = Y at *
          have HKI := hid hkl
          clear hy hyi hd1 hd2 hkw hh hr k1 k2
          by_cases hle : Y ≤ X
          · have hle' : decide (Y ≤ X) = true := decide_eq_true hle
            go_wp2_with fail
            go_quiet (fail)
            go_wp2_with fail
            go_roundw
            case rel =>
              refine ⟨k + 1, q + nq, by first | rfl | go_num, HKI.out, by rw [← HW.out, World.drewN_drewN], hid fun j z hj hz => ?_⟩
              obtain ⟨hy, k1, k2⟩ := HY.out
              by_cases e : j < k
              · exact HQ.out j z e hz
              · have e : j = k := by omega
                subst e
                rw [hy] at hz; injection hz with hz
                subst hz
                rw [k1, k2]; omega
            case measure => have := HKI.out; simp [intOf]; omega
          · have hle' : decide (Y ≤ X) = false := decide_eq_false hle
            go_wp2_with fail
            go_quiet (fail)
            have HS := hid (show srt (keyOf l) 0 (i + 1) = (srt (keyOf l) 0 i).take k ++ i :: (srt (keyOf l) 0 i).drop k from OUT.out (fun z hz => by
              obtain ⟨hy, k1, k2⟩ := HY.out
              rw [hy] at hz; injection hz with hz
              subst hz
              rw [k1, k2]; omega))
            have HF := hid (show IntRow (wr.drewN nq) (· < B) (.slice (some ⟨b, 0, none⟩) i cp) (srt (keyOf l) 0 i) ∧ Keeps (· < B) w (wr.drewN nq) from by
              rw [← HW.out]; exact ⟨(HI.out.1.keep ((Keeps.refl (fun _ => True) w1).drewN q) (fun b hb => trivial)).keep ((Keeps.refl (fun _ => True) _).drewN nq) (fun b hb => trivial), (HI.out.2.drewN q).drewN nq⟩)
            clear HI HW HQ OUT HY x1 x2 x3 hle hle'
            generalize wr.drewN nq = W2 at HF ⊢
            have hbB : B ≤ b ∧ b < W2.heap.size := by
              have h1 := HF.out.1.lt b rfl
              have h2 := HF.out.1.2 b rfl
              omega
            obtain ⟨hb1, hb2⟩ := hbB
            have hsz := HF.out.2.size
            have HSZ := hid (show B ≤ W2.heap.size from by omega)
            have HKI := hid hki
            have hki2 : (k : Int) ≤ (i : Int) := by omega
            have hki3 : (k : Int) ≤ (cp : Int) := by omega
            have hicp : (i : Int) ≤ (cp : Int) := by omega
            obtain ⟨i0, hi, hz0, hz1, hz2⟩ := info_partsI Try.infoI
            have hl1 : ((srt (keyOf l) 0 i).take k).length = k := by rw [List.length_take, srt_length]; omega
            have hl2 : ((srt (keyOf l) 0 i).drop k).length = i - k := by rw [List.length_drop, srt_length]; omega
            obtain ⟨N1, hN1⟩ : ∃ N1, N1 = ((srt (keyOf l) 0 i).take k).map iv := ⟨_, rfl⟩
            obtain ⟨N2, hN2⟩ : ∃ N2, N2 = ((srt (keyOf l) 0 i).drop k).map iv := ⟨_, rfl⟩
            have HLL := hid (show N1.length = k ∧ N2.length = i - k ∧ (∀ u ∈ N1, u.oneCell' = true) ∧ (∀ u ∈ N2, u.oneCell' = true) ∧ (srt (keyOf l) 0 (i + 1)).map iv = N1 ++ [.int .i64 (i : Int)] ++ N2 from
              ⟨by rw [hN1, List.length_map, hl1], by rw [hN2, List.length_map, hl2], by rw [hN1]; exact iv_one _, by rw [hN2]; exact iv_one _, by
                rw [HS.out, hN1, hN2, List.map_append, List.map_cons, List.append_assoc]; rfl⟩)
            have hnews1 : Hid (∀ w', Keeps (· < W2.heap.size) W2 w' → ∀ j u, N1[j]? = some u → w'.cell? ⟨b, j, none⟩ = some u) := hid (by
              intro w' hw' j u hj
              rw [hN1] at hj
              have hj' : j < k := by have := (List.getElem?_eq_some_iff.1 hj).1; rw [List.length_map, hl1] at this; exact this
              obtain ⟨b', c', e, hr, -, -, -⟩ := (HF.out.1.keep hw' (fun b hb => HF.out.1.lt b hb)).row (by rw [srt_length]; omega)
              injection e with e1 e0 e9
              clear e0
              injection e1 with e1
              injection e1 with e1 _
              subst e1
              have := row_news hr 0 k j u (by rw [List.drop_zero]; exact hj)
              rw [add_blk, Nat.zero_add] at this; exact this)
            have hnews2 : Hid (∀ w', Keeps (· < W2.heap.size) W2 w' → ∀ j u, N2[j]? = some u → w'.cell? ⟨b, k + j, none⟩ = some u) := hid (by
              intro w' hw' j u hj
              rw [hN2] at hj
              have hj' : j < i - k := by have := (List.getElem?_eq_some_iff.1 hj).1; rw [List.length_map, hl2] at this; exact this
              obtain ⟨b', c', e, hr, -, -, -⟩ := (HF.out.1.keep hw' (fun b hb => HF.out.1.lt b hb)).row (by rw [srt_length]; omega)
              injection e with e1 e0 e9
              clear e0
              injection e1 with e1
              injection e1 with e1 _
              subst e1
              have := row_news hr k (i - k) j u (by rw [List.take_of_length_le (by rw [hl2]; exact Nat.le_refl _)]; exact hj)
              rw [add_blk] at this; exact this)
            clear hN1 hN2
            have hown0 : Hid ((W2.alloc (.cells #[] 3)).ownsRow 0 3 1 (.slice (some ⟨W2.heap.size, 0, none⟩) 0 0) 0 []) := hid ⟨rfl, Or.inr ⟨W2.heap.size, 0, #[], rfl, Nat.zero_le _, heap_alloc_new W2 _, Nat.le_refl _, Nat.zero_le _, rfl, rfl⟩⟩
            clear hl1 hl2 hb1 hb2 hsz
            go_wp2_with (at_builtin; refine wpList_append_x rfl _ _ 25 rfl 3 i0 (.int .i64 0) 1 8 Try.underlying25 hi hz0 hz1 hz2 rfl (by decide) (.slice (some ⟨W2.heap.size, 0, none⟩) 0 0) 0 [] rfl hown0.out ⟨b, 0, none⟩ k cp N1 rfl ?z1 ?z2 ?z3 ?z4 ?z5 ?z6)
            case z1 => have := HLL.out.1; omega
            case z2 =>
              have H := hnews1.out _ ((Keeps.refl (· < W2.heap.size) W2).alloc (fun b hb => hb) (.cells #[] 3))
              first | exact H | (intro j u hj; have := H j u hj; simpa [Addr.add] using this)
            case z3 => exact HLL.out.2.2.1
            case z4 => unfold maxLen; omega
            case z5 => omega
            intro vv1 w3 hown1 hgr1 hfr1
            (try rw [Nat.zero_add] at hown1)
            (try rw [List.nil_append] at hown1)
            obtain ⟨A1, c1, rfl, -, -⟩ := own_form hown1
            obtain ⟨hk3, hb3⟩ := grow_facts (B := W2.heap.size) (fun b hb => by have e : W2.heap.size = b := by simpa [Value.ownBlock] using hb
                                                                                omega) (by rw [World.size_alloc]; omega) hgr1 (by first | exact hfr1 | (rw [World.size_alloc]; exact hfr1))
            have HG1 := hid (show w3.ownsRow 0 3 1 (.slice A1 k c1) k N1 ∧ (∀ b, (Value.slice A1 k c1).ownBlock = some b → W2.heap.size ≤ b) ∧ Keeps (· < W2.heap.size) W2 w3 from
              ⟨hown1, hb3, ((Keeps.refl _ _).alloc (fun b hb => hb) _).trans hk3⟩)
            clear hown1 hgr1 hfr1 hk3 hb3 hown0 hnews1
            go_wp2_with (at_builtin; refine wpList_append_x rfl _ _ 25 rfl 3 i0 (.int .i64 0) 1 8 Try.underlying25 hi hz0 hz1 hz2 rfl (by decide) (.slice A1 k c1) k N1 rfl (HG1.out.1.alloc _) ⟨w3.heap.size, 0, none⟩ 1 1 [.int .i64 (i : Int)] rfl rfl ?y2 ?y3 ?y4 ?y5 ?y6)
            case y2 =>
              intro j u hj
              rcases j with _ | j
              · simpa [Addr.add] using hj
              · simp at hj
            case y3 => intro u hu; simp at hu; rcases hu with rfl; rfl
            case y4 => unfold maxLen; omega
            case y5 => omega
            intro vv2 w4 hown2 hgr2 hfr2
            obtain ⟨A2, c2, rfl, -, -⟩ := own_form hown2
            obtain ⟨hk4, hb4⟩ := grow_facts (B := W2.heap.size) HG1.out.2.1 (by have := HG1.out.2.2.size; rw [World.size_alloc]; omega) hgr2 (by first | exact hfr2 | (rw [World.size_alloc]; exact hfr2))
            have HG2 := hid (show w4.ownsRow 0 3 1 (.slice A2 (k + 1) c2) (k + 1) (N1 ++ [.int .i64 (i : Int)]) ∧ (∀ b, (Value.slice A2 (k + 1) c2).ownBlock = some b → W2.heap.size ≤ b) ∧ Keeps (· < W2.heap.size) W2 w4 from
              ⟨hown2, hb4, (HG1.out.2.2.alloc (fun b hb => by have := HG1.out.2.2.size; omega) _).trans hk4⟩)
            clear hown2 hgr2 hfr2 hk4 hb4 HG1
            go_wp2_with (at_builtin; refine wpList_append_x rfl _ _ 25 rfl 3 i0 (.int .i64 0) 1 8 Try.underlying25 hi hz0 hz1 hz2 rfl (by decide) (.slice A2 (k + 1) c2) (k + 1) (N1 ++ [.int .i64 (i : Int)]) rfl HG2.out.1 ⟨b, k, none⟩ (i - k) (cp - k) N2 ?v0 ?v1 ?v2 ?v3 ?v4 ?v5 ?v6)
            case v0 => rfl
            case v1 => have := HLL.out.2.1; omega
            case v2 =>
              first
              | (intro j u hj; have h1 := (List.getElem?_eq_some_iff.1 hj).1; have h2 := HLL.out.2.1; omega)
              | exact hnews2.out _ HG2.out.2.2
              | (have H := hnews2.out _ HG2.out.2.2; intro j u hj; have := H j u hj; rcases j with _ | j <;> simpa [Addr.add] using this)
            case v3 => exact HLL.out.2.2.2.1
            case v4 => unfold maxLen; omega
            case v5 => omega
            intro vv3 w5 hown3 hgr3 hfr3
            have e3 : k + 1 + (i - k) = i + 1 := by omega
            (try rw [e3] at hown3)
            obtain ⟨b3, c3, rfl, -, -⟩ := own_formP hown3 (by omega)
            obtain ⟨hk5, hb5⟩ := grow_facts (B := W2.heap.size) HG2.out.2.1 HG2.out.2.2.size hgr3 hfr3
            have HG3 := hid (show IntRow w5 (· < B) (.slice (some ⟨b3, 0, none⟩) (i + 1) c3) (srt (keyOf l) 0 (i + 1)) ∧ Keeps (· < B) w w5 from by
              refine ⟨⟨?_, fun b hb h => ?_⟩, HF.out.2.trans ((HG2.out.2.2.trans hk5).mono fun b hb => by have := HSZ.out; omega)⟩
              · rw [srt_length, HLL.out.2.2.2.2]
                first | exact hown3 | simpa [List.append_assoc] using hown3
              · have := hb5 b hb; have := HSZ.out; omega)
            clear hown3 hgr3 hfr3 hk5 hb5 HG2 HF e3
            go_wp2_with fail
            go_roundw
            case rel => exact ⟨i + 1, b3, c3, by first | rfl | go_num, by first | rfl | go_num, HLT.out, HG3⟩
            case measure => have := HLT.out; simp [intOf]; omega
        · have hkl' : k = i := by omega
          subst hkl'
          have y0 : ¬ (k : Int) < (k : Int) := by omega
          have y1 : decide ((k : Int) < (k : Int)) = false := decide_eq_false (by omega)
          go_wp2_with fail
          go_quiet (fail)
          by_cases hck : cp = k
          · have hck' := hck.symm
            clear hck
            subst hck'
            have HS := hid (show srt (keyOf l) 0 (k + 1) = (srt (keyOf l) 0 k).take k ++ k :: (srt (keyOf l) 0 k).drop k from OUT.out (fun z hz => by
              rw [List.getElem?_eq_none (by rw [srt_length]; omega)] at hz; cases hz))
            have HF := hid (show IntRow (wr.drewN nq) (· < B) (.slice (some ⟨b, 0, none⟩) k k) (srt (keyOf l) 0 k) ∧ Keeps (· < B) w (wr.drewN nq) from by
              rw [← HW.out]; exact ⟨(HI.out.1.keep ((Keeps.refl (fun _ => True) w1).drewN q) (fun b hb => trivial)).keep ((Keeps.refl (fun _ => True) _).drewN nq) (fun b hb => trivial), (HI.out.2.drewN q).drewN nq⟩)
            clear HI HW HQ OUT 
            generalize wr.drewN nq = W2 at HF ⊢
            have hbB : B ≤ b ∧ b < W2.heap.size := by
              have h1 := HF.out.1.lt b rfl
              have h2 := HF.out.1.2 b rfl
              omega
            obtain ⟨hb1, hb2⟩ := hbB
            have hsz := HF.out.2.size
            have HSZ := hid (show B ≤ W2.heap.size from by omega)
            have HKI := hid hki
            have hki2 : (k : Int) ≤ (k : Int) := by omega
            have hki3 : (k : Int) ≤ (k : Int) := by omega
            have hicp : (k : Int) ≤ (k : Int) := by omega
            obtain ⟨i0, hi, hz0, hz1, hz2⟩ := info_partsI Try.infoI
            have hl1 : ((srt (keyOf l) 0 k).take k).length = k := by rw [List.length_take, srt_length]; omega
            have hl2 : ((srt (keyOf l) 0 k).drop k).length = k - k := by rw [List.length_drop, srt_length]; omega
            obtain ⟨N1, hN1⟩ : ∃ N1, N1 = ((srt (keyOf l) 0 k).take k).map iv := ⟨_, rfl⟩
            obtain ⟨N2, hN2⟩ : ∃ N2, N2 = ((srt (keyOf l) 0 k).drop k).map iv := ⟨_, rfl⟩
            have HLL := hid (show N1.length = k ∧ N2.length = k - k ∧ (∀ u ∈ N1, u.oneCell' = true) ∧ (∀ u ∈ N2, u.oneCell' = true) ∧ (srt (keyOf l) 0 (k + 1)).map iv = N1 ++ [.int .i64 (k : Int)] ++ N2 from
              ⟨by rw [hN1, List.length_map, hl1], by rw [hN2, List.length_map, hl2], by rw [hN1]; exact iv_one _, by rw [hN2]; exact iv_one _, by
                rw [HS.out, hN1, hN2, List.map_append, List.map_cons, List.append_assoc]; rfl⟩)
            have hnews1 : Hid (∀ w', Keeps (· < W2.heap.size) W2 w' → ∀ j u, N1[j]? = some u → w'.cell? ⟨b, j, none⟩ = some u) := hid (by
              intro w' hw' j u hj
              rw [hN1] at hj
              have hj' : j < k := by have := (List.getElem?_eq_some_iff.1 hj).1; rw [List.length_map, hl1] at this; exact this
              obtain ⟨b', c', e, hr, -, -, -⟩ := (HF.out.1.keep hw' (fun b hb => HF.out.1.lt b hb)).row (by rw [srt_length]; omega)
              injection e with e1 e0 e9
              clear e0
              injection e1 with e1
              injection e1 with e1 _
              subst e1
              have := row_news hr 0 k j u (by rw [List.drop_zero]; exact hj)
              rw [add_blk, Nat.zero_add] at this; exact this)
            have hnews2 : Hid (∀ w', Keeps (· < W2.heap.size) W2 w' → ∀ j u, N2[j]? = some u → w'.cell? ⟨b, k + j, none⟩ = some u) := hid (by
              intro w' hw' j u hj
              rw [hN2] at hj
              have hj' : j < k - k := by have := (List.getElem?_eq_some_iff.1 hj).1; rw [List.length_map, hl2] at this; exact this
              obtain ⟨b', c', e, hr, -, -, -⟩ := (HF.out.1.keep hw' (fun b hb => HF.out.1.lt b hb)).row (by rw [srt_length]; omega)
              injection e with e1 e0 e9
              clear e0
              injection e1 with e1
              injection e1 with e1 _
              subst e1
              have := row_news hr k (k - k) j u (by rw [List.take_of_length_le (by rw [hl2]; exact Nat.le_refl _)]; exact hj)
              rw [add_blk] at this; exact this)
            clear hN1 hN2
            have hown0 : Hid ((W2.alloc (.cells #[] 3)).ownsRow 0 3 1 (.slice (some ⟨W2.heap.size, 0, none⟩) 0 0) 0 []) := hid ⟨rfl, Or.inr ⟨W2.heap.size, 0, #[], rfl, Nat.zero_le _, heap_alloc_new W2 _, Nat.le_refl _, Nat.zero_le _, rfl, rfl⟩⟩
            clear hl1 hl2 hb1 hb2 hsz
            go_wp2_with (at_builtin; refine wpList_append_x rfl _ _ 25 rfl 3 i0 (.int .i64 0) 1 8 Try.underlying25 hi hz0 hz1 hz2 rfl (by decide) (.slice (some ⟨W2.heap.size, 0, none⟩) 0 0) 0 [] rfl hown0.out ⟨b, 0, none⟩ k k N1 rfl ?n0z1 ?n0z2 ?n0z3 ?n0z4 ?n0z5 ?n0z6)
            case n0z1 => have := HLL.out.1; omega
            case n0z2 =>
              have H := hnews1.out _ ((Keeps.refl (· < W2.heap.size) W2).alloc (fun b hb => hb) (.cells #[] 3))
              first | exact H | (intro j u hj; have := H j u hj; simpa [Addr.add] using this)
            case n0z3 => exact HLL.out.2.2.1
            case n0z4 => unfold maxLen; omega
            case n0z5 => omega
            intro vv1 w3 hown1 hgr1 hfr1
            (try rw [Nat.zero_add] at hown1)
            (try rw [List.nil_append] at hown1)
            obtain ⟨A1, c1, rfl, -, -⟩ := own_form hown1
            obtain ⟨hk3, hb3⟩ := grow_facts (B := W2.heap.size) (fun b hb => by have e : W2.heap.size = b := by simpa [Value.ownBlock] using hb
                                                                                omega) (by rw [World.size_alloc]; omega) hgr1 (by first | exact hfr1 | (rw [World.size_alloc]; exact hfr1))
            have HG1 := hid (show w3.ownsRow 0 3 1 (.slice A1 k c1) k N1 ∧ (∀ b, (Value.slice A1 k c1).ownBlock = some b → W2.heap.size ≤ b) ∧ Keeps (· < W2.heap.size) W2 w3 from
              ⟨hown1, hb3, ((Keeps.refl _ _).alloc (fun b hb => hb) _).trans hk3⟩)
            clear hown1 hgr1 hfr1 hk3 hb3 hown0 hnews1
            go_wp2_with (at_builtin; refine wpList_append_x rfl _ _ 25 rfl 3 i0 (.int .i64 0) 1 8 Try.underlying25 hi hz0 hz1 hz2 rfl (by decide) (.slice A1 k c1) k N1 rfl (HG1.out.1.alloc _) ⟨w3.heap.size, 0, none⟩ 1 1 [.int .i64 (k : Int)] rfl rfl ?n0y2 ?n0y3 ?n0y4 ?n0y5 ?n0y6)
            case n0y2 =>
              intro j u hj
              rcases j with _ | j
              · simpa [Addr.add] using hj
              · simp at hj
            case n0y3 => intro u hu; simp at hu; rcases hu with rfl; rfl
            case n0y4 => unfold maxLen; omega
            case n0y5 => omega
            intro vv2 w4 hown2 hgr2 hfr2
            obtain ⟨A2, c2, rfl, -, -⟩ := own_form hown2
            obtain ⟨hk4, hb4⟩ := grow_facts (B := W2.heap.size) HG1.out.2.1 (by have := HG1.out.2.2.size; rw [World.size_alloc]; omega) hgr2 (by first | exact hfr2 | (rw [World.size_alloc]; exact hfr2))
            have HG2 := hid (show w4.ownsRow 0 3 1 (.slice A2 (k + 1) c2) (k + 1) (N1 ++ [.int .i64 (k : Int)]) ∧ (∀ b, (Value.slice A2 (k + 1) c2).ownBlock = some b → W2.heap.size ≤ b) ∧ Keeps (· < W2.heap.size) W2 w4 from
              ⟨hown2, hb4, (HG1.out.2.2.alloc (fun b hb => by have := HG1.out.2.2.size; omega) _).trans hk4⟩)
            clear hown2 hgr2 hfr2 hk4 hb4 HG1
            go_wp2_with (at_builtin; refine wpList_append_x rfl _ _ 25 rfl 3 i0 (.int .i64 0) 1 8 Try.underlying25 hi hz0 hz1 hz2 rfl (by decide) (.slice A2 (k + 1) c2) (k + 1) (N1 ++ [.int .i64 (k : Int)]) rfl HG2.out.1 ⟨b, 0, none⟩ 0 0 N2 ?n0v0 ?n0v1 ?n0v2 ?n0v3 ?n0v4 ?n0v5 ?n0v6)
            case n0v0 => rfl
            case n0v1 => have := HLL.out.2.1; omega
            case n0v2 =>
              first
              | (intro j u hj; have h1 := (List.getElem?_eq_some_iff.1 hj).1; have h2 := HLL.out.2.1; omega)
              | exact hnews2.out _ HG2.out.2.2
              | (have H := hnews2.out _ HG2.out.2.2; intro j u hj; have := H j u hj; rcases j with _ | j <;> simpa [Addr.add] using this)
            case n0v3 => exact HLL.out.2.2.2.1
            case n0v4 => unfold maxLen; omega
            case n0v5 => omega
            intro vv3 w5 hown3 hgr3 hfr3
            have e3 : k + 1 + (k - k) = k + 1 := by omega
            (try rw [e3] at hown3)
            obtain ⟨b3, c3, rfl, -, -⟩ := own_formP hown3 (by omega)
            obtain ⟨hk5, hb5⟩ := grow_facts (B := W2.heap.size) HG2.out.2.1 HG2.out.2.2.size hgr3 hfr3
            have HG3 := hid (show IntRow w5 (· < B) (.slice (some ⟨b3, 0, none⟩) (k + 1) c3) (srt (keyOf l) 0 (k + 1)) ∧ Keeps (· < B) w w5 from by
              refine ⟨⟨?_, fun b hb h => ?_⟩, HF.out.2.trans ((HG2.out.2.2.trans hk5).mono fun b hb => by have := HSZ.out; omega)⟩
              · rw [srt_length, HLL.out.2.2.2.2]
                first | exact hown3 | simpa [List.append_assoc] using hown3
              · have := hb5 b hb; have := HSZ.out; omega)
            clear hown3 hgr3 hfr3 hk5 hb5 HG2 HF e3
            go_wp2_with fail
            go_roundw
            case rel => exact ⟨k + 1, b3, c3, by first | rfl | go_num, by first | rfl | go_num, HLT.out, HG3⟩
            case measure => have := HLT.out; simp [intOf]; omega
          · skip
            have HS := hid (show srt (keyOf l) 0 (k + 1) = (srt (keyOf l) 0 k).take k ++ k :: (srt (keyOf l) 0 k).drop k from OUT.out (fun z hz => by
              rw [List.getElem?_eq_none (by rw [srt_length]; omega)] at hz; cases hz))
            have HF := hid (show IntRow (wr.drewN nq) (· < B) (.slice (some ⟨b, 0, none⟩) k cp) (srt (keyOf l) 0 k) ∧ Keeps (· < B) w (wr.drewN nq) from by
              rw [← HW.out]; exact ⟨(HI.out.1.keep ((Keeps.refl (fun _ => True) w1).drewN q) (fun b hb => trivial)).keep ((Keeps.refl (fun _ => True) _).drewN nq) (fun b hb => trivial), (HI.out.2.drewN q).drewN nq⟩)
            clear HI HW HQ OUT 
            generalize wr.drewN nq = W2 at HF ⊢
            have hbB : B ≤ b ∧ b < W2.heap.size := by
              have h1 := HF.out.1.lt b rfl
              have h2 := HF.out.1.2 b rfl
              omega
            obtain ⟨hb1, hb2⟩ := hbB
            have hsz := HF.out.2.size
            have HSZ := hid (show B ≤ W2.heap.size from by omega)
            have HKI := hid hki
            have hki2 : (k : Int) ≤ (k : Int) := by omega
            have hki3 : (k : Int) ≤ (cp : Int) := by omega
            have hicp : (k : Int) ≤ (cp : Int) := by omega
            obtain ⟨i0, hi, hz0, hz1, hz2⟩ := info_partsI Try.infoI
            have hl1 : ((srt (keyOf l) 0 k).take k).length = k := by rw [List.length_take, srt_length]; omega
            have hl2 : ((srt (keyOf l) 0 k).drop k).length = k - k := by rw [List.length_drop, srt_length]; omega
            obtain ⟨N1, hN1⟩ : ∃ N1, N1 = ((srt (keyOf l) 0 k).take k).map iv := ⟨_, rfl⟩
            obtain ⟨N2, hN2⟩ : ∃ N2, N2 = ((srt (keyOf l) 0 k).drop k).map iv := ⟨_, rfl⟩
            have HLL := hid (show N1.length = k ∧ N2.length = k - k ∧ (∀ u ∈ N1, u.oneCell' = true) ∧ (∀ u ∈ N2, u.oneCell' = true) ∧ (srt (keyOf l) 0 (k + 1)).map iv = N1 ++ [.int .i64 (k : Int)] ++ N2 from
              ⟨by rw [hN1, List.length_map, hl1], by rw [hN2, List.length_map, hl2], by rw [hN1]; exact iv_one _, by rw [hN2]; exact iv_one _, by
                rw [HS.out, hN1, hN2, List.map_append, List.map_cons, List.append_assoc]; rfl⟩)
            have hnews1 : Hid (∀ w', Keeps (· < W2.heap.size) W2 w' → ∀ j u, N1[j]? = some u → w'.cell? ⟨b, j, none⟩ = some u) := hid (by
              intro w' hw' j u hj
              rw [hN1] at hj
              have hj' : j < k := by have := (List.getElem?_eq_some_iff.1 hj).1; rw [List.length_map, hl1] at this; exact this
              obtain ⟨b', c', e, hr, -, -, -⟩ := (HF.out.1.keep hw' (fun b hb => HF.out.1.lt b hb)).row (by rw [srt_length]; omega)
              injection e with e1 e0 e9
              clear e0
              injection e1 with e1
              injection e1 with e1 _
              subst e1
              have := row_news hr 0 k j u (by rw [List.drop_zero]; exact hj)
              rw [add_blk, Nat.zero_add] at this; exact this)
            have hnews2 : Hid (∀ w', Keeps (· < W2.heap.size) W2 w' → ∀ j u, N2[j]? = some u → w'.cell? ⟨b, k + j, none⟩ = some u) := hid (by
              intro w' hw' j u hj
              rw [hN2] at hj
              have hj' : j < k - k := by have := (List.getElem?_eq_some_iff.1 hj).1; rw [List.length_map, hl2] at this; exact this
              obtain ⟨b', c', e, hr, -, -, -⟩ := (HF.out.1.keep hw' (fun b hb => HF.out.1.lt b hb)).row (by rw [srt_length]; omega)
              injection e with e1 e0 e9
              clear e0
              injection e1 with e1
              injection e1 with e1 _
              subst e1
              have := row_news hr k (k - k) j u (by rw [List.take_of_length_le (by rw [hl2]; exact Nat.le_refl _)]; exact hj)
              rw [add_blk] at this; exact this)
            clear hN1 hN2
            have hown0 : Hid ((W2.alloc (.cells #[] 3)).ownsRow 0 3 1 (.slice (some ⟨W2.heap.size, 0, none⟩) 0 0) 0 []) := hid ⟨rfl, Or.inr ⟨W2.heap.size, 0, #[], rfl, Nat.zero_le _, heap_alloc_new W2 _, Nat.le_refl _, Nat.zero_le _, rfl, rfl⟩⟩
            clear hl1 hl2 hb1 hb2 hsz
            go_wp2_with (at_builtin; refine wpList_append_x rfl _ _ 25 rfl 3 i0 (.int .i64 0) 1 8 Try.underlying25 hi hz0 hz1 hz2 rfl (by decide) (.slice (some ⟨W2.heap.size, 0, none⟩) 0 0) 0 [] rfl hown0.out ⟨b, 0, none⟩ k cp N1 rfl ?n1z1 ?n1z2 ?n1z3 ?n1z4 ?n1z5 ?n1z6)
            case n1z1 => have := HLL.out.1; omega
            case n1z2 =>
              have H := hnews1.out _ ((Keeps.refl (· < W2.heap.size) W2).alloc (fun b hb => hb) (.cells #[] 3))
              first | exact H | (intro j u hj; have := H j u hj; simpa [Addr.add] using this)
            case n1z3 => exact HLL.out.2.2.1
            case n1z4 => unfold maxLen; omega
            case n1z5 => omega
            intro vv1 w3 hown1 hgr1 hfr1
            (try rw [Nat.zero_add] at hown1)
            (try rw [List.nil_append] at hown1)
            obtain ⟨A1, c1, rfl, -, -⟩ := own_form hown1
            obtain ⟨hk3, hb3⟩ := grow_facts (B := W2.heap.size) (fun b hb => by have e : W2.heap.size = b := by simpa [Value.ownBlock] using hb
                                                                                omega) (by rw [World.size_alloc]; omega) hgr1 (by first | exact hfr1 | (rw [World.size_alloc]; exact hfr1))
            have HG1 := hid (show w3.ownsRow 0 3 1 (.slice A1 k c1) k N1 ∧ (∀ b, (Value.slice A1 k c1).ownBlock = some b → W2.heap.size ≤ b) ∧ Keeps (· < W2.heap.size) W2 w3 from
              ⟨hown1, hb3, ((Keeps.refl _ _).alloc (fun b hb => hb) _).trans hk3⟩)
            clear hown1 hgr1 hfr1 hk3 hb3 hown0 hnews1
            go_wp2_with (at_builtin; refine wpList_append_x rfl _ _ 25 rfl 3 i0 (.int .i64 0) 1 8 Try.underlying25 hi hz0 hz1 hz2 rfl (by decide) (.slice A1 k c1) k N1 rfl (HG1.out.1.alloc _) ⟨w3.heap.size, 0, none⟩ 1 1 [.int .i64 (k : Int)] rfl rfl ?n1y2 ?n1y3 ?n1y4 ?n1y5 ?n1y6)
            case n1y2 =>
              intro j u hj
              rcases j with _ | j
              · simpa [Addr.add] using hj
              · simp at hj
            case n1y3 => intro u hu; simp at hu; rcases hu with rfl; rfl
            case n1y4 => unfold maxLen; omega
            case n1y5 => omega
            intro vv2 w4 hown2 hgr2 hfr2
            obtain ⟨A2, c2, rfl, -, -⟩ := own_form hown2
            obtain ⟨hk4, hb4⟩ := grow_facts (B := W2.heap.size) HG1.out.2.1 (by have := HG1.out.2.2.size; rw [World.size_alloc]; omega) hgr2 (by first | exact hfr2 | (rw [World.size_alloc]; exact hfr2))
            have HG2 := hid (show w4.ownsRow 0 3 1 (.slice A2 (k + 1) c2) (k + 1) (N1 ++ [.int .i64 (k : Int)]) ∧ (∀ b, (Value.slice A2 (k + 1) c2).ownBlock = some b → W2.heap.size ≤ b) ∧ Keeps (· < W2.heap.size) W2 w4 from
              ⟨hown2, hb4, (HG1.out.2.2.alloc (fun b hb => by have := HG1.out.2.2.size; omega) _).trans hk4⟩)
            clear hown2 hgr2 hfr2 hk4 hb4 HG1
            go_wp2_with (at_builtin; refine wpList_append_x rfl _ _ 25 rfl 3 i0 (.int .i64 0) 1 8 Try.underlying25 hi hz0 hz1 hz2 rfl (by decide) (.slice A2 (k + 1) c2) (k + 1) (N1 ++ [.int .i64 (k : Int)]) rfl HG2.out.1 ⟨b, k, none⟩ 0 (cp - k) N2 ?n1v0 ?n1v1 ?n1v2 ?n1v3 ?n1v4 ?n1v5 ?n1v6)
            case n1v0 => rfl
            case n1v1 => have := HLL.out.2.1; omega
            case n1v2 =>
              first
              | (intro j u hj; have h1 := (List.getElem?_eq_some_iff.1 hj).1; have h2 := HLL.out.2.1; omega)
              | exact hnews2.out _ HG2.out.2.2
              | (have H := hnews2.out _ HG2.out.2.2; intro j u hj; have := H j u hj; rcases j with _ | j <;> simpa [Addr.add] using this)
            case n1v3 => exact HLL.out.2.2.2.1
            case n1v4 => unfold maxLen; omega
            case n1v5 => omega
            intro vv3 w5 hown3 hgr3 hfr3
            have e3 : k + 1 + (k - k) = k + 1 := by omega
            (try rw [e3] at hown3)
            obtain ⟨b3, c3, rfl, -, -⟩ := own_formP hown3 (by omega)
            obtain ⟨hk5, hb5⟩ := grow_facts (B := W2.heap.size) HG2.out.2.1 HG2.out.2.2.size hgr3 hfr3
            have HG3 := hid (show IntRow w5 (· < B) (.slice (some ⟨b3, 0, none⟩) (k + 1) c3) (srt (keyOf l) 0 (k + 1)) ∧ Keeps (· < B) w w5 from by
              refine ⟨⟨?_, fun b hb h => ?_⟩, HF.out.2.trans ((HG2.out.2.2.trans hk5).mono fun b hb => by have := HSZ.out; omega)⟩
              · rw [srt_length, HLL.out.2.2.2.2]
                first | exact hown3 | simpa [List.append_assoc] using hown3
              · have := hb5 b hb; have := HSZ.out; omega)
            clear hown3 hgr3 hfr3 hk5 hb5 HG2 HF e3
            go_wp2_with fail
            go_roundw
            case rel => exact ⟨k + 1, b3, c3, by first | rfl | go_num, by first | rfl | go_num, HLT.out, HG3⟩
            case measure => have := HLT.out; simp [intOf]; omega
    · have hk' : i = l.length := by omega
      subst hk'
      have z0 : ¬ (l.length : Int) < (l.length : Int) := by omega
      go_wp2_with fail
      have hBB := HB.out
      obtain ⟨A', c', e, h3, h4⟩ := HI.out.1.form
      rw [srt_length] at e h3
      injection e with e1 e0 e2
      refine hR'.out _ _ ⟨_, rfl, ?_, HI.out.2⟩
      have := HI.out.1.slAt (L := (· < wr.heap.size)) (fun b hb => HI.out.1.lt b hb)
      rwa [srt_length, Nat.sub_zero] at this
end Go.Proofs.Ytbmgmjfpoepgpaa
