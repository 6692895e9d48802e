/- Layer 15's statements: where a list is; the entries below a document. -/
import Derived.Test.YtbmgmjfpoepgpaaFPlanD
namespace Go.Proofs.Ytbmgmjfpoepgpaa
open Go.RowKit

set_option maxRecDepth 100000 in
set_option maxHeartbeats 2000000 in
theorem ref15_where (cA : Option Addr) (cn cc : Nat) (cs : List Int) (hcn : cs.length = cn) (hc9 : cn ≤ 65536) (at' : Nat) (rA : Option Addr) (rn rcap : Nat) (hrn : rn ≤ 64) (lA : Option Addr) (lc : Nat) (ls : List LstM) (hln : ls.length ≤ 300) (hup : UpK (ls.map LstM.key)) (i : Nat) (l : LstM) (hl : ls[i]? = some l) (x : Int)
    (hx : cs[at' + 2 + 4 * rn + 2 * i + 1]? = some x) (hux : U32 x) (w : World) (hc : SlAt w (· < w.heap.size) 1 (.slice cA cn cc) cn (cs.map (Value.int .u32))) (hv : ListsV w (· < w.heap.size) (.slice lA ls.length lc) ls) :
    Calls Try.prog 24 #[.slice cA cn cc, .int .i64 (at' : Int), .slice rA rn rcap, .slice lA ls.length lc, .string l.key] w fun e w' => e = .returned (.int .i64 x) ∧ w = w' := by
  obtain ⟨A0, cap0, he, hc1, hc2⟩ := hv.form
  injection he with e1 _ e3
  subst e1 e3
  unfold maxLen at hc2
  have hxl := (List.getElem?_eq_some_iff.1 hx).1
  obtain ⟨A0, cap0, he, hd1, hd2, _, hcell⟩ := hc
  injection he with e1 _ e3
  subst e1 e3
  unfold maxLen at hd2
  obtain ⟨cb, co, rfl, hcb, hcell⟩ := hcell (by omega)
  have x0 := hcell (at' + 2 + 4 * rn + 2 * i + 1) (.int .u32 x) (by rw [List.getElem?_map, hx]; rfl)
  have hil := (List.getElem?_eq_some_iff.1 hl).1
  obtain ⟨ux0, ux1⟩ := hux
  have HV := hid hv
  have HL := hid hl
  have HUP := hid hup
  have hxI : (at' : Int) + 2 + 4 * (rn : Int) + 2 * (i : Int) + 1 < (cn : Int) := by omega
  clear hv hl hup hcell hx hxl hcb hcn
  refine calls_hide fun R' hR' => ?_
  go_enter Try.func24, Try.ntmps24
  go_wp2_with fail
  go_loopw [14] (fun iv wr => ∃ k : Nat, iv = .int .i64 (k : Int) ∧ k ≤ i ∧ w = wr) (fun iv _ => ls.length - (intOf iv).toNat)
  case atStart => exact ⟨0, rfl, Nat.zero_le _, rfl⟩
  case round =>
    rename World => wr
    obtain ⟨k, rfl, hk, rfl⟩ := hrel
    have hlt : k < ls.length := by omega
    have hltI : (k : Int) < (ls.length : Int) := by omega
    have hk0 : (0 : Int) ≤ (k : Int) := Int.natCast_nonneg k
    have hgk : ls[k]? = some ls[k] := List.getElem?_eq_getElem hlt
    generalize ls[k] = l' at hgk
    obtain ⟨b, off, cp, ev, e1, hKb, y0, -, -, -⟩ := HV.out.get hgk
    injection e1 with e1 _ e2
    subst e1 e2
    by_cases he : k = i
    · subst he
      rw [HL.out] at hgk
      injection hgk with hgk
      rw [← hgk] at y0
      go_wp2_with fail
      exact hR'.out _ _ ⟨by first | rfl | skip, rfl⟩
    · have hlt2 := HUP.out.lt k i l'.key l.key (by omega) (by rw [List.getElem?_map, hgk]; rfl) (by rw [List.getElem?_map, HL.out]; rfl)
      have hkn : ¬ l'.key.toList = l.key.toList := by
        intro h
        unfold ltB at hlt2
        rw [h, bl_irr] at hlt2; cases hlt2
      have hke : (l'.key.toList == l.key.toList) = false := by simpa using hkn
      clear hlt2 hgk hKb
      go_wp2_with fail
      go_roundw
      case rel => exact ⟨k + 1, by go_num, by omega, by first | trivial | rfl⟩
      case measure => first | (simp [intOf]; done) | (simp [intOf]; omega)
theorem belowL_next {es : List EntM} {k : Nat} {e : EntM} {most : Int} (h : es[k]? = some e) : belowL (es.take (k + 1)) most = belowL (es.take k) most ++ (if e.doc < most then [e] else []) := by
  unfold belowL
  rw [← take_snoc h, List.filter_append]
  congr 1
  by_cases hd : e.doc < most <;> simp [hd]
theorem oneEnt (d : Int) (v : Value) (hv : v.oneCell' = true) : ∀ u ∈ [Value.int .i64 d, v], u.oneCell' = true := by
  intro u hu
  rcases List.mem_cons.1 hu with rfl | hu
  · rfl
  · rcases List.mem_singleton.1 hu with rfl
    exact hv
set_option maxRecDepth 100000 in
set_option maxHeartbeats 2000000 in
theorem ref15_below (A : Option Addr) (cap : Nat) (es : List EntM) (h64 : es.length ≤ 64) (most : Int) (w : World) (hv : EntV w (· < w.heap.size) (.slice A es.length cap) es) :
    Calls Try.prog 26 #[.slice A es.length cap, .int .i64 most] w fun e w' => ∃ g, e = .returned g ∧ EntV w' (fun b => w.heap.size ≤ b ∧ b < w'.heap.size ∨ b < w.heap.size) g (belowL es most) ∧ Keeps (· < w.heap.size) w w' := by
  obtain ⟨A0, cap0, he, hc1, hc2⟩ := hv.form
  injection he with e1 _ e3
  subst e1 e3
  unfold maxLen at hc2
  have HV := hid hv
  clear hv
  refine calls_hide fun R' hR' => ?_
  go_enter Try.func26, Try.ntmps26
  go_wp2_with fail
  go_loopw [5, 10] (fun ov iv wr => ∃ (k n2 : Nat) (A2 : Option Addr) (c2 : Nat) (oc : List Value), ov = .slice A2 n2 c2 ∧ iv = .int .i64 (k : Int) ∧ k ≤ es.length ∧ n2 ≤ k ∧ Hid (n2 = (belowL (es.take k) most).length) ∧ Hid (EntAt w (· < w.heap.size) (belowL (es.take k) most) oc) ∧ Hid (wr.ownsRow w.heap.size 71 2 (.slice A2 n2 c2) n2 oc) ∧ Hid (Keeps (· < w.heap.size) w wr)) (fun _ iv _ => es.length - (intOf iv).toNat)
  case atStart => exact ⟨0, 0, _, 0, [], rfl, rfl, Nat.zero_le _, Nat.zero_le _, hid rfl, hid rfl, hid (own_lit w _ _ _ 2 0 [] rfl rfl (Nat.zero_le _) (Nat.le_refl _)), hid ((Keeps.refl _ _).alloc (fun b hb => hb) _)⟩
  case round =>
    obtain ⟨k, n2, A2, c2, oc, rfl, rfl, hk, hn2, HN, HE, HO, HK⟩ := hrel
    by_cases hlt : k < es.length
    · have hltI : (k : Int) < (es.length : Int) := by omega
      have hk0 : (0 : Int) ≤ (k : Int) := Int.natCast_nonneg k
      have hge : es[k]? = some es[k] := List.getElem?_eq_getElem hlt
      generalize es[k] = e at hge
      obtain ⟨b, off, cp, pv, e1, hKb, x0, x1, hps⟩ := HV.out.get hge
      injection e1 with e1 _ e2
      subst e1 e2
      obtain ⟨pA, pc, rfl, hp1, hp2⟩ := hps.form
      have hbn := belowL_next (most := most) hge
      have y0 := (World.cell?_of_block (a := ⟨b, off + k * 2, none⟩) (HK.out.block b hKb)).trans x0
      have y1 := (World.cell?_of_block (a := ⟨b, off + k * 2 + 1, none⟩) (HK.out.block b hKb)).trans x1
      have hbs := HK.out.size
      obtain ⟨dd, hdd⟩ : ∃ d, d = e.doc := ⟨_, rfl⟩
      rw [← hdd] at y0 hbn
      by_cases hd : dd < most
      · rw [if_pos hd] at hbn
        have hE2 : EntAt w (· < w.heap.size) (belowL (es.take (k + 1)) most) (oc ++ [.int .i64 dd, .slice pA e.pos.length pc]) := by
          rw [hbn]
          exact EntAt.append _ _ _ _ HE.out ⟨_, [], by rw [hdd], hps, rfl⟩
        have hN2 : n2 + 1 = (belowL (es.take (k + 1)) most).length := by rw [hbn, List.length_append, HN.out]; rfl
        obtain ⟨np, hnp⟩ : ∃ d, d = e.pos.length := ⟨_, rfl⟩
        rw [← hnp] at y1 hE2
        have HE2 := hid hE2
        have HN2 := hid hN2
        clear hE2 hN2
        clear x0 x1 hps hge hbn hdd hnp hp1 hp2
        go_upto_region 6 with fail
        obtain ⟨i0, hi, hz0, hz1, hz2⟩ := info_partsF Try.infoE
        go_wp2_with (at_builtin; go_must (refine wpList_append_own_at _ rfl _ _ 37 rfl (w.heap.size) 71 i0 (.agg #[.int .i64 0, .slice none 0 0]) 2 32 Try.underlying37 hi hz0 hz1 hz2 rfl (by decide) (.slice A2 n2 c2) n2 oc rfl (ownB_keepS HO.out ((Keeps.refl _ _).alloc (fun b hb => hb) _)) ⟨wr.heap.size, 0, none⟩ 1 1 [.int .i64 dd, .slice pA np pc] rfl (by simp) (own_newsS (own_lit wr 0 _ _ 2 1 [.int .i64 dd, .slice pA np pc] rfl rfl (by decide) (Nat.zero_le _))) ?_ ?_ ?_ ?_ ?_))
        all_goals (try (first | with_reducible exact one1 _ _ | with_reducible exact one2 _ _ _ | with_reducible exact one4 _ _ _ _ _ | with_reducible exact oneM _ _ | exact rfl | exact fun _ _ => rfl | exact ⟨rfl, rfl⟩ | exact ⟨rfl, rfl, rfl⟩ | exact ⟨rfl, rfl, rfl, rfl⟩ | (unfold maxLen; omega) | omega | (simp; omega) | (simp; done)))
        (try clear hi)
        (try clear hz0)
        (try clear hz1)
        (try clear hz2)
        intro v' w6 hown hgr _ hf
        have hkg := keeps_grown (w := wr.alloc (.cells #[.int .i64 dd, .slice pA np pc] 71)) (HK.out.alloc (fun b hb => by omega) _) (by simp; omega) (ownB_keepS HO.out ((Keeps.refl _ _).alloc (fun b hb => hb) _)) hgr
        obtain ⟨g', c', rfl⟩ := ownB_posS hown (by omega)
        clear hgr hf y0 y1
        have Hown := hid hown
        have Hkg := hid hkg
        clear hown hkg
        go_wp2_with fail
        go_roundw
        case rel => exact ⟨k + 1, n2 + 1, _, c', _, rfl, by go_num, hlt, by omega, HN2, HE2, Hown, Hkg⟩
        case measure => first | (simp [intOf]; done) | (simp [intOf]; omega)
      · rw [if_neg hd, List.append_nil] at hbn
        have Hbn := hid hbn
        clear hbn
        clear x0 x1 hps hge hdd hp1 hp2
        go_wp2_with fail
        go_roundw
        case rel => exact ⟨k + 1, n2, A2, c2, oc, rfl, by go_num, hlt, by omega, hid (by rw [Hbn.out]; exact HN.out), hid (by rw [Hbn.out]; exact HE.out), HO, HK⟩
        case measure => first | (simp [intOf]; done) | (simp [intOf]; omega)
    · obtain rfl : k = es.length := by omega
      have hltI : ¬ (es.length : Int) < (es.length : Int) := by omega
      go_wp2_with fail
      refine hR'.out _ _ ⟨_, rfl, ?_, HK.out⟩
      have hn := HN.out
      have he := HE.out
      rw [List.take_length] at hn he
      refine ⟨oc, ?_, EntAt.mono (fun b hb => Or.inr hb) _ _ (EntAt.keep HK.out (fun b hb => hb) _ _ he)⟩
      rw [← hn]
      exact (ownB_slAtS HO.out).mono (fun b hb => Or.inl hb)
end Go.Proofs.Ytbmgmjfpoepgpaa
