/- Contract of a reference: an entry's bytes. -/
import Derived.Test.YtbmgmjfpoepgpaaFRefC
namespace Go.Proofs.Ytbmgmjfpoepgpaa
open Go.RowKit

def posB : Int → List Int → List Int
  | _, [] => []
  | q, p :: ps => vlq (p - q).toNat ++ posB p ps
def gapB (es : List EntM) (i : Nat) (e : EntM) : Int := if i % 4 = 0 then e.doc else e.doc - ((es[i - 1]?).map EntM.doc).getD 0
def entryB (es : List EntM) (i : Nat) (e : EntM) : List Int := vlq (gapB es i e).toNat ++ vlq e.pos.length ++ posB 0 e.pos

theorem vlq_ne (n : Nat) : 0 < (vlq n).length := by
  by_cases h : n > 127
  · rw [vlq_big h]; simp
  · rw [vlq_small h]; simp
theorem vlq_len (n : Nat) : (vlq n).length ≤ n + 1 := by
  induction n using Nat.strongRecOn with
  | _ n ih =>
    by_cases h : n > 127
    · rw [vlq_big h]; have := ih (n / 128) (by omega); simp; omega
    · rw [vlq_small h]; simp
/-- what another own row holds is appended -/
theorem NewRow.app {w0 wr w2 w' : World} {E : TypeId} {f : Int → Value} {v v' : Value} {acc ys : List Int} (h : NewRow w0 wr E f v acc) (k2 : Keeps (· < wr.heap.size) wr w2) (hown : w'.ownsRow w0.heap.size E 1 v' (acc.length + ys.length) (acc.map f ++ ys.map f)) (hg : w2.grownBy w' v.ownBlock) : NewRow w0 w' E f v' (acc ++ ys) := by
  refine ⟨by simpa using hown, ?_⟩
  have hB := h.2.size
  have hB2 := k2.size
  exact keeps_grown (h.2.trans (k2.mono fun b hb => by omega)) (by omega) (ownB_keep h.1 k2 (fun b _ hb _ => hb)) hg
theorem own_news {w : World} {B E n : Nat} {g : Nat} {cap : Nat} {xs : List Value} (h : w.ownsRow B E 1 (.slice (some ⟨g, 0, none⟩) n cap) n xs) : ∀ j u, xs[j]? = some u → w.cell? ((⟨g, 0, none⟩ : Addr).add j) = some u := fun j u hu => h.cells (g := g) rfl j u hu
theorem ownB_pos {w : World} {B E n : Nat} {v : Value} {xs : List Value} (h : w.ownsRow B E 1 v n xs) (hn : 0 < n) : ∃ g cap, v = .slice (some ⟨g, 0, none⟩) n cap := by
  rcases h.2 with ⟨_, h2⟩ | ⟨g, cap, _, h1, _⟩
  · omega
  · exact ⟨g, cap, h1⟩

set_option maxRecDepth 100000 in
set_option maxHeartbeats 2000000 in
theorem ref13_entry (A : Option Addr) (cap : Nat) (es : List EntM) (hM : MayE es) (i : Nat) (e : EntM) (hge : es[i]? = some e) (w : World) (hv : EntV w (· < w.heap.size) (.slice A es.length cap) es) :
    Calls Try.prog 60 #[.slice A es.length cap, .int .i64 (i : Int)] w fun e' w' => ∃ v, e' = .returned v ∧ NewRow w w' 5 (Value.int .u8) v (entryB es i e) := by
  obtain ⟨A0, cap0, he, hc1, hc2⟩ := hv.form
  injection he with e1 _ e3
  subst e1 e3
  unfold maxLen at hc2
  have hlt := (List.getElem?_eq_some_iff.1 hge).1
  have h64 := hM.1
  obtain ⟨o1, o2, o3, o4, o5, o6⟩ := hM.2 i e hge
  obtain ⟨b, off, cp, pv, e1, hKb, x0, x1, hps⟩ := hv.get hge
  injection e1 with e1 _ e2
  subst e1 e2
  obtain ⟨pA, pc, rfl, hp1, hp2⟩ := hps.form
  unfold maxLen at hp2
  obtain ⟨np, hnp⟩ : ∃ d, d = e.pos.length := ⟨_, rfl⟩
  have hpn : pA.isSome = true := by
    obtain ⟨A1, c1, h1, _, _, _, h5⟩ := hps
    obtain ⟨b5, o5, e5, _⟩ := h5 o4
    injection h1 with h1
    rw [h1, e5]; rfl
  obtain ⟨dn, hdn⟩ : ∃ dn : Nat, gapB es i e = (dn : Int) := by
    unfold gapB
    by_cases h4 : i % 4 = 0
    · rw [if_pos h4]; exact ⟨e.doc.toNat, by omega⟩
    · rw [if_neg h4, List.getElem?_eq_getElem (show i - 1 < es.length by omega)]
      have := o3 es[i - 1] (by omega) (List.getElem?_eq_getElem _)
      exact ⟨(e.doc - es[i - 1].doc).toNat, by simp; omega⟩
  have hd16 : dn ≤ 65535 := by
    unfold gapB at hdn
    by_cases h4 : i % 4 = 0
    · rw [if_pos h4] at hdn; omega
    · rw [if_neg h4, List.getElem?_eq_getElem (show i - 1 < es.length by omega)] at hdn
      have := (hM.2 (i - 1) es[i - 1] (List.getElem?_eq_getElem _)).1
      simp at hdn; omega
  rw [← hnp] at x1 hp1
  have hnp256 : np ≤ 256 := by omega
  have hnp0 : 0 < np := by omega
  have hltI : (i : Int) < (es.length : Int) := by omega
  have HNP := hid hnp
  have HPS := hid hps
  have HM := hid hM
  have HGE := hid hge
  have HV := hid hv
  have HDN := hid hdn
  have HO6 := hid o6
  have HO3 := hid o3
  clear hnp hps hM hge hv hdn o6 o3 o4 o5
  refine calls_hide fun R' hR' => ?_
  go_enter Try.func60, Try.ntmps60
  go_upto_if 16 with fail
  go_cut [5] from 16 to 24 (fun a wx => a = .int .i64 (dn : Int) ∧ w = wx)
  case first =>
    by_cases h4 : i % 4 = 0
    · have hb4 : ((i : Int) % 4 != 0) = false := by simp; omega
      have hd : e.doc = (dn : Int) := by have h := HDN.out; unfold gapB at h; rw [if_pos h4] at h; exact h
      have Hd := hid hd
      clear hd
      clear h4
      go_wp2_with fail
      go_meet
      case rel => exact ⟨by rw [Hd.out], rfl⟩
    · have hb4 : ((i : Int) % 4 != 0) = true := by simp; omega
      obtain ⟨q, hq⟩ : ∃ q, i = q + 1 := ⟨i - 1, by omega⟩
      have hgp : es[q]? = some es[q] := List.getElem?_eq_getElem (by omega)
      have hd : e.doc - es[q].doc = (dn : Int) := by
        have h := HDN.out
        unfold gapB at h
        rw [if_neg h4, show i - 1 = q by omega, hgp] at h
        exact h
      have hp0 := (HM.out.2 q es[q] hgp).1
      have hp1 := (HM.out.2 q es[q] hgp).2.1
      generalize es[q] = dp at hgp hd hp0 hp1
      obtain ⟨bp, offp, cpp, pvp, e1, hKp, y0, -, -⟩ := HV.out.get hgp
      injection e1 with e1 _ e2
      injection e1 with e1
      injection e1 with e1 e3 _
      subst e1 e3
      have hiq : (i : Int) - 1 = (q : Int) := by omega
      have hql : (q : Int) < (es.length : Int) := by omega
      have hq0 : (0 : Int) ≤ (q : Int) := Int.natCast_nonneg q
      have HGP := hid hgp
      have Hd := hid hd
      clear hd
      clear h4 hgp e2 hKp hq
      go_wp2_with fail
      go_meet
      case rel => exact ⟨by rw [Hd.out], rfl⟩
  case rest =>
    obtain ⟨rfl, rfl⟩ := hcut
    go_wp2_with fail
    refine (ref8_put dn (by omega) _).mono ?_
    rintro e' w1 ⟨v1, rfl, hN1⟩
    obtain ⟨A1, c1, rfl⟩ := ownB_form hN1.1
    have y1 := (World.cell?_of_block (a := ⟨b, off + i * 2 + 1, none⟩) (hN1.2.block b hKb)).trans x1
    have HX1 := hid x1
    clear x0 x1
    have HN1 := hid hN1
    clear hN1
    go_wp2_with fail
    refine (ref8_put np (by omega) _).mono ?_
    rintro e' w2 ⟨v2, rfl, hN2⟩
    obtain ⟨g2, c2, rfl⟩ := ownB_pos hN2.1 (vlq_ne np)
    have hs1 := HN1.out.2.size
    have hs2 := hN2.2.size
    have hl1 := vlq_len dn
    have hl2 := vlq_len np
    have hown1 := ownB_keep HN1.out.1 hN2.2 (fun b _ hb _ => hb)
    have hnw := own_news hN2.1
    have HN2 := hid hN2
    have Hown1 := hid hown1
    have Hnw := hid hnw
    clear hN2 hown1 hnw
    obtain ⟨i0, hi, hz0, hz1, hz2⟩ := info_partsF Try.infoF8
    go_wp2_with (at_builtin; refine wpList_append_own _ rfl _ _ 106 rfl (w.heap.size) 5 i0 (.int .u8 0) 1 1 Try.underlying106 hi hz0 hz1 hz2 rfl (by decide) (.slice A1 (vlq dn).length c1) (vlq dn).length ((vlq dn).map (Value.int .u8)) rfl Hown1.out ⟨g2, 0, none⟩ (vlq np).length c2 ((vlq np).map (Value.int .u8)) rfl (by simp) Hnw.out ?_ ?_ ?_ ?_ ?_)
    all_goals (try (first | (intro u hu; obtain ⟨x, _, rfl⟩ := List.mem_map.1 hu; rfl) | (unfold maxLen; omega) | omega))
    intro v' w3 hown hgr _
    have hN3 := HN1.out.app HN2.out.2 hown hgr
    have hl3 : (vlq dn).length + (vlq np).length = (vlq dn ++ vlq np).length := by simp
    rw [hl3] at hown
    obtain ⟨A3, c3, rfl⟩ := ownB_form hown
    have y3 := (World.cell?_of_block (a := ⟨b, off + i * 2 + 1, none⟩) (hN3.2.block b hKb)).trans (show w.cell? _ = _ from HX1.out)
    have hln : (vlq dn ++ vlq np).length ≤ 70000 := by rw [← hl3]; omega
    clear hl3
    generalize hac0 : vlq dn ++ vlq np = acc0 at *
    have HAC := hid hac0
    clear hac0
    clear hown hgr hi hz0 hz1 hz2 y1 HN2 Hown1 Hnw HN1
    have HN3 := hid hN3
    clear hN3
    go_wp2_with fail
    go_loopw [6, 44] (fun ov kv wr => ∃ (k : Nat) (acc : List Int) (A' : Option Addr) (c' : Nat), ov = .slice A' acc.length c' ∧ kv = .int .i64 (k : Int) ∧ k ≤ np ∧ acc.length ≤ 70000 + 70000 * k ∧ Hid (NewRow w wr 5 (Value.int .u8) (.slice A' acc.length c') acc) ∧
      Hid (acc ++ posB (if k = 0 then 0 else e.pos.getD (k - 1) 0) (e.pos.drop k) = entryB es i e)) (fun _ kv _ => np - (intOf kv).toNat)
    case atStart => exact ⟨0, acc0, A3, c3, rfl, rfl, Nat.zero_le _, by omega, HN3, hid (by unfold entryB; rw [HDN.out, Int.toNat_natCast, ← HNP.out, HAC.out]; rfl)⟩
    case round =>
      obtain ⟨k, acc, A', c', rfl, rfl, hk, hac, HR, HE⟩ := hrel
      by_cases hkn : k < np
      · have hknI : (k : Int) < (np : Int) := by omega
        have hk0 : (0 : Int) ≤ (k : Int) := Int.natCast_nonneg k
        have hgx : e.pos[k]? = some (e.pos[k]'(by have := HNP.out; omega)) := List.getElem?_eq_getElem _
        generalize e.pos[k]'(by have := HNP.out; omega) = x at hgx
        obtain ⟨x0, x1, x2⟩ := HO6.out k x hgx
        have hpr : 0 ≤ (if k = 0 then 0 else e.pos.getD (k - 1) 0) ∧ (if k = 0 then 0 else e.pos.getD (k - 1) 0) ≤ x := by
          by_cases h : k = 0
          · rw [if_pos h]; exact ⟨Int.le_refl _, x0⟩
          · rw [if_neg h]
            have hgy : e.pos[k - 1]? = some (e.pos[k - 1]'(by have := HNP.out; omega)) := List.getElem?_eq_getElem _
            have h1 := x2 _ (by omega) hgy
            have h2 := (HO6.out (k - 1) _ hgy).1
            rw [List.getD_eq_getElem?_getD, hgy]
            simp only [Option.getD_some]
            omega
        obtain ⟨dk, hdk⟩ : ∃ dk : Nat, x - (if k = 0 then 0 else e.pos.getD (k - 1) 0) = (dk : Int) := ⟨(x - (if k = 0 then 0 else e.pos.getD (k - 1) 0)).toNat, by omega⟩
        have hdk16 : dk ≤ 65535 := by omega
        have hex : acc ++ vlq dk ++ posB x (e.pos.drop (k + 1)) = entryB es i e := by
          have h := HE.out
          rw [List.drop_eq_getElem_cons (show k < e.pos.length by have := HNP.out; omega)] at h
          have hx : e.pos[k]'(by have := HNP.out; omega) = x := by rw [List.getElem?_eq_getElem (by have := HNP.out; omega)] at hgx; injection hgx
          rw [hx] at h
          unfold posB at h
          rw [hdk, Int.toNat_natCast] at h
          rw [List.append_assoc]; exact h
        obtain ⟨b2, off2, c2, e1, hK2, v0⟩ := HPS.out.get k x hgx
        injection e1 with e1 em e2
        clear em
        subst e1 e2
        have y2 := (World.cell?_of_block (a := ⟨b2, off2 + k, none⟩) (HR.out.2.block b2 hK2)).trans v0
        have y3 := (World.cell?_of_block (a := ⟨b, off + i * 2 + 1, none⟩) (HR.out.2.block b hKb)).trans HX1.out
        have HDK := hid hdk
        have HGX := hid hgx
        clear hdk hgx hpr x2 v0 HE
        have Hex := hid hex
        clear hex
        go_upto_if 56 with fail
        go_cut [8] from 55 to 67 (fun a wx => a = .int .i64 (dk : Int) ∧ wr = wx)
        case first =>
          by_cases h0 : k = 0
          · have hb0 : ¬ 0 < k := by omega
            have hd : x = (dk : Int) := by have h := HDK.out; rw [if_pos h0] at h; omega
            have Hd := hid hd
            clear hd
            clear h0
            go_wp2_with fail
            go_meet
            case rel => exact ⟨by rw [Hd.out], rfl⟩
          · have hb0 : 0 < k := by omega
            obtain ⟨kp, hkp⟩ : ∃ kp, kp = k - 1 := ⟨_, rfl⟩
            have hgy : e.pos[kp]? = some (e.pos[kp]'(by have := HNP.out; omega)) := List.getElem?_eq_getElem _
            have hd : x - e.pos[kp]'(by have := HNP.out; omega) = (dk : Int) := by
              have h := HDK.out
              rw [if_neg h0, ← hkp, List.getD_eq_getElem?_getD, hgy] at h
              exact h
            generalize e.pos[kp]'(by have := HNP.out; omega) = y at hgy hd
            have hy0 := (HO6.out kp y hgy).1
            have hy1 := (HO6.out kp y hgy).2.1
            obtain ⟨b3, off3, c3, e1, hK3, v0⟩ := HPS.out.get kp y hgy
            injection e1 with e1 em e2
            clear em
            injection e1 with e1
            injection e1 with e1 e3 _
            subst e1 e3
            have v1 := (World.cell?_of_block (a := ⟨b2, off2 + kp, none⟩) (HR.out.2.block b2 hK3)).trans v0
            have hiq : (k : Int) - 1 = (kp : Int) := by omega
            have hq0 : (0 : Int) ≤ (kp : Int) := Int.natCast_nonneg kp
            have hq1 : (kp : Int) < (np : Int) := by omega
            have Hd := hid hd
            clear hd
            clear v0 hK3 e2 hgy hkp h0
            go_wp2_with fail
            go_meet
            case rel => exact ⟨by rw [Hd.out], rfl⟩
        case rest =>
          obtain ⟨rfl, rfl⟩ := hcut
          go_wp2_with fail
          refine (ref8_put dk (by omega) _).mono ?_
          rintro e' w4 ⟨v4, rfl, hN4⟩
          obtain ⟨g4, c4, rfl⟩ := ownB_pos hN4.1 (vlq_ne dk)
          have hs1 := HR.out.2.size
          have hs4 := hN4.2.size
          have hl4 := vlq_len dk
          have hown4 := ownB_keep HR.out.1 hN4.2 (fun b _ hb _ => hb)
          have hnw := own_news hN4.1
          have HN4 := hid hN4
          have Hown4 := hid hown4
          have Hnw := hid hnw
          clear hN4 hown4 hnw
          obtain ⟨i0, hi, hz0, hz1, hz2⟩ := info_partsF Try.infoF8
          go_wp2_with (at_builtin; refine wpList_append_own _ rfl _ _ 106 rfl (w.heap.size) 5 i0 (.int .u8 0) 1 1 Try.underlying106 hi hz0 hz1 hz2 rfl (by decide) (.slice A' acc.length c') acc.length (acc.map (Value.int .u8)) rfl Hown4.out ⟨g4, 0, none⟩ (vlq dk).length c4 ((vlq dk).map (Value.int .u8)) rfl (by simp) Hnw.out ?_ ?_ ?_ ?_ ?_)
          all_goals (try (first | (intro u hu; obtain ⟨x, _, rfl⟩ := List.mem_map.1 hu; rfl) | (unfold maxLen; omega) | omega))
          intro v' w5 hown hgr _
          have hN5 := HR.out.app HN4.out.2 hown hgr
          have hl5 : acc.length + (vlq dk).length = (acc ++ vlq dk).length := by simp
          rw [hl5] at hown
          obtain ⟨A5, c5, rfl⟩ := ownB_form hown
          have hln5 : (acc ++ vlq dk).length ≤ 70000 + 70000 * (k + 1) := by rw [← hl5]; omega
          clear hl5
          generalize hac5 : acc ++ vlq dk = acc5 at *
          clear hac5
          clear hown hgr hi hz0 hz1 hz2 y2 y3 HN4 Hown4 Hnw HR
          have HN5 := hid hN5
          clear hN5
          go_wp2_with fail
          go_roundw
          case rel => exact ⟨k + 1, acc5, A5, c5, rfl, by go_num, by omega, hln5, HN5, hid (by rw [if_neg (by omega), Nat.add_sub_cancel, List.getD_eq_getElem?_getD, HGX.out]; exact Hex.out)⟩
          case measure => first | (simp [intOf]; done) | (simp [intOf]; omega)
      · obtain rfl : k = np := by omega
        have hknI : ¬ (k : Int) < (k : Int) := by omega
        have hex := HE.out
        rw [List.drop_of_length_le (by have := HNP.out; omega)] at hex
        have hex : acc ++ [] = entryB es i e := hex
        rw [List.append_nil] at hex
        have Hex := hid hex
        clear hex
        clear HE
        go_wp2_with fail
        exact hR'.out _ _ ⟨_, rfl, by rw [← Hex.out]; exact HR.out⟩
end Go.Proofs.Ytbmgmjfpoepgpaa
