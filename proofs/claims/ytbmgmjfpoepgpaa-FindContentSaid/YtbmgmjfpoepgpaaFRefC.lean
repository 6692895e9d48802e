/- Contract of a reference: whether entries may be. Printed by gen/may13.py. -/
import Derived.Test.YtbmgmjfpoepgpaaFRefB
import Derived.Deep.CutBlock
namespace Go.Proofs.Ytbmgmjfpoepgpaa
open Go.RowKit

def EntV (w : World) (K : Nat → Prop) (v : Value) (es : List EntM) : Prop := ∃ cells, SlAt w K 2 v es.length cells ∧ EntAt w K es cells
theorem EntAt.get {w : World} {G : Nat → Prop} : ∀ (es : List EntM) (cs : List Value), EntAt w G es cs → ∀ (i : Nat) (e : EntM), es[i]? = some e → ∃ pv, cs[i * 2]? = some (.int .i64 e.doc) ∧ cs[i * 2 + 1]? = some pv ∧ SlAt w G 1 pv e.pos.length (e.pos.map (Value.int .i64))
  | [], _, _, i, e, hi => by simp at hi
  | x :: es, cs, ⟨v, cs', h1, h2, h3⟩, 0, e, hi => by
    simp at hi
    subst hi
    exact ⟨v, by rw [h1]; rfl, by rw [h1]; rfl, h2⟩
  | x :: es, cs, ⟨v, cs', h1, h2, h3⟩, i + 1, e, hi => by
    obtain ⟨pv, g1, g2, g3⟩ := EntAt.get es cs' h3 i e (by simpa using hi)
    have e1 : (i + 1) * 2 = i * 2 + 2 := by omega
    exact ⟨pv, by rw [h1, e1]; exact g1, by rw [h1, e1]; exact g2, g3⟩
theorem EntV.get {w : World} {K : Nat → Prop} {v : Value} {es : List EntM} (h : EntV w K v es) {i : Nat} {e : EntM} (hi : es[i]? = some e) :
    ∃ b off cap pv, v = .slice (some ⟨b, off, none⟩) es.length cap ∧ K b ∧ w.cell? ⟨b, off + i * 2, none⟩ = some (.int .i64 e.doc) ∧ w.cell? ⟨b, off + i * 2 + 1, none⟩ = some pv ∧ SlAt w K 1 pv e.pos.length (e.pos.map (Value.int .i64)) := by
  obtain ⟨cells, ⟨A, cap, h1, h2, h3, h4, h5⟩, hE⟩ := h
  have hlt := (List.getElem?_eq_some_iff.1 hi).1
  obtain ⟨b, off, e1, hb, hc⟩ := h5 (by omega)
  obtain ⟨pv, g1, g2, g3⟩ := hE.get es cells i e hi
  exact ⟨b, off, cap, pv, by rw [h1, e1], hb, hc _ _ g1, hc _ _ g2, g3⟩
theorem EntV.form {w : World} {K : Nat → Prop} {v : Value} {es : List EntM} (h : EntV w K v es) : ∃ A cap, v = .slice A es.length cap ∧ es.length ≤ cap ∧ cap ≤ maxLen := by
  obtain ⟨cells, h, _⟩ := h
  exact h.form
theorem EntV.keep {w w' : World} {K L : Nat → Prop} {v : Value} {es : List EntM} (h : EntV w K v es) (k : Keeps L w w') (hL : ∀ b, K b → L b) : EntV w' K v es := by
  obtain ⟨cells, h1, h2⟩ := h
  exact ⟨cells, h1.keep k hL, EntAt.keep k hL _ _ h2⟩

def posOk (ps : List Int) : Prop := ∀ (k : Nat) (x : Int), ps[k]? = some x → 0 ≤ x ∧ x ≤ 65535 ∧ ∀ y : Int, 0 < k → ps[k - 1]? = some y → y < x
def entOk (es : List EntM) (i : Nat) (e : EntM) : Prop := 0 ≤ e.doc ∧ e.doc ≤ 65535 ∧ (∀ d : EntM, 0 < i → es[i - 1]? = some d → d.doc < e.doc) ∧ 0 < e.pos.length ∧ e.pos.length ≤ 256 ∧ posOk e.pos
def MayE (es : List EntM) : Prop := es.length ≤ 64 ∧ ∀ i e, es[i]? = some e → entOk es i e
noncomputable def mayB (es : List EntM) : Bool := @decide (MayE es) (Classical.propDecidable _)
theorem mayB_true {es : List EntM} (h : MayE es) : mayB es = true := by unfold mayB; exact @decide_eq_true _ (Classical.propDecidable _) h
theorem mayB_false {es : List EntM} (h : ¬ MayE es) : mayB es = false := by unfold mayB; exact @decide_eq_false _ (Classical.propDecidable _) h

set_option maxRecDepth 100000 in
set_option maxHeartbeats 4000000 in
theorem ref13_may (A : Option Addr) (cap : Nat) (es : List EntM) (w : World) (hv : EntV w (· < w.heap.size) (.slice A es.length cap) es) :
    Calls Try.prog 59 #[.slice A es.length cap] w fun e w' => e = .returned (.bool (mayB es)) ∧ Keeps (· < w.heap.size) w w' := by
  obtain ⟨A0, cap0, he, hc1, hc2⟩ := hv.form
  injection he with e1 _ e3
  subst e1 e3
  unfold maxLen at hc2
  have HV := hid hv
  clear hv
  refine calls_hide fun R' hR' => ?_
  go_enter Try.func59, Try.ntmps59
  by_cases h64 : es.length ≤ 64
  · have h64I : ¬ (es.length : Int) > 64 := by omega
    go_wp2_with fail
    go_loopw [11] (fun iv wr => ∃ i : Nat, iv = .int .i64 (i : Int) ∧ i ≤ es.length ∧ Hid (∀ i' e, i' < i → es[i']? = some e → entOk es i' e) ∧ Hid (Keeps (· < w.heap.size) w wr)) (fun iv _ => es.length - (intOf iv).toNat)
    case atStart => exact ⟨0, rfl, Nat.zero_le _, hid (fun i' e h => by omega), hid (Keeps.refl _ _)⟩
    case round =>
      obtain ⟨i, rfl, hi, HO, HK⟩ := hrel
      by_cases hlt : i < es.length
      · have hltI : (i : Int) < (es.length : Int) := by omega
        have hge : es[i]? = some es[i] := List.getElem?_eq_getElem hlt
        generalize es[i] = e at hge
        obtain ⟨b, off, cp, pv, e1, hKb, x0, x1, hps⟩ := HV.out.get hge
        injection e1 with e1 _ e2
        subst e1 e2
        obtain ⟨pA, pc, rfl, hp1, hp2⟩ := hps.form
        unfold maxLen at hp2
        have y0 := (World.cell?_of_block (a := ⟨b, off + i * 2, none⟩) (HK.out.block b hKb)).trans x0
        have y1 := (World.cell?_of_block (a := ⟨b, off + i * 2 + 1, none⟩) (HK.out.block b hKb)).trans x1
        have hs := HK.out.size
        have HPS := hid hps
        have HGE := hid hge
        have HKB := hid hKb
        clear x0 x1 hps hge hKb
        obtain ⟨doc, hdoc⟩ : ∃ d, d = e.doc := ⟨_, rfl⟩
        rw [← hdoc] at y0
        have HDOC := hid hdoc
        clear hdoc
        obtain ⟨np, hnp⟩ : ∃ d, d = e.pos.length := ⟨_, rfl⟩
        rw [← hnp] at y1
        have hp1' : np ≤ pc := by omega
        have HNP := hid hnp
        clear hnp hp1
        go_upto_region 7 with fail
        refine wp_gen (fun W => Blk W wr.heap.size [.int .i64 doc, .slice pA np pc] ∧ Keeps (· < w.heap.size) w W) ⟨Blk.new wr _ _, HK.out.alloc (fun b hb => by omega) _⟩ ?_
        rintro W ⟨hbe, hkq⟩
        generalize wr.heap.size = be at *
        clear HK y0 y1 hs
        have hbe0 := hbe
        have z0 := (hbe0).cell 0
        have z1 := (hbe0).cell 1
        simp only [List.getElem?_cons_zero, List.getElem?_cons_succ] at z0 z1
        clear hbe0
        have HBE := hid hbe
        have HKq := hid hkq
        clear hbe hkq
        by_cases h1 : doc < 0
        · have f1 : decide (doc < 0) = true := decide_eq_true h1
          go_wp2_with fail
          go_quiet (fail)
          go_wp2_with fail
          exact hR'.out _ _ ⟨by first | (rw [mayB_false (fun hM => by have ho := hM.2 _ e HGE.out; have := HDOC.out; have := HNP.out; have := ho.1; omega)]; rfl) | rw [mayB_false (fun hM => by have ho := hM.2 _ e HGE.out; have := HDOC.out; have := HNP.out; have := ho.1; omega)], HKq.out.drewN nq⟩
        · have f1 : decide (doc < 0) = false := decide_eq_false h1
          by_cases h2 : 65535 < doc
          · have f2 : decide (65535 < doc) = true := decide_eq_true h2
            go_wp2_with fail
            go_quiet (fail)
            go_wp2_with fail
            exact hR'.out _ _ ⟨by first | (rw [mayB_false (fun hM => by have ho := hM.2 _ e HGE.out; have := HDOC.out; have := HNP.out; have := ho.2.1; omega)]; rfl) | rw [mayB_false (fun hM => by have ho := hM.2 _ e HGE.out; have := HDOC.out; have := HNP.out; have := ho.2.1; omega)], HKq.out.drewN nq⟩
          · have f2 : decide (65535 < doc) = false := decide_eq_false h2
            by_cases h0 : i = 0
            · subst h0
              by_cases h4 : np = 0
              · have f4 : ((np : Int) == 0) = true := by simp [h4]
                go_wp2_with fail
                go_quiet (fail)
                go_wp2_with fail
                exact hR'.out _ _ ⟨by first | (rw [mayB_false (fun hM => by have ho := hM.2 _ e HGE.out; have := HDOC.out; have := HNP.out; have := ho.2.2.2.1; omega)]; rfl) | rw [mayB_false (fun hM => by have ho := hM.2 _ e HGE.out; have := HDOC.out; have := HNP.out; have := ho.2.2.2.1; omega)], HKq.out.drewN nq⟩
              · have f4 : ((np : Int) == 0) = false := by simp [h4]
                by_cases h5 : np > 256
                · have f5 : decide (256 < (np : Int)) = true := decide_eq_true (by omega)
                  go_wp2_with fail
                  go_quiet (fail)
                  go_wp2_with fail
                  exact hR'.out _ _ ⟨by first | (rw [mayB_false (fun hM => by have ho := hM.2 _ e HGE.out; have := HDOC.out; have := HNP.out; have := ho.2.2.2.2.1; omega)]; rfl) | rw [mayB_false (fun hM => by have ho := hM.2 _ e HGE.out; have := HDOC.out; have := HNP.out; have := ho.2.2.2.2.1; omega)], HKq.out.drewN nq⟩
                · have f5 : decide (256 < (np : Int)) = false := decide_eq_false (by omega)
                  have HPREV := hid (show ∀ d : EntM, 0 < 0 → es[0 - 1]? = some d → d.doc < e.doc from fun d h => by omega)
                  go_wp2_with fail
                  go_quiet (fail)
                  go_wp2_with fail
                  go_loopw [56] (fun kv wk => ∃ k : Nat, kv = .int .i64 (k : Int) ∧ k ≤ np ∧ Hid (∀ (k' : Nat) (y : Int), k' < k → e.pos[k']? = some y → 0 ≤ y ∧ y ≤ 65535 ∧ ∀ z : Int, 0 < k' → e.pos[k' - 1]? = some z → z < y) ∧ Hid (Blk wk be [.int .i64 doc, .slice pA np pc]) ∧ Hid (Keeps (· < w.heap.size) w wk)) (fun kv _ => np - (intOf kv).toNat)
                  case atStart => exact ⟨0, rfl, Nat.zero_le _, hid (fun k' y h => by omega), hid (HBE.out.drewN nq), hid (HKq.out.drewN nq)⟩
                  case round =>
                    rename World => wk
                    obtain ⟨k, rfl, hk, HP, HBk, HKk⟩ := hrel
                    clear z0 z1
                    by_cases hkn : k < np
                    · have hknI : (k : Int) < (np : Int) := by omega
                      have hk0 : (0 : Int) ≤ (k : Int) := Int.natCast_nonneg k
                      have hgx : e.pos[k]? = some (e.pos[k]'(by have := HNP.out; omega)) := List.getElem?_eq_getElem _
                      generalize e.pos[k]'(by have := HNP.out; omega) = x at hgx
                      obtain ⟨b2, off2, c2, e1, hK2, x0⟩ := HPS.out.get k x hgx
                      injection e1 with e1 em e2
                      clear em
                      subst e1 e2
                      have v0 := (World.cell?_of_block (a := ⟨b2, off2 + k, none⟩) (HKk.out.block b2 hK2)).trans x0
                      have hbk := HBk.out
                      have z0 := (hbk).cell 0
                      have z1 := (hbk).cell 1
                      simp only [List.getElem?_cons_zero, List.getElem?_cons_succ] at z0 z1
                      have HGX := hid hgx
                      clear x0 hbk hgx hK2
                      by_cases p1 : x < 0
                      · have q1 : decide (x < 0) = true := decide_eq_true p1
                        go_wp2_with fail
                        go_quiet (fail)
                        go_wp2_with fail
                        exact hR'.out _ _ ⟨by first | (rw [mayB_false (fun hM => by have hp := (hM.2 _ e HGE.out).2.2.2.2.2 _ x HGX.out; omega)]; rfl) | rw [mayB_false (fun hM => by have hp := (hM.2 _ e HGE.out).2.2.2.2.2 _ x HGX.out; omega)], HKk.out.drewN nq⟩
                      · have q1 : decide (x < 0) = false := decide_eq_false p1
                        by_cases p2 : 65535 < x
                        · have q2 : decide (65535 < x) = true := decide_eq_true p2
                          go_wp2_with fail
                          go_quiet (fail)
                          go_wp2_with fail
                          exact hR'.out _ _ ⟨by first | (rw [mayB_false (fun hM => by have hp := (hM.2 _ e HGE.out).2.2.2.2.2 _ x HGX.out; omega)]; rfl) | rw [mayB_false (fun hM => by have hp := (hM.2 _ e HGE.out).2.2.2.2.2 _ x HGX.out; omega)], HKk.out.drewN nq⟩
                        · have q2 : decide (65535 < x) = false := decide_eq_false p2
                          by_cases p0 : k = 0
                          · have q0 : decide (0 < k) = false := decide_eq_false (by omega)
                            have HPV := hid (show ∀ z : Int, 0 < k → e.pos[k - 1]? = some z → z < x from fun z h => by omega)
                            clear p0
                            go_wp2_with fail
                            go_quiet (fail)
                            go_wp2_with fail
                            go_roundw
                            case rel => exact ⟨k + 1, by go_num, by omega, hid (fun k' y hk' hy => by
                              by_cases e1 : k' = k
                              · subst e1
                                have hxy : y = x := by rw [HGX.out] at hy; injection hy with hy; exact hy.symm
                                subst hxy
                                exact ⟨by omega, by omega, HPV.out⟩
                              · exact HP.out k' y (by omega) hy), hid (HBk.out.drewN nq), hid (HKk.out.drewN nq)⟩
                            case measure => first | (simp [intOf]; done) | (simp [intOf]; omega)
                          · have q0 : decide (0 < k) = true := decide_eq_true (by omega)
                            obtain ⟨kp, hkp⟩ : ∃ kp, kp = k - 1 := ⟨_, rfl⟩
                            have hgy : e.pos[kp]? = some (e.pos[kp]'(by have := HNP.out; omega)) := List.getElem?_eq_getElem _
                            generalize e.pos[kp]'(by have := HNP.out; omega) = y at hgy
                            obtain ⟨b3, off3, c3, e1, hK3, x0⟩ := HPS.out.get kp y hgy
                            injection e1 with e1 em e2
                            clear em
                            injection e1 with e1
                            injection e1 with e1 e3 _
                            subst e1 e3
                            have v1 := (World.cell?_of_block (a := ⟨b2, off2 + kp, none⟩) (HKk.out.block b2 hK3)).trans x0
                            have u1 : IntKind.i64.wrap ((k : Int) - 1) = (kp : Int) := by rw [IntWalk.i64_in _ (by omega)]; omega
                            have u2 : (0 : Int) ≤ (kp : Int) := by omega
                            have u3 : (kp : Int) < (np : Int) := by omega
                            have HGY := hid hgy
                            have HKP := hid hkp
                            clear x0 hK3 e2 hgy hkp
                            by_cases p3 : x ≤ y
                            · have q3 : decide (x ≤ y) = true := decide_eq_true p3
                              go_wp2_with fail
                              go_quiet (fail)
                              go_wp2_with fail
                              exact hR'.out _ _ ⟨by first | (rw [mayB_false (fun hM => by have hp := (hM.2 _ e HGE.out).2.2.2.2.2 _ x HGX.out; have := hp.2.2 y (by omega) (by rw [← HKP.out]; exact HGY.out); omega)]; rfl) | rw [mayB_false (fun hM => by have hp := (hM.2 _ e HGE.out).2.2.2.2.2 _ x HGX.out; have := hp.2.2 y (by omega) (by rw [← HKP.out]; exact HGY.out); omega)], HKk.out.drewN nq⟩
                            · have q3 : decide (x ≤ y) = false := decide_eq_false p3
                              have HPV := hid (show ∀ z : Int, 0 < k → e.pos[k - 1]? = some z → z < x from fun z _ hz => by rw [← HKP.out, HGY.out] at hz; injection hz with hz; omega)
                              go_wp2_with fail
                              go_quiet (fail)
                              go_wp2_with fail
                              go_roundw
                              case rel => exact ⟨k + 1, by go_num, by omega, hid (fun k' y hk' hy => by
                                by_cases e1 : k' = k
                                · subst e1
                                  have hxy : y = x := by rw [HGX.out] at hy; injection hy with hy; exact hy.symm
                                  subst hxy
                                  exact ⟨by omega, by omega, HPV.out⟩
                                · exact HP.out k' y (by omega) hy), hid (HBk.out.drewN nq), hid (HKk.out.drewN nq)⟩
                              case measure => first | (simp [intOf]; done) | (simp [intOf]; omega)
                    · have hknI : ¬ (k : Int) < (np : Int) := by omega
                      have hent := hid (show entOk es 0 e from ⟨by have := HDOC.out; omega, by have := HDOC.out; omega, HPREV.out, by have := HNP.out; omega, by have := HNP.out; omega, fun k' y hy => HP.out k' y (by have := (List.getElem?_eq_some_iff.1 hy).1; have := HNP.out; omega) hy⟩)
                      go_wp2_with fail
                      go_roundw
                      case rel => exact ⟨0 + 1, by go_num, by omega, hid (fun i' e' hi' he' => by
                        by_cases e1 : i' = 0
                        · subst e1
                          have hee : e' = e := by rw [HGE.out] at he'; injection he' with he'; exact he'.symm
                          subst hee
                          exact hent.out
                        · exact HO.out i' e' (by omega) he'), HKk⟩
                      case measure => first | (simp [intOf]; done) | (simp [intOf]; omega)
            · have f0 : decide (0 < i) = true := decide_eq_true (by omega)
              obtain ⟨q, hq⟩ : ∃ q, q = i - 1 := ⟨_, rfl⟩
              have hql : q < es.length := by omega
              have hgp : es[q]? = some es[q] := List.getElem?_eq_getElem hql
              generalize es[q] = dp at hgp
              obtain ⟨bp, offp, cpp, pvp, e1, hKp, x0, -, -⟩ := HV.out.get hgp
              injection e1 with e1 _ e2
              injection e1 with e1
              injection e1 with e1 e3 _
              subst e1 e3
              have y0 := (World.cell?_of_block (a := ⟨b, off + q * 2, none⟩) (HKq.out.block b hKp)).trans x0
              obtain ⟨pd, hpd⟩ : ∃ d, d = dp.doc := ⟨_, rfl⟩
              rw [← hpd] at y0
              have HPD := hid hpd
              have HGP := hid hgp
              clear x0 hKp e2 hpd hgp
              have w1 : IntKind.i64.wrap ((i : Int) - 1) = (q : Int) := by rw [IntWalk.i64_in _ (by omega)]; omega
              have w2 : (0 : Int) ≤ (q : Int) := by omega
              have w3 : (q : Int) < (es.length : Int) := by omega
              have HQ := hid hq
              clear hq
              by_cases h3 : doc ≤ pd
              · have f3 : decide (doc ≤ pd) = true := decide_eq_true h3
                go_wp2_with fail
                go_quiet (fail)
                go_wp2_with fail
                exact hR'.out _ _ ⟨by first | (rw [mayB_false (fun hM => by have ho := hM.2 _ e HGE.out; have := HDOC.out; have := HNP.out; have := HPD.out; have := ho.2.2.1 dp (by omega) (by rw [← HQ.out]; exact HGP.out); omega)]; rfl) | rw [mayB_false (fun hM => by have ho := hM.2 _ e HGE.out; have := HDOC.out; have := HNP.out; have := HPD.out; have := ho.2.2.1 dp (by omega) (by rw [← HQ.out]; exact HGP.out); omega)], HKq.out.drewN nq⟩
              · have f3 : decide (doc ≤ pd) = false := decide_eq_false h3
                by_cases h4 : np = 0
                · have f4 : ((np : Int) == 0) = true := by simp [h4]
                  go_wp2_with fail
                  go_quiet (fail)
                  go_wp2_with fail
                  exact hR'.out _ _ ⟨by first | (rw [mayB_false (fun hM => by have ho := hM.2 _ e HGE.out; have := HDOC.out; have := HNP.out; have := ho.2.2.2.1; omega)]; rfl) | rw [mayB_false (fun hM => by have ho := hM.2 _ e HGE.out; have := HDOC.out; have := HNP.out; have := ho.2.2.2.1; omega)], HKq.out.drewN nq⟩
                · have f4 : ((np : Int) == 0) = false := by simp [h4]
                  by_cases h5 : np > 256
                  · have f5 : decide (256 < (np : Int)) = true := decide_eq_true (by omega)
                    go_wp2_with fail
                    go_quiet (fail)
                    go_wp2_with fail
                    exact hR'.out _ _ ⟨by first | (rw [mayB_false (fun hM => by have ho := hM.2 _ e HGE.out; have := HDOC.out; have := HNP.out; have := ho.2.2.2.2.1; omega)]; rfl) | rw [mayB_false (fun hM => by have ho := hM.2 _ e HGE.out; have := HDOC.out; have := HNP.out; have := ho.2.2.2.2.1; omega)], HKq.out.drewN nq⟩
                  · have f5 : decide (256 < (np : Int)) = false := decide_eq_false (by omega)
                    have HPREV := hid (show ∀ d : EntM, 0 < i → es[i - 1]? = some d → d.doc < e.doc from fun d _ hd => by rw [← HQ.out, HGP.out] at hd; injection hd with hd; have := HPD.out; have := HDOC.out; subst hd; omega)
                    go_wp2_with fail
                    go_quiet (fail)
                    go_wp2_with fail
                    go_loopw [56] (fun kv wk => ∃ k : Nat, kv = .int .i64 (k : Int) ∧ k ≤ np ∧ Hid (∀ (k' : Nat) (y : Int), k' < k → e.pos[k']? = some y → 0 ≤ y ∧ y ≤ 65535 ∧ ∀ z : Int, 0 < k' → e.pos[k' - 1]? = some z → z < y) ∧ Hid (Blk wk be [.int .i64 doc, .slice pA np pc]) ∧ Hid (Keeps (· < w.heap.size) w wk)) (fun kv _ => np - (intOf kv).toNat)
                    case atStart => exact ⟨0, rfl, Nat.zero_le _, hid (fun k' y h => by omega), hid (HBE.out.drewN nq), hid (HKq.out.drewN nq)⟩
                    case round =>
                      rename World => wk
                      obtain ⟨k, rfl, hk, HP, HBk, HKk⟩ := hrel
                      clear z0 z1
                      by_cases hkn : k < np
                      · have hknI : (k : Int) < (np : Int) := by omega
                        have hk0 : (0 : Int) ≤ (k : Int) := Int.natCast_nonneg k
                        have hgx : e.pos[k]? = some (e.pos[k]'(by have := HNP.out; omega)) := List.getElem?_eq_getElem _
                        generalize e.pos[k]'(by have := HNP.out; omega) = x at hgx
                        obtain ⟨b2, off2, c2, e1, hK2, x0⟩ := HPS.out.get k x hgx
                        injection e1 with e1 em e2
                        clear em
                        subst e1 e2
                        have v0 := (World.cell?_of_block (a := ⟨b2, off2 + k, none⟩) (HKk.out.block b2 hK2)).trans x0
                        have hbk := HBk.out
                        have z0 := (hbk).cell 0
                        have z1 := (hbk).cell 1
                        simp only [List.getElem?_cons_zero, List.getElem?_cons_succ] at z0 z1
                        have HGX := hid hgx
                        clear x0 hbk hgx hK2
                        by_cases p1 : x < 0
                        · have q1 : decide (x < 0) = true := decide_eq_true p1
                          go_wp2_with fail
                          go_quiet (fail)
                          go_wp2_with fail
                          exact hR'.out _ _ ⟨by first | (rw [mayB_false (fun hM => by have hp := (hM.2 _ e HGE.out).2.2.2.2.2 _ x HGX.out; omega)]; rfl) | rw [mayB_false (fun hM => by have hp := (hM.2 _ e HGE.out).2.2.2.2.2 _ x HGX.out; omega)], HKk.out.drewN nq⟩
                        · have q1 : decide (x < 0) = false := decide_eq_false p1
                          by_cases p2 : 65535 < x
                          · have q2 : decide (65535 < x) = true := decide_eq_true p2
                            go_wp2_with fail
                            go_quiet (fail)
                            go_wp2_with fail
                            exact hR'.out _ _ ⟨by first | (rw [mayB_false (fun hM => by have hp := (hM.2 _ e HGE.out).2.2.2.2.2 _ x HGX.out; omega)]; rfl) | rw [mayB_false (fun hM => by have hp := (hM.2 _ e HGE.out).2.2.2.2.2 _ x HGX.out; omega)], HKk.out.drewN nq⟩
                          · have q2 : decide (65535 < x) = false := decide_eq_false p2
                            by_cases p0 : k = 0
                            · have q0 : decide (0 < k) = false := decide_eq_false (by omega)
                              have HPV := hid (show ∀ z : Int, 0 < k → e.pos[k - 1]? = some z → z < x from fun z h => by omega)
                              clear p0
                              go_wp2_with fail
                              go_quiet (fail)
                              go_wp2_with fail
                              go_roundw
                              case rel => exact ⟨k + 1, by go_num, by omega, hid (fun k' y hk' hy => by
                                by_cases e1 : k' = k
                                · subst e1
                                  have hxy : y = x := by rw [HGX.out] at hy; injection hy with hy; exact hy.symm
                                  subst hxy
                                  exact ⟨by omega, by omega, HPV.out⟩
                                · exact HP.out k' y (by omega) hy), hid (HBk.out.drewN nq), hid (HKk.out.drewN nq)⟩
                              case measure => first | (simp [intOf]; done) | (simp [intOf]; omega)
                            · have q0 : decide (0 < k) = true := decide_eq_true (by omega)
                              obtain ⟨kp, hkp⟩ : ∃ kp, kp = k - 1 := ⟨_, rfl⟩
                              have hgy : e.pos[kp]? = some (e.pos[kp]'(by have := HNP.out; omega)) := List.getElem?_eq_getElem _
                              generalize e.pos[kp]'(by have := HNP.out; omega) = y at hgy
                              obtain ⟨b3, off3, c3, e1, hK3, x0⟩ := HPS.out.get kp y hgy
                              injection e1 with e1 em e2
                              clear em
                              injection e1 with e1
                              injection e1 with e1 e3 _
                              subst e1 e3
                              have v1 := (World.cell?_of_block (a := ⟨b2, off2 + kp, none⟩) (HKk.out.block b2 hK3)).trans x0
                              have u1 : IntKind.i64.wrap ((k : Int) - 1) = (kp : Int) := by rw [IntWalk.i64_in _ (by omega)]; omega
                              have u2 : (0 : Int) ≤ (kp : Int) := by omega
                              have u3 : (kp : Int) < (np : Int) := by omega
                              have HGY := hid hgy
                              have HKP := hid hkp
                              clear x0 hK3 e2 hgy hkp
                              by_cases p3 : x ≤ y
                              · have q3 : decide (x ≤ y) = true := decide_eq_true p3
                                go_wp2_with fail
                                go_quiet (fail)
                                go_wp2_with fail
                                exact hR'.out _ _ ⟨by first | (rw [mayB_false (fun hM => by have hp := (hM.2 _ e HGE.out).2.2.2.2.2 _ x HGX.out; have := hp.2.2 y (by omega) (by rw [← HKP.out]; exact HGY.out); omega)]; rfl) | rw [mayB_false (fun hM => by have hp := (hM.2 _ e HGE.out).2.2.2.2.2 _ x HGX.out; have := hp.2.2 y (by omega) (by rw [← HKP.out]; exact HGY.out); omega)], HKk.out.drewN nq⟩
                              · have q3 : decide (x ≤ y) = false := decide_eq_false p3
                                have HPV := hid (show ∀ z : Int, 0 < k → e.pos[k - 1]? = some z → z < x from fun z _ hz => by rw [← HKP.out, HGY.out] at hz; injection hz with hz; omega)
                                go_wp2_with fail
                                go_quiet (fail)
                                go_wp2_with fail
                                go_roundw
                                case rel => exact ⟨k + 1, by go_num, by omega, hid (fun k' y hk' hy => by
                                  by_cases e1 : k' = k
                                  · subst e1
                                    have hxy : y = x := by rw [HGX.out] at hy; injection hy with hy; exact hy.symm
                                    subst hxy
                                    exact ⟨by omega, by omega, HPV.out⟩
                                  · exact HP.out k' y (by omega) hy), hid (HBk.out.drewN nq), hid (HKk.out.drewN nq)⟩
                                case measure => first | (simp [intOf]; done) | (simp [intOf]; omega)
                      · have hknI : ¬ (k : Int) < (np : Int) := by omega
                        have hent := hid (show entOk es i e from ⟨by have := HDOC.out; omega, by have := HDOC.out; omega, HPREV.out, by have := HNP.out; omega, by have := HNP.out; omega, fun k' y hy => HP.out k' y (by have := (List.getElem?_eq_some_iff.1 hy).1; have := HNP.out; omega) hy⟩)
                        go_wp2_with fail
                        go_roundw
                        case rel => exact ⟨i + 1, by go_num, by omega, hid (fun i' e' hi' he' => by
                          by_cases e1 : i' = i
                          · subst e1
                            have hee : e' = e := by rw [HGE.out] at he'; injection he' with he'; exact he'.symm
                            subst hee
                            exact hent.out
                          · exact HO.out i' e' (by omega) he'), HKk⟩
                        case measure => first | (simp [intOf]; done) | (simp [intOf]; omega)
      · have hltI : ¬ (i : Int) < (es.length : Int) := by omega
        go_wp2_with fail
        exact hR'.out _ _ ⟨by rw [mayB_true ⟨h64, fun i' e h => HO.out i' e (by have := (List.getElem?_eq_some_iff.1 h).1; omega) h⟩], HK.out⟩
  · have h64I : (es.length : Int) > 64 := by omega
    go_wp2_with fail
    exact hR'.out _ _ ⟨by rw [mayB_false (fun h => h64 h.1)], Keeps.refl _ _⟩
end Go.Proofs.Ytbmgmjfpoepgpaa
